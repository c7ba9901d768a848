/- Parts of the proof, one after the other. -/
import Derived.Test.YtkflooljdopldaaGreatS33
import Derived.Deep.RegionHeld3
import Derived.Deep.MidRow
set_option linter.unusedSimpArgs false
set_option linter.unusedVariables false
/- A canvas: back, escape at 77, travel and edit at S, T, L, M. -/
namespace Go.Proofs.YtkflooljdopldaaGreat
open Go.RowKit

def bkS (s : Scr) : Scr := if s.row = s.top then { s with wrap := false } else { s with row := (if s.row - 1 < 0 then 0 else s.row - 1), wrap := false }
def bkC (s : Scr) (cs : List C4) : List C4 := if s.row = s.top then scrollG s.Rn s.Cn cs s.top s.bot (-1) (32, 0, 0, s.b) else cs
def bkF (s : Scr) (fr : Bool) : Bool := if s.row = s.top then true else fr
theorem grown_drew1 {w w' : World} {r : Option Nat} (h : w.grownBy w' r) : w.grownBy w'.drew r := ⟨h.os, h.tape, h.output, h.size, h.block⟩
theorem lostN_neg (s : Scr) (nn : Int) (h : nn ≤ 0) : lostN s nn = 0 := by unfold lostN; rw [if_neg (by omega)]

set_option maxRecDepth 100000 in
set_option maxHeartbeats 1000000 in
theorem cvback_any (s : Scr) (fr : Bool) (cs : List C4) (g : Nat) (w : World) (h : CvI w g s cs none 0 0 fr) (hs : ScX s) :
  Calls Tryz.prog 60 #[.pointer (some ⟨g, 0, none⟩)] w (CvR w g (bkS s) (bkC s cs) 0 (bkF s fr)) := by
 have HI := Lib.hid h
 have hS := h.1
 have hlt := hS.lt
 have hrow0 := hs.2.1.1
 have hrow1 : s.row < 30 := by have := hs.2.1.2.1; have := hs.1.2.1; omega
 have HL := Lib.hid (lostN_neg s (-1) (by omega))
 (have x3 := hS.cell 3 (v := .int .i64 s.row) rfl; have x9 := hS.cell 9 (v := .int .i64 s.top) rfl)
 have z3 := hS.free 3
 have z5 := hS.free 5
 have x5 := hS.cell 5 (v := .bool s.wrap) rfl
 clear h hS
 by_cases hq : s.row = s.top
 ·have c4 : (s.row == s.top) = true := by simpa using hq
  have HE := Lib.hid (show bkS s = { s with wrap := false } ∧ bkC s cs = scrollG s.Rn s.Cn cs s.top s.bot (-1) (32, 0, 0, s.b) ∧ bkF s fr = true from by unfold bkS bkC bkF; rw [if_pos hq, if_pos hq, if_pos hq]; exact ⟨rfl, rfl, rfl⟩)
  rw [HE.out.1, HE.out.2.1, HE.out.2.2]
  clear hq HE
  go_enter Tryz.func60, Tryz.ntmps60
  go_upto_region 0 with (fail)
  have HY := Lib.hid (show ∀ w', Bw w w' → (w'.cell? ⟨g, 3, none⟩ = some (.int .i64 s.row) ∧ w'.cell? ⟨g, 9, none⟩ = some (.int .i64 s.top)) from fun w' hb => ⟨(HI.out.1.up hb).cell 3 rfl, (HI.out.1.up hb).cell 9 rfl⟩)
  refine wp_region_held_drew (S := (fun w' => w'.cell? ⟨g, 3, none⟩ = some (.int .i64 s.row) ∧ w'.cell? ⟨g, 9, none⟩ = some (.int .i64 s.top))) (by kernel_rfl) ?_ (fun hHeld => ?_)
  ·(try dsimp only); (refine HY.out _ ?_; exact BWX)
  refine tkQ 0 ?_
  refine tkQ 1 ?_
  refine tkQ 2 ?_
  (try simp only [Act.put, zP1, zP2, zP3, zP4, zP5, zP6])
  refine tkQ 3 ?_
  refine tkQ 4 ?_
  refine tkQ 5 ?_
  (try simp only [Act.put, zP1, zP2, zP3, zP4, zP5, zP6])
  refine tkQ 6 ?_
  refine tkQ 7 ?_
  refine tkQ 8 ?_
  (try simp only [Act.put, zP1, zP2, zP3, zP4, zP5, zP6])
  refine tkQ 9 ?_
  refine tkQ 10 ?_
  refine tkQ 11 ?_
  (try simp only [Act.put, zP1, zP2, zP3, zP4, zP5, zP6])
  refine tkQ 12 ?_
  (try simp only [Act.put, zP1, zP2, zP3, zP4, zP5, zP6])
  refine wpAnyH_done (by kernel_rfl) ?_ _
  go_wp2_with (first
   | (go_at_call 92; refine (cvscroll_any s fr cs (-1) g _ (HI.out.up BWX) hs (by omega) (by omega)).mono ?_; rintro ee w2 ⟨rfl, A, n, c, L, k, ⟨hS2, hR2⟩, hg2, hA2⟩; rw [HL.out] at hS2; have HB2 := Lib.hid hS2; have hg02 := (grown_bw (show Bw w _ from BWX) (some g)).trans hg2; clear z5 x5 z3; have z5 := HB2.out.free 5; have y5 := HB2.out.cell 5 (v := .bool s.wrap) rfl; have hsz2 := (show Bw w _ from BWX).size; clear hS2 x3 x9)
   | fail)
  go_end0
  obtain ⟨q1, q2, q3, q4, q5⟩ := hR2
  refine ⟨rfl, A, n, c, L, k, ⟨HB2.out.set 5 _ rfl, q1.far (grown_set (grown_refl _ _) 5 _) q5, q2, q3, q4, q5⟩, grown_set hg02 5 _, ?_⟩
  rcases hA2 with hA2 | hA2
  ·exact .inl hA2
  ·exact .inr (fun ad e => Nat.le_trans hsz2 (hA2 ad e))
 ·have c4 : (s.row == s.top) = false := by simpa using hq
  by_cases h0 : s.row - 1 < 0
  ·have HE := Lib.hid (show bkS s = { s with row := 0, wrap := false } ∧ bkC s cs = cs ∧ bkF s fr = fr from by unfold bkS bkC bkF; rw [if_neg hq, if_neg hq, if_neg hq, if_pos h0]; exact ⟨rfl, rfl, rfl⟩)
   rw [HE.out.1, HE.out.2.1, HE.out.2.2]
   clear hq HE
   go_enter Tryz.func60, Tryz.ntmps60
   go_upto_region 0 with (fail)
   have HY := Lib.hid (show ∀ w', Bw w w' → (w'.cell? ⟨g, 3, none⟩ = some (.int .i64 s.row) ∧ w'.cell? ⟨g, 9, none⟩ = some (.int .i64 s.top)) from fun w' hb => ⟨(HI.out.1.up hb).cell 3 rfl, (HI.out.1.up hb).cell 9 rfl⟩)
   refine wp_region_held_drew (S := (fun w' => w'.cell? ⟨g, 3, none⟩ = some (.int .i64 s.row) ∧ w'.cell? ⟨g, 9, none⟩ = some (.int .i64 s.top))) (by kernel_rfl) ?_ (fun hHeld => ?_)
   ·(try dsimp only); (refine HY.out _ ?_; exact BWX)
   refine tkQ 0 ?_
   refine tkQ 1 ?_
   (try simp only [Act.put, zP1, zP2, zP3, zP4, zP5, zP6])
   refine tkQ 2 ?_
   refine tkQ 3 ?_
   refine tkQ 4 ?_
   (try simp only [Act.put, zP1, zP2, zP3, zP4, zP5, zP6])
   refine tkQ 5 ?_
   refine tkQ 6 ?_
   refine tkQ 7 ?_
   (try simp only [Act.put, zP1, zP2, zP3, zP4, zP5, zP6])
   refine tkQ 8 ?_
   refine tkQ 9 ?_
   refine tkQ 10 ?_
   (try simp only [Act.put, zP1, zP2, zP3, zP4, zP5, zP6])
   refine tkQ 11 ?_
   refine tkQ 12 ?_
   (try simp only [Act.put, zP1, zP2, zP3, zP4, zP5, zP6])
   refine wpAnyH_done (by kernel_rfl) ?_ _
   go_wp2_with fail
   go_end0
   obtain ⟨q1, q2, q3, q4, q5⟩ := HI.out.2
   exact ⟨rfl, s.A, s.n, s.c, none, 0, ⟨((HI.out.1.set 3 _ rfl).set 5 _ rfl).drew, q1.far (grown_drew1 (grown_set (grown_set (grown_refl _ _) 3 _) 5 _)) q5, q2, q3, q4, q5⟩, grown_drew1 (grown_set (grown_set (grown_refl _ _) 3 _) 5 _), .inl ⟨rfl, rfl, rfl⟩⟩
  ·have HE := Lib.hid (show bkS s = { s with row := s.row - 1, wrap := false } ∧ bkC s cs = cs ∧ bkF s fr = fr from by unfold bkS bkC bkF; rw [if_neg hq, if_neg hq, if_neg hq, if_neg h0]; exact ⟨rfl, rfl, rfl⟩)
   rw [HE.out.1, HE.out.2.1, HE.out.2.2]
   clear hq HE
   go_enter Tryz.func60, Tryz.ntmps60
   go_upto_region 0 with (fail)
   have HY := Lib.hid (show ∀ w', Bw w w' → (w'.cell? ⟨g, 3, none⟩ = some (.int .i64 s.row) ∧ w'.cell? ⟨g, 9, none⟩ = some (.int .i64 s.top)) from fun w' hb => ⟨(HI.out.1.up hb).cell 3 rfl, (HI.out.1.up hb).cell 9 rfl⟩)
   refine wp_region_held_drew (S := (fun w' => w'.cell? ⟨g, 3, none⟩ = some (.int .i64 s.row) ∧ w'.cell? ⟨g, 9, none⟩ = some (.int .i64 s.top))) (by kernel_rfl) ?_ (fun hHeld => ?_)
   ·(try dsimp only); (refine HY.out _ ?_; exact BWX)
   refine tkQ 0 ?_
   (try simp only [Act.put, zP1, zP2, zP3, zP4, zP5, zP6])
   refine tkQ 1 ?_
   refine tkQ 2 ?_
   refine tkQ 3 ?_
   (try simp only [Act.put, zP1, zP2, zP3, zP4, zP5, zP6])
   refine tkQ 4 ?_
   refine tkQ 5 ?_
   refine tkQ 6 ?_
   (try simp only [Act.put, zP1, zP2, zP3, zP4, zP5, zP6])
   refine tkQ 7 ?_
   refine tkQ 8 ?_
   refine tkQ 9 ?_
   (try simp only [Act.put, zP1, zP2, zP3, zP4, zP5, zP6])
   refine tkQ 10 ?_
   refine tkQ 11 ?_
   refine tkQ 12 ?_
   (try simp only [Act.put, zP1, zP2, zP3, zP4, zP5, zP6])
   refine wpAnyH_done (by kernel_rfl) ?_ _
   go_wp2_with fail
   go_end0
   obtain ⟨q1, q2, q3, q4, q5⟩ := HI.out.2
   exact ⟨rfl, s.A, s.n, s.c, none, 0, ⟨((HI.out.1.set 3 _ rfl).set 5 _ rfl).drew, q1.far (grown_drew1 (grown_set (grown_set (grown_refl _ _) 3 _) 5 _)) q5, q2, q3, q4, q5⟩, grown_drew1 (grown_set (grown_set (grown_refl _ _) 3 _) 5 _), .inl ⟨rfl, rfl, rfl⟩⟩

theorem CvR.later {w w1 : World} {g : Nat} {s : Scr} {cs : List C4} {m : Nat} {fr : Bool} {e : Ending} {w' : World} (h : CvR w1 g s cs m fr e w') (hb : Bw w w1) : CvR w g s cs m fr e w' := by
 obtain ⟨he, A, n, c, L, k, q1, q2, q3⟩ := h
 refine ⟨he, A, n, c, L, k, q1, (grown_bw hb _).trans q2, ?_⟩
 rcases q3 with q3 | q3
 ·exact .inl q3
 ·exact .inr (fun ad e => Nat.le_trans hb.size (q3 ad e))

set_option maxRecDepth 100000 in
set_option maxHeartbeats 1000000 in
theorem cvescape_77 (s : Scr) (fr : Bool) (cs : List C4) (g : Nat) (w : World) (h : CvI w g s cs none 0 0 fr) (hs : ScX s) :
  Calls Tryz.prog 27 #[.pointer (some ⟨g, 0, none⟩), .int .i64 77] w (CvR w g (bkS s) (bkC s cs) 0 (bkF s fr)) := by
 have HI := Lib.hid h
 clear h
 go_enter Tryz.func27, Tryz.ntmps27
 go_wp2_with (first
  | (go_at_call 60; refine (cvback_any s fr cs g _ (HI.out.up BWX) hs).mono ?_; rintro ee w2 hx; obtain ⟨rfl, hx2⟩ := (show CvR w g (bkS s) (bkC s cs) 0 (bkF s fr) ee w2 from hx.later BWX); have HX := Lib.hid hx2; clear hx hx2)
  | fail)
 go_end0
 exact ⟨rfl, HX.out⟩

/-- The codes at which nothing travels. -/
def still4 (cd : Int) : Prop := cd = 83 ∨ cd = 84 ∨ cd = 76 ∨ cd = 77
set_option maxRecDepth 100000 in
set_option maxHeartbeats 1000000 in
theorem cvtravel_no (cd a b : Int) (g : Nat) (w : World) (h : still4 cd) :
  Calls Tryz.prog 65 #[.pointer (some ⟨g, 0, none⟩), .int .i64 cd, .int .i64 a, .int .i64 b] w fun e w' => e = .returned (.tuple #[]) ∧ Bw w w' := by
 rcases h with rfl | rfl | rfl | rfl
 all_goals (go_enter Tryz.func65, Tryz.ntmps65)
 all_goals (go_wp2_with fail)
 all_goals go_end0
 all_goals exact ⟨rfl, BWX⟩

/-- What L and M make of a screen, of its cells. -/
def inM (s : Scr) : Bool := decide (s.top ≤ s.row ∧ s.row ≤ s.bot)
def lmS (s : Scr) : Scr := if inM s = true then { s with row := (mv s.row s.col s.wrap 5 0 s.top s.bot s.Rn s.Cn).1, col := (mv s.row s.col s.wrap 5 0 s.top s.bot s.Rn s.Cn).2.1, wrap := (mv s.row s.col s.wrap 5 0 s.top s.bot s.Rn s.Cn).2.2 } else s
def lmC (s : Scr) (cs : List C4) (by_ : Int) : List C4 := if inM s = true then scrollG s.Rn s.Cn cs s.row s.bot by_ (32, 0, 0, s.b) else cs
def lmF (s : Scr) (fr : Bool) : Bool := if inM s = true then true else fr
/-- What S, T, L, M make: the screen, the cells, how many rows go away, is the grid new. -/
def edS (s : Scr) (cd : Int) : Scr := if cd = 76 ∨ cd = 77 then lmS s else s
def edC (s : Scr) (cs : List C4) (cd n : Int) : List C4 := if cd = 83 then scrollG s.Rn s.Cn cs s.top s.bot n (32, 0, 0, s.b) else if cd = 84 then scrollG s.Rn s.Cn cs s.top s.bot (-n) (32, 0, 0, s.b) else lmC s cs (if cd = 76 then -n else n)
def edN (s : Scr) (cd n : Int) : Nat := if cd = 83 then lostN s n else 0
def edF (s : Scr) (fr : Bool) (cd : Int) : Bool := if cd = 76 ∨ cd = 77 then lmF s fr else true

set_option maxRecDepth 100000 in
set_option maxHeartbeats 1000000 in
theorem cvedit_any (s : Scr) (fr : Bool) (cs : List C4) (cd nn : Int) (g : Nat) (w : World) (h : CvI w g s cs none 0 0 fr) (hs : ScX s) (hcd : still4 cd) (hn0 : 1 ≤ nn) (hn1 : nn ≤ 9999) :
  Calls Tryz.prog 66 #[.pointer (some ⟨g, 0, none⟩), .int .i64 cd, .int .i64 nn] w (CvR w g (edS s cd) (edC s cs cd nn) (edN s cd nn) (edF s fr cd)) := by
 have HI := Lib.hid h
 have HSX := Lib.hid hs
 have HCD := Lib.hid hcd
 have hS := h.1
 have hlt := hS.lt
 clear h hs hcd
 go_enter Tryz.func66, Tryz.ntmps66
 go_upto_region 0 with (fail)
 go_cut [6, 7, 8] (fun a b p w' => a = .int .i64 s.row ∧ b = .int .i64 s.col ∧ ∃ gm, p = .pointer (some ⟨gm, 0, none⟩) ∧ Sb w' gm #[.int .i64 s.top, .int .i64 s.bot] 32 ∧ w.heap.size ≤ gm ∧ Bw w w')
 case first =>
  have HY := Lib.hid (show ∀ w', Bw w w' → (w'.cell? ⟨g, 3, none⟩ = some (.int .i64 s.row) ∧ w'.cell? ⟨g, 4, none⟩ = some (.int .i64 s.col) ∧ w'.cell? ⟨g, 9, none⟩ = some (.int .i64 s.top) ∧ w'.cell? ⟨g, 10, none⟩ = some (.int .i64 s.bot)) from fun w' hb => ⟨(HI.out.1.up hb).cell 3 rfl, (HI.out.1.up hb).cell 4 rfl, (HI.out.1.up hb).cell 9 rfl, (HI.out.1.up hb).cell 10 rfl⟩)
  refine wp_region_held_drew (S := (fun w' => w'.cell? ⟨g, 3, none⟩ = some (.int .i64 s.row) ∧ w'.cell? ⟨g, 4, none⟩ = some (.int .i64 s.col) ∧ w'.cell? ⟨g, 9, none⟩ = some (.int .i64 s.top) ∧ w'.cell? ⟨g, 10, none⟩ = some (.int .i64 s.bot))) (by kernel_rfl) ?_ (fun hHeld => ?_)
  ·(try dsimp only); (refine HY.out _ ?_; exact BWX)
  refine tkQ 0 ?_
  refine tkQ 1 ?_
  refine tkQ 2 ?_
  (try simp only [Act.put, zP1, zP2, zP3, zP4, zP5, zP6])
  refine tkQ 3 ?_
  refine tkQ 4 ?_
  refine tkQ 5 ?_
  (try simp only [Act.put, zP1, zP2, zP3, zP4, zP5, zP6])
  refine tkQ 6 ?_
  refine tkQ 7 ?_
  refine tkQ 8 ?_
  (try simp only [Act.put, zP1, zP2, zP3, zP4, zP5, zP6])
  refine tkQ 9 ?_
  refine tkQ 10 ?_
  refine tkQ 11 ?_
  (try simp only [Act.put, zP1, zP2, zP3, zP4, zP5, zP6])
  refine tkQ 12 ?_
  refine tkQ 13 ?_
  refine tkQ 14 ?_
  (try simp only [Act.put, zP1, zP2, zP3, zP4, zP5, zP6])
  refine tkQ 15 ?_
  refine tkQ 16 ?_
  (try simp only [Act.put, zP1, zP2, zP3, zP4, zP5, zP6])
  refine wpAnyH_ready (rs := [17]) (by kernel_rfl) (by simp) ?_
  refine AllReadyH.cons rfl (fun K hK => ?_) ?_
  ·go_simp
   refine hK.out _ _ ?_ (fun hHeld => ?_)
   ·(try dsimp only); (refine HY.out _ ?_; exact BWX)
   clear hK K
   (try simp only [Act.put, zP1, zP2, zP3, zP4, zP5, zP6])
   refine wpAnyH_ready (rs := [18]) (by kernel_rfl) (by simp) ?_
   refine AllReadyH.cons rfl (fun K hK => ?_) ?_
   ·go_simp
    refine hK.out _ _ ?_ (fun hHeld => ?_)
    ·(try dsimp only); (refine HY.out _ ?_; exact BWX)
    clear hK K
    (try simp only [Act.put, zP1, zP2, zP3, zP4, zP5, zP6])
    refine wpAnyH_ready (rs := [19]) (by kernel_rfl) (by simp) ?_
    refine AllReadyH.cons rfl (fun K hK => ?_) ?_
    ·go_simp
     refine hK.out _ _ ?_ (fun hHeld => ?_)
     ·(try dsimp only); (refine HY.out _ ?_; exact BWX)
     clear hK K
     (try simp only [Act.put, zP1, zP2, zP3, zP4, zP5, zP6])
     refine wpAnyH_ready (rs := [20]) (by kernel_rfl) (by simp) ?_
     refine AllReadyH.cons rfl (fun K hK => ?_) ?_
     ·go_simp
      refine hK.out _ _ ?_ (fun hHeld => ?_)
      ·(try dsimp only); (refine HY.out _ ?_; exact BWX)
      clear hK K
      (try simp only [Act.put, zP1, zP2, zP3, zP4, zP5, zP6])
      refine wpAnyH_done (by kernel_rfl) ?_ _
      go_wp2_with fail
      go_meet
      case rel => first
       | exact ⟨rfl, rfl, w.heap.size, rfl, (sb1 rfl).1, Nat.le_refl _, BWX⟩
       | exact ⟨rfl, rfl, w.heap.size, rfl, (sb1 rfl).1.drew, Nat.le_refl _, BWX⟩
     exact AllReadyH.nil
    exact AllReadyH.nil
   exact AllReadyH.nil
  exact AllReadyH.nil
 case rest =>
 obtain ⟨rfl, rfl, gm, rfl, hgm, hgz, hbc⟩ := hcut
 have HM := Lib.hid hgm
 have HIc := Lib.hid (HI.out.up hbc)
 have HBc := Lib.hid hbc
 have hltc := HIc.out.1.lt
 have hltm := hgm.lt
 have y0 := hgm.cell 0 (v := .int .i64 s.top) rfl
 have y1 := hgm.cell 1 (v := .int .i64 s.bot) rfl
 have hgne : some gm ≠ some g := fun e => by have := Option.some.inj e; omega
 have hzc := hbc.size
 clear hS hgm hbc
 rcases HCD.out with rfl | rfl | rfl | rfl
 ·go_wp2_with (first
   | (go_at_call 92; refine (cvscroll_any s fr cs nn g _ (HIc.out.up BWX) HSX.out (by omega) (by omega)).mono ?_; rintro ee w2 hx; obtain ⟨rfl, hx2⟩ := (show CvR w g s (scrollG s.Rn s.Cn cs s.top s.bot nn (32, 0, 0, s.b)) (lostN s nn) true ee w2 from hx.later (Bw.trans HBc.out BWX)); have HX := Lib.hid hx2; clear hx hx2)
   | fail)
  go_end0
  exact ⟨rfl, HX.out⟩
 ·go_wp2_with (first
   | (go_at_call 92; refine (cvscroll_any s fr cs (-nn) g _ (HIc.out.up BWX) HSX.out (by omega) (by omega)).mono ?_; rintro ee w2 hx; obtain ⟨rfl, hx2⟩ := (show CvR w g s (scrollG s.Rn s.Cn cs s.top s.bot (-nn) (32, 0, 0, s.b)) (lostN s (-nn)) true ee w2 from hx.later (Bw.trans HBc.out BWX)); rw [lostN_neg s (-nn) (by omega)] at hx2; have HX := Lib.hid hx2; clear hx hx2)
   | fail)
  go_end0
  exact ⟨rfl, HX.out⟩
 ·have HE := Lib.hid (show edS s 76 = lmS s ∧ edC s cs 76 nn = lmC s cs (-nn) ∧ edN s 76 nn = 0 ∧ edF s fr 76 = lmF s fr from ⟨by unfold edS; rw [if_pos (by omega)], by unfold edC; rw [if_neg (by omega), if_neg (by omega), if_pos rfl], by unfold edN; rw [if_neg (by omega)], by unfold edF; rw [if_pos (by omega)]⟩)
  have hways : s.row < s.top ∨ (s.top ≤ s.row ∧ s.bot < s.row) ∨ (s.top ≤ s.row ∧ s.row ≤ s.bot) := by omega
  have HIM := Lib.hid (show ((s.row < s.top ∨ (s.top ≤ s.row ∧ s.bot < s.row)) → lmS s = s ∧ lmC s cs (-nn) = cs ∧ lmF s fr = fr) from fun h => by
   have h2 : ¬ inM s = true := fun h3 => by have := of_decide_eq_true h3; omega
   unfold lmS lmC lmF
   rw [if_neg h2, if_neg h2, if_neg h2]
   exact ⟨rfl, rfl, rfl⟩)
  rcases hways with c1 | ⟨c1, c2⟩ | ⟨c1, c2⟩
  iterate 2
   ·obtain ⟨e1, e2, e3⟩ := HIM.out (by omega)
    have HEE := Lib.hid (And.intro e1 (And.intro e2 e3))
    clear e1 e2 e3
    go_wp2_with fail
    go_end0
    rw [HE.out.1, HE.out.2.1, HE.out.2.2.1, HE.out.2.2.2, HEE.out.1, HEE.out.2.1, HEE.out.2.2]
    exact ⟨rfl, s.A, s.n, s.c, none, 0, HIc.out.up BWX, grown_bw (Bw.trans HBc.out BWX) _, .inl ⟨rfl, rfl, rfl⟩⟩
  have h2 : inM s = true := decide_eq_true ⟨c1, c2⟩
  have HE2 := Lib.hid (show lmS s = { s with row := (mv s.row s.col s.wrap 5 0 s.top s.bot s.Rn s.Cn).1, col := (mv s.row s.col s.wrap 5 0 s.top s.bot s.Rn s.Cn).2.1, wrap := (mv s.row s.col s.wrap 5 0 s.top s.bot s.Rn s.Cn).2.2 } ∧ lmC s cs (-nn) = scrollG s.Rn s.Cn cs s.row s.bot (-nn) (32, 0, 0, s.b) ∧ lmF s fr = true from by unfold lmS lmC lmF; rw [if_pos h2, if_pos h2, if_pos h2]; exact ⟨rfl, rfl, rfl⟩)
  clear h2
  have x0 := HIc.out.1.cell 0 (v := .int .i64 (s.Rn : Int)) rfl
  have x1 := HIc.out.1.cell 1 (v := .int .i64 (s.Cn : Int)) rfl
  have x2 := HIc.out.1.cell 2 (v := .slice s.A s.n s.c) rfl
  have HY := Lib.hid (show ∀ w', Bw wc w' → (w'.cell? ⟨gm, 0, none⟩ = some (.int .i64 s.top) ∧ w'.cell? ⟨gm, 1, none⟩ = some (.int .i64 s.bot)) from fun w' hb => ⟨(HM.out.up hb).cell 0 rfl, (HM.out.up hb).cell 1 rfl⟩)
  go_upto_region 8 with (fail)
  clear y0 y1
  refine wp_region_held_drew (S := (fun w' => w'.cell? ⟨gm, 0, none⟩ = some (.int .i64 s.top) ∧ w'.cell? ⟨gm, 1, none⟩ = some (.int .i64 s.bot))) (by kernel_rfl) ?_ (fun hHeld => ?_)
  ·(try dsimp only); (first | (refine HY.out _ ?_; (repeat (first | with_reducible (first | assumption | exact Bw.refl _ | refine Bw.alloc ?_ _ | refine Bw.more ?_ _ _ | refine Bw.drew ?_ | refine Bw.drewN ?_ _) | ((with_reducible refine Bw.set2 ?_ ?_ _); (focus exact SZX)) | with_reducible refine Bw.trans ?_ (by assumption))); done) | exact ⟨cell_far hHeld.1 HG6.out hgne, cell_far hHeld.2 HG6.out hgne⟩)
  refine tkQ 0 ?_
  (try simp only [Act.put, zP1, zP2, zP3, zP4, zP5, zP6])
  refine tkQ 1 ?_
  refine tkQ 2 ?_
  refine tkQ 3 ?_
  (try simp only [Act.put, zP1, zP2, zP3, zP4, zP5, zP6])
  refine tkQ 4 ?_
  refine tkQ 6 ?_
  refine tkQ 7 ?_
  (try simp only [Act.put, zP1, zP2, zP3, zP4, zP5, zP6])
  refine tkQ 8 ?_
  refine tkQ 9 ?_
  refine tkQ 10 ?_
  (try simp only [Act.put, zP1, zP2, zP3, zP4, zP5, zP6])
  refine wpAnyH_ready (rs := [5, 11]) (by kernel_rfl) (by simp) ?_
  refine AllReadyH.cons rfl (fun K hK => ?_) ?_
  ·go_simp
   refine hK.out _ _ ?_ (fun hHeld => ?_)
   ·(try dsimp only); (first | (refine HY.out _ ?_; (repeat (first | with_reducible (first | assumption | exact Bw.refl _ | refine Bw.alloc ?_ _ | refine Bw.more ?_ _ _ | refine Bw.drew ?_ | refine Bw.drewN ?_ _) | ((with_reducible refine Bw.set2 ?_ ?_ _); (focus exact SZX)) | with_reducible refine Bw.trans ?_ (by assumption))); done) | exact ⟨cell_far hHeld.1 HG6.out hgne, cell_far hHeld.2 HG6.out hgne⟩)
   clear hK K
   (try simp only [Act.put, zP1, zP2, zP3, zP4, zP5, zP6])
   refine wpAnyH_ready (rs := [11]) (by kernel_rfl) (by simp) ?_
   refine AllReadyH.cons rfl (fun K hK => ?_) ?_
   ·go_simp
    refine (cvempty_any s none 0 0 fr g _ (HIc.out.1.up BWX)).mono ?_; rintro ee w4 ⟨rfl, hb4⟩; have hbw4 : Bw wc w4 := Bw.trans (show Bw wc _ from BWX) hb4; have HB4 := Lib.hid (HIc.out.1.up hbw4); (try clear x0 x1 x2); (have x0 := HB4.out.cell 0 (v := .int .i64 (s.Rn : Int)) rfl; have x1 := HB4.out.cell 1 (v := .int .i64 (s.Cn : Int)) rfl; have x2 := HB4.out.cell 2 (v := .slice s.A s.n s.c) rfl); go_wp2_with fail
    refine hK.out _ _ ?_ (fun hHeld => ?_)
    ·(try dsimp only); (first | (refine HY.out _ ?_; (repeat (first | with_reducible (first | assumption | exact Bw.refl _ | refine Bw.alloc ?_ _ | refine Bw.more ?_ _ _ | refine Bw.drew ?_ | refine Bw.drewN ?_ _) | ((with_reducible refine Bw.set2 ?_ ?_ _); (focus exact SZX)) | with_reducible refine Bw.trans ?_ (by assumption))); done) | exact ⟨cell_far hHeld.1 HG6.out hgne, cell_far hHeld.2 HG6.out hgne⟩)
    clear hK K
    (try simp only [Act.put, zP1, zP2, zP3, zP4, zP5, zP6])
    refine wpAnyH_ready (rs := [12]) (by kernel_rfl) (by simp) ?_
    refine AllReadyH.cons rfl (fun K hK => ?_) ?_
    ·go_simp
     refine (gscroll_any s.Rn s.Cn s.A s.n s.c cs s.row s.bot (-nn) 32 0 0 s.b _ (HIc.out.2.1.up BWX) HIc.out.2.2.1 (by have := HIc.out.2.2.2.2.1; omega) HIc.out.2.2.2.1).mono ?_; rintro ee w5 ⟨A', n', c', rfl, hr5, hn5, hc5, hnew5, hb5⟩; have hbw5 : Bw wc w5 := Bw.trans (show Bw wc _ from BWX) hb5; have HR5 := Lib.hid hr5; have HNW := Lib.hid (show ∀ ad, A' = some ad → wc.heap.size ≤ ad.block from fun ad e => by have h1 := hnew5 ad e; (have h2 := (show Bw wc _ from hbw4).size); first | omega | (simp only [szA, szS, szD, szN] at h1; omega)); clear hr5 hnew5; go_wp2_with fail
     refine hK.out _ _ ?_ (fun hHeld => ?_)
     ·(try dsimp only); (first | (refine HY.out _ ?_; (repeat (first | with_reducible (first | assumption | exact Bw.refl _ | refine Bw.alloc ?_ _ | refine Bw.more ?_ _ _ | refine Bw.drew ?_ | refine Bw.drewN ?_ _) | ((with_reducible refine Bw.set2 ?_ ?_ _); (focus exact SZX)) | with_reducible refine Bw.trans ?_ (by assumption))); done) | exact ⟨cell_far hHeld.1 HG6.out hgne, cell_far hHeld.2 HG6.out hgne⟩)
     clear hK K
     (try simp only [Act.put, zP1, zP2, zP3, zP4, zP5, zP6])
     refine wpAnyH_ready (rs := [13]) (by kernel_rfl) (by simp) ?_
     refine AllReadyH.cons rfl (fun K hK => ?_) ?_
     ·go_simp
      refine (cvpaint_any s none 0 0 fr s.Rn s.Cn A' n' c' g _ (HIc.out.1.up BWX)).mono ?_; rintro ee w6 ⟨rfl, hS6, hg6⟩; have hg56 : w5.grownBy w6 (some g) := (grown_bw (show Bw w5 _ from BWX) _).trans hg6; have HS6 := Lib.hid hS6; have HG6 := Lib.hid hg6; have HG56 := Lib.hid hg56; clear hS6 hg6 hg56; go_wp2_with fail
      refine hK.out _ _ ?_ (fun hHeld => ?_)
      ·(try dsimp only); (first | (refine HY.out _ ?_; (repeat (first | with_reducible (first | assumption | exact Bw.refl _ | refine Bw.alloc ?_ _ | refine Bw.more ?_ _ _ | refine Bw.drew ?_ | refine Bw.drewN ?_ _) | ((with_reducible refine Bw.set2 ?_ ?_ _); (focus exact SZX)) | with_reducible refine Bw.trans ?_ (by assumption))); done) | exact ⟨cell_far hHeld.1 HG6.out hgne, cell_far hHeld.2 HG6.out hgne⟩)
      clear hK K
      (try simp only [Act.put, zP1, zP2, zP3, zP4, zP5, zP6])
      refine wpAnyH_done (by kernel_rfl) ?_ _
      have hnn : ∀ ad, A' = some ad → some ad.block ≠ some g := fun ad e e2 => by have := HNW.out ad e; have := Option.some.inj e2; omega
      have hl : n' ≤ 3000 := by have h1 := HR5.out.1; have h2 := HIc.out.2.1.1; have h3 := HIc.out.2.2.2.2.1; rw [scrollG_len] at h1; omega
      have HF := Lib.hid (And.intro hnn (And.intro hl (HR5.out.far HG56.out hnn)))
      have HGW := Lib.hid ((grown_bw HBc.out (some g)).trans ((grown_bw hbw5 _).trans HG56.out))
      have hlt6 := HS6.out.lt
      clear hnn hl x0 x1 x2
      go_wp2_with (first
       | (go_at_call 57; refine (cvmove_any ({ s with A := A', n := n', c := c' } : Scr) none 0 0 true 5 0 g _ (HS6.out.up BWX) HSX.out.1.2.1 HSX.out.1.2.2.2 (by omega)).mono ?_; rintro ee w7 ⟨rfl, hS7, hg7⟩; have HS7 := Lib.hid hS7; have HG7 := Lib.hid ((grown_bw (show Bw w6 _ from BWX) (some g)).trans hg7); clear hS7 hg7)
       | fail)
      go_end0
      rw [HE.out.1, HE.out.2.1, HE.out.2.2.1, HE.out.2.2.2, HE2.out.1, HE2.out.2.1, HE2.out.2.2]
      exact ⟨rfl, A', n', c', none, 0, ⟨HS7.out, HF.out.2.2.far HG7.out HF.out.1, hn5, hc5, HF.out.2.1, HF.out.1⟩, HGW.out.trans HG7.out, .inr (fun ad e => by have := HNW.out ad e; omega)⟩
     exact AllReadyH.nil
    exact AllReadyH.nil
   exact AllReadyH.nil
  refine AllReadyH.cons rfl (fun K hK => ?_) ?_
  ·go_simp
   refine (cvempty_any s none 0 0 fr g _ (HIc.out.1.up BWX)).mono ?_; rintro ee w4 ⟨rfl, hb4⟩; have hbw4 : Bw wc w4 := Bw.trans (show Bw wc _ from BWX) hb4; have HB4 := Lib.hid (HIc.out.1.up hbw4); (try clear x0 x1 x2); (have x0 := HB4.out.cell 0 (v := .int .i64 (s.Rn : Int)) rfl; have x1 := HB4.out.cell 1 (v := .int .i64 (s.Cn : Int)) rfl; have x2 := HB4.out.cell 2 (v := .slice s.A s.n s.c) rfl); go_wp2_with fail
   refine hK.out _ _ ?_ (fun hHeld => ?_)
   ·(try dsimp only); (first | (refine HY.out _ ?_; (repeat (first | with_reducible (first | assumption | exact Bw.refl _ | refine Bw.alloc ?_ _ | refine Bw.more ?_ _ _ | refine Bw.drew ?_ | refine Bw.drewN ?_ _) | ((with_reducible refine Bw.set2 ?_ ?_ _); (focus exact SZX)) | with_reducible refine Bw.trans ?_ (by assumption))); done) | exact ⟨cell_far hHeld.1 HG6.out hgne, cell_far hHeld.2 HG6.out hgne⟩)
   clear hK K
   (try simp only [Act.put, zP1, zP2, zP3, zP4, zP5, zP6])
   refine wpAnyH_ready (rs := [5]) (by kernel_rfl) (by simp) ?_
   refine AllReadyH.cons rfl (fun K hK => ?_) ?_
   ·go_simp
    refine hK.out _ _ ?_ (fun hHeld => ?_)
    ·(try dsimp only); (first | (refine HY.out _ ?_; (repeat (first | with_reducible (first | assumption | exact Bw.refl _ | refine Bw.alloc ?_ _ | refine Bw.more ?_ _ _ | refine Bw.drew ?_ | refine Bw.drewN ?_ _) | ((with_reducible refine Bw.set2 ?_ ?_ _); (focus exact SZX)) | with_reducible refine Bw.trans ?_ (by assumption))); done) | exact ⟨cell_far hHeld.1 HG6.out hgne, cell_far hHeld.2 HG6.out hgne⟩)
    clear hK K
    (try simp only [Act.put, zP1, zP2, zP3, zP4, zP5, zP6])
    refine wpAnyH_ready (rs := [12]) (by kernel_rfl) (by simp) ?_
    refine AllReadyH.cons rfl (fun K hK => ?_) ?_
    ·go_simp
     refine (gscroll_any s.Rn s.Cn s.A s.n s.c cs s.row s.bot (-nn) 32 0 0 s.b _ (HIc.out.2.1.up BWX) HIc.out.2.2.1 (by have := HIc.out.2.2.2.2.1; omega) HIc.out.2.2.2.1).mono ?_; rintro ee w5 ⟨A', n', c', rfl, hr5, hn5, hc5, hnew5, hb5⟩; have hbw5 : Bw wc w5 := Bw.trans (show Bw wc _ from BWX) hb5; have HR5 := Lib.hid hr5; have HNW := Lib.hid (show ∀ ad, A' = some ad → wc.heap.size ≤ ad.block from fun ad e => by have h1 := hnew5 ad e; (have h2 := (show Bw wc _ from hbw4).size); first | omega | (simp only [szA, szS, szD, szN] at h1; omega)); clear hr5 hnew5; go_wp2_with fail
     refine hK.out _ _ ?_ (fun hHeld => ?_)
     ·(try dsimp only); (first | (refine HY.out _ ?_; (repeat (first | with_reducible (first | assumption | exact Bw.refl _ | refine Bw.alloc ?_ _ | refine Bw.more ?_ _ _ | refine Bw.drew ?_ | refine Bw.drewN ?_ _) | ((with_reducible refine Bw.set2 ?_ ?_ _); (focus exact SZX)) | with_reducible refine Bw.trans ?_ (by assumption))); done) | exact ⟨cell_far hHeld.1 HG6.out hgne, cell_far hHeld.2 HG6.out hgne⟩)
     clear hK K
     (try simp only [Act.put, zP1, zP2, zP3, zP4, zP5, zP6])
     refine wpAnyH_ready (rs := [13]) (by kernel_rfl) (by simp) ?_
     refine AllReadyH.cons rfl (fun K hK => ?_) ?_
     ·go_simp
      refine (cvpaint_any s none 0 0 fr s.Rn s.Cn A' n' c' g _ (HIc.out.1.up BWX)).mono ?_; rintro ee w6 ⟨rfl, hS6, hg6⟩; have hg56 : w5.grownBy w6 (some g) := (grown_bw (show Bw w5 _ from BWX) _).trans hg6; have HS6 := Lib.hid hS6; have HG6 := Lib.hid hg6; have HG56 := Lib.hid hg56; clear hS6 hg6 hg56; go_wp2_with fail
      refine hK.out _ _ ?_ (fun hHeld => ?_)
      ·(try dsimp only); (first | (refine HY.out _ ?_; (repeat (first | with_reducible (first | assumption | exact Bw.refl _ | refine Bw.alloc ?_ _ | refine Bw.more ?_ _ _ | refine Bw.drew ?_ | refine Bw.drewN ?_ _) | ((with_reducible refine Bw.set2 ?_ ?_ _); (focus exact SZX)) | with_reducible refine Bw.trans ?_ (by assumption))); done) | exact ⟨cell_far hHeld.1 HG6.out hgne, cell_far hHeld.2 HG6.out hgne⟩)
      clear hK K
      (try simp only [Act.put, zP1, zP2, zP3, zP4, zP5, zP6])
      refine wpAnyH_done (by kernel_rfl) ?_ _
      have hnn : ∀ ad, A' = some ad → some ad.block ≠ some g := fun ad e e2 => by have := HNW.out ad e; have := Option.some.inj e2; omega
      have hl : n' ≤ 3000 := by have h1 := HR5.out.1; have h2 := HIc.out.2.1.1; have h3 := HIc.out.2.2.2.2.1; rw [scrollG_len] at h1; omega
      have HF := Lib.hid (And.intro hnn (And.intro hl (HR5.out.far HG56.out hnn)))
      have HGW := Lib.hid ((grown_bw HBc.out (some g)).trans ((grown_bw hbw5 _).trans HG56.out))
      have hlt6 := HS6.out.lt
      clear hnn hl x0 x1 x2
      go_wp2_with (first
       | (go_at_call 57; refine (cvmove_any ({ s with A := A', n := n', c := c' } : Scr) none 0 0 true 5 0 g _ (HS6.out.up BWX) HSX.out.1.2.1 HSX.out.1.2.2.2 (by omega)).mono ?_; rintro ee w7 ⟨rfl, hS7, hg7⟩; have HS7 := Lib.hid hS7; have HG7 := Lib.hid ((grown_bw (show Bw w6 _ from BWX) (some g)).trans hg7); clear hS7 hg7)
       | fail)
      go_end0
      rw [HE.out.1, HE.out.2.1, HE.out.2.2.1, HE.out.2.2.2, HE2.out.1, HE2.out.2.1, HE2.out.2.2]
      exact ⟨rfl, A', n', c', none, 0, ⟨HS7.out, HF.out.2.2.far HG7.out HF.out.1, hn5, hc5, HF.out.2.1, HF.out.1⟩, HGW.out.trans HG7.out, .inr (fun ad e => by have := HNW.out ad e; omega)⟩
     exact AllReadyH.nil
    exact AllReadyH.nil
   exact AllReadyH.nil
  exact AllReadyH.nil
 ·have HE := Lib.hid (show edS s 77 = lmS s ∧ edC s cs 77 nn = lmC s cs (nn) ∧ edN s 77 nn = 0 ∧ edF s fr 77 = lmF s fr from ⟨by unfold edS; rw [if_pos (by omega)], by unfold edC; rw [if_neg (by omega), if_neg (by omega), if_neg (by omega)], by unfold edN; rw [if_neg (by omega)], by unfold edF; rw [if_pos (by omega)]⟩)
  have hways : s.row < s.top ∨ (s.top ≤ s.row ∧ s.bot < s.row) ∨ (s.top ≤ s.row ∧ s.row ≤ s.bot) := by omega
  have HIM := Lib.hid (show ((s.row < s.top ∨ (s.top ≤ s.row ∧ s.bot < s.row)) → lmS s = s ∧ lmC s cs (nn) = cs ∧ lmF s fr = fr) from fun h => by
   have h2 : ¬ inM s = true := fun h3 => by have := of_decide_eq_true h3; omega
   unfold lmS lmC lmF
   rw [if_neg h2, if_neg h2, if_neg h2]
   exact ⟨rfl, rfl, rfl⟩)
  rcases hways with c1 | ⟨c1, c2⟩ | ⟨c1, c2⟩
  iterate 2
   ·obtain ⟨e1, e2, e3⟩ := HIM.out (by omega)
    have HEE := Lib.hid (And.intro e1 (And.intro e2 e3))
    clear e1 e2 e3
    go_wp2_with fail
    go_end0
    rw [HE.out.1, HE.out.2.1, HE.out.2.2.1, HE.out.2.2.2, HEE.out.1, HEE.out.2.1, HEE.out.2.2]
    exact ⟨rfl, s.A, s.n, s.c, none, 0, HIc.out.up BWX, grown_bw (Bw.trans HBc.out BWX) _, .inl ⟨rfl, rfl, rfl⟩⟩
  have h2 : inM s = true := decide_eq_true ⟨c1, c2⟩
  have HE2 := Lib.hid (show lmS s = { s with row := (mv s.row s.col s.wrap 5 0 s.top s.bot s.Rn s.Cn).1, col := (mv s.row s.col s.wrap 5 0 s.top s.bot s.Rn s.Cn).2.1, wrap := (mv s.row s.col s.wrap 5 0 s.top s.bot s.Rn s.Cn).2.2 } ∧ lmC s cs (nn) = scrollG s.Rn s.Cn cs s.row s.bot (nn) (32, 0, 0, s.b) ∧ lmF s fr = true from by unfold lmS lmC lmF; rw [if_pos h2, if_pos h2, if_pos h2]; exact ⟨rfl, rfl, rfl⟩)
  clear h2
  have x0 := HIc.out.1.cell 0 (v := .int .i64 (s.Rn : Int)) rfl
  have x1 := HIc.out.1.cell 1 (v := .int .i64 (s.Cn : Int)) rfl
  have x2 := HIc.out.1.cell 2 (v := .slice s.A s.n s.c) rfl
  have HY := Lib.hid (show ∀ w', Bw wc w' → (w'.cell? ⟨gm, 0, none⟩ = some (.int .i64 s.top) ∧ w'.cell? ⟨gm, 1, none⟩ = some (.int .i64 s.bot)) from fun w' hb => ⟨(HM.out.up hb).cell 0 rfl, (HM.out.up hb).cell 1 rfl⟩)
  go_upto_region 8 with (fail)
  clear y0 y1
  refine wp_region_held_drew (S := (fun w' => w'.cell? ⟨gm, 0, none⟩ = some (.int .i64 s.top) ∧ w'.cell? ⟨gm, 1, none⟩ = some (.int .i64 s.bot))) (by kernel_rfl) ?_ (fun hHeld => ?_)
  ·(try dsimp only); (first | (refine HY.out _ ?_; (repeat (first | with_reducible (first | assumption | exact Bw.refl _ | refine Bw.alloc ?_ _ | refine Bw.more ?_ _ _ | refine Bw.drew ?_ | refine Bw.drewN ?_ _) | ((with_reducible refine Bw.set2 ?_ ?_ _); (focus exact SZX)) | with_reducible refine Bw.trans ?_ (by assumption))); done) | exact ⟨cell_far hHeld.1 HG6.out hgne, cell_far hHeld.2 HG6.out hgne⟩)
  refine tkQ 0 ?_
  refine tkQ 1 ?_
  refine tkQ 2 ?_
  (try simp only [Act.put, zP1, zP2, zP3, zP4, zP5, zP6])
  refine tkQ 3 ?_
  refine tkQ 4 ?_
  refine tkQ 6 ?_
  (try simp only [Act.put, zP1, zP2, zP3, zP4, zP5, zP6])
  refine tkQ 7 ?_
  refine tkQ 8 ?_
  refine tkQ 9 ?_
  (try simp only [Act.put, zP1, zP2, zP3, zP4, zP5, zP6])
  refine tkQ 10 ?_
  (try simp only [Act.put, zP1, zP2, zP3, zP4, zP5, zP6])
  refine wpAnyH_ready (rs := [5, 11]) (by kernel_rfl) (by simp) ?_
  refine AllReadyH.cons rfl (fun K hK => ?_) ?_
  ·go_simp
   refine hK.out _ _ ?_ (fun hHeld => ?_)
   ·(try dsimp only); (first | (refine HY.out _ ?_; (repeat (first | with_reducible (first | assumption | exact Bw.refl _ | refine Bw.alloc ?_ _ | refine Bw.more ?_ _ _ | refine Bw.drew ?_ | refine Bw.drewN ?_ _) | ((with_reducible refine Bw.set2 ?_ ?_ _); (focus exact SZX)) | with_reducible refine Bw.trans ?_ (by assumption))); done) | exact ⟨cell_far hHeld.1 HG6.out hgne, cell_far hHeld.2 HG6.out hgne⟩)
   clear hK K
   (try simp only [Act.put, zP1, zP2, zP3, zP4, zP5, zP6])
   refine wpAnyH_ready (rs := [11]) (by kernel_rfl) (by simp) ?_
   refine AllReadyH.cons rfl (fun K hK => ?_) ?_
   ·go_simp
    refine (cvempty_any s none 0 0 fr g _ (HIc.out.1.up BWX)).mono ?_; rintro ee w4 ⟨rfl, hb4⟩; have hbw4 : Bw wc w4 := Bw.trans (show Bw wc _ from BWX) hb4; have HB4 := Lib.hid (HIc.out.1.up hbw4); (try clear x0 x1 x2); (have x0 := HB4.out.cell 0 (v := .int .i64 (s.Rn : Int)) rfl; have x1 := HB4.out.cell 1 (v := .int .i64 (s.Cn : Int)) rfl; have x2 := HB4.out.cell 2 (v := .slice s.A s.n s.c) rfl); go_wp2_with fail
    refine hK.out _ _ ?_ (fun hHeld => ?_)
    ·(try dsimp only); (first | (refine HY.out _ ?_; (repeat (first | with_reducible (first | assumption | exact Bw.refl _ | refine Bw.alloc ?_ _ | refine Bw.more ?_ _ _ | refine Bw.drew ?_ | refine Bw.drewN ?_ _) | ((with_reducible refine Bw.set2 ?_ ?_ _); (focus exact SZX)) | with_reducible refine Bw.trans ?_ (by assumption))); done) | exact ⟨cell_far hHeld.1 HG6.out hgne, cell_far hHeld.2 HG6.out hgne⟩)
    clear hK K
    (try simp only [Act.put, zP1, zP2, zP3, zP4, zP5, zP6])
    refine wpAnyH_ready (rs := [12]) (by kernel_rfl) (by simp) ?_
    refine AllReadyH.cons rfl (fun K hK => ?_) ?_
    ·go_simp
     refine (gscroll_any s.Rn s.Cn s.A s.n s.c cs s.row s.bot (nn) 32 0 0 s.b _ (HIc.out.2.1.up BWX) HIc.out.2.2.1 (by have := HIc.out.2.2.2.2.1; omega) HIc.out.2.2.2.1).mono ?_; rintro ee w5 ⟨A', n', c', rfl, hr5, hn5, hc5, hnew5, hb5⟩; have hbw5 : Bw wc w5 := Bw.trans (show Bw wc _ from BWX) hb5; have HR5 := Lib.hid hr5; have HNW := Lib.hid (show ∀ ad, A' = some ad → wc.heap.size ≤ ad.block from fun ad e => by have h1 := hnew5 ad e; (have h2 := (show Bw wc _ from hbw4).size); first | omega | (simp only [szA, szS, szD, szN] at h1; omega)); clear hr5 hnew5; go_wp2_with fail
     refine hK.out _ _ ?_ (fun hHeld => ?_)
     ·(try dsimp only); (first | (refine HY.out _ ?_; (repeat (first | with_reducible (first | assumption | exact Bw.refl _ | refine Bw.alloc ?_ _ | refine Bw.more ?_ _ _ | refine Bw.drew ?_ | refine Bw.drewN ?_ _) | ((with_reducible refine Bw.set2 ?_ ?_ _); (focus exact SZX)) | with_reducible refine Bw.trans ?_ (by assumption))); done) | exact ⟨cell_far hHeld.1 HG6.out hgne, cell_far hHeld.2 HG6.out hgne⟩)
     clear hK K
     (try simp only [Act.put, zP1, zP2, zP3, zP4, zP5, zP6])
     refine wpAnyH_ready (rs := [13]) (by kernel_rfl) (by simp) ?_
     refine AllReadyH.cons rfl (fun K hK => ?_) ?_
     ·go_simp
      refine (cvpaint_any s none 0 0 fr s.Rn s.Cn A' n' c' g _ (HIc.out.1.up BWX)).mono ?_; rintro ee w6 ⟨rfl, hS6, hg6⟩; have hg56 : w5.grownBy w6 (some g) := (grown_bw (show Bw w5 _ from BWX) _).trans hg6; have HS6 := Lib.hid hS6; have HG6 := Lib.hid hg6; have HG56 := Lib.hid hg56; clear hS6 hg6 hg56; go_wp2_with fail
      refine hK.out _ _ ?_ (fun hHeld => ?_)
      ·(try dsimp only); (first | (refine HY.out _ ?_; (repeat (first | with_reducible (first | assumption | exact Bw.refl _ | refine Bw.alloc ?_ _ | refine Bw.more ?_ _ _ | refine Bw.drew ?_ | refine Bw.drewN ?_ _) | ((with_reducible refine Bw.set2 ?_ ?_ _); (focus exact SZX)) | with_reducible refine Bw.trans ?_ (by assumption))); done) | exact ⟨cell_far hHeld.1 HG6.out hgne, cell_far hHeld.2 HG6.out hgne⟩)
      clear hK K
      (try simp only [Act.put, zP1, zP2, zP3, zP4, zP5, zP6])
      refine wpAnyH_done (by kernel_rfl) ?_ _
      have hnn : ∀ ad, A' = some ad → some ad.block ≠ some g := fun ad e e2 => by have := HNW.out ad e; have := Option.some.inj e2; omega
      have hl : n' ≤ 3000 := by have h1 := HR5.out.1; have h2 := HIc.out.2.1.1; have h3 := HIc.out.2.2.2.2.1; rw [scrollG_len] at h1; omega
      have HF := Lib.hid (And.intro hnn (And.intro hl (HR5.out.far HG56.out hnn)))
      have HGW := Lib.hid ((grown_bw HBc.out (some g)).trans ((grown_bw hbw5 _).trans HG56.out))
      have hlt6 := HS6.out.lt
      clear hnn hl x0 x1 x2
      go_wp2_with (first
       | (go_at_call 57; refine (cvmove_any ({ s with A := A', n := n', c := c' } : Scr) none 0 0 true 5 0 g _ (HS6.out.up BWX) HSX.out.1.2.1 HSX.out.1.2.2.2 (by omega)).mono ?_; rintro ee w7 ⟨rfl, hS7, hg7⟩; have HS7 := Lib.hid hS7; have HG7 := Lib.hid ((grown_bw (show Bw w6 _ from BWX) (some g)).trans hg7); clear hS7 hg7)
       | fail)
      go_end0
      rw [HE.out.1, HE.out.2.1, HE.out.2.2.1, HE.out.2.2.2, HE2.out.1, HE2.out.2.1, HE2.out.2.2]
      exact ⟨rfl, A', n', c', none, 0, ⟨HS7.out, HF.out.2.2.far HG7.out HF.out.1, hn5, hc5, HF.out.2.1, HF.out.1⟩, HGW.out.trans HG7.out, .inr (fun ad e => by have := HNW.out ad e; omega)⟩
     exact AllReadyH.nil
    exact AllReadyH.nil
   exact AllReadyH.nil
  refine AllReadyH.cons rfl (fun K hK => ?_) ?_
  ·go_simp
   refine (cvempty_any s none 0 0 fr g _ (HIc.out.1.up BWX)).mono ?_; rintro ee w4 ⟨rfl, hb4⟩; have hbw4 : Bw wc w4 := Bw.trans (show Bw wc _ from BWX) hb4; have HB4 := Lib.hid (HIc.out.1.up hbw4); (try clear x0 x1 x2); (have x0 := HB4.out.cell 0 (v := .int .i64 (s.Rn : Int)) rfl; have x1 := HB4.out.cell 1 (v := .int .i64 (s.Cn : Int)) rfl; have x2 := HB4.out.cell 2 (v := .slice s.A s.n s.c) rfl); go_wp2_with fail
   refine hK.out _ _ ?_ (fun hHeld => ?_)
   ·(try dsimp only); (first | (refine HY.out _ ?_; (repeat (first | with_reducible (first | assumption | exact Bw.refl _ | refine Bw.alloc ?_ _ | refine Bw.more ?_ _ _ | refine Bw.drew ?_ | refine Bw.drewN ?_ _) | ((with_reducible refine Bw.set2 ?_ ?_ _); (focus exact SZX)) | with_reducible refine Bw.trans ?_ (by assumption))); done) | exact ⟨cell_far hHeld.1 HG6.out hgne, cell_far hHeld.2 HG6.out hgne⟩)
   clear hK K
   (try simp only [Act.put, zP1, zP2, zP3, zP4, zP5, zP6])
   refine wpAnyH_ready (rs := [5]) (by kernel_rfl) (by simp) ?_
   refine AllReadyH.cons rfl (fun K hK => ?_) ?_
   ·go_simp
    refine hK.out _ _ ?_ (fun hHeld => ?_)
    ·(try dsimp only); (first | (refine HY.out _ ?_; (repeat (first | with_reducible (first | assumption | exact Bw.refl _ | refine Bw.alloc ?_ _ | refine Bw.more ?_ _ _ | refine Bw.drew ?_ | refine Bw.drewN ?_ _) | ((with_reducible refine Bw.set2 ?_ ?_ _); (focus exact SZX)) | with_reducible refine Bw.trans ?_ (by assumption))); done) | exact ⟨cell_far hHeld.1 HG6.out hgne, cell_far hHeld.2 HG6.out hgne⟩)
    clear hK K
    (try simp only [Act.put, zP1, zP2, zP3, zP4, zP5, zP6])
    refine wpAnyH_ready (rs := [12]) (by kernel_rfl) (by simp) ?_
    refine AllReadyH.cons rfl (fun K hK => ?_) ?_
    ·go_simp
     refine (gscroll_any s.Rn s.Cn s.A s.n s.c cs s.row s.bot (nn) 32 0 0 s.b _ (HIc.out.2.1.up BWX) HIc.out.2.2.1 (by have := HIc.out.2.2.2.2.1; omega) HIc.out.2.2.2.1).mono ?_; rintro ee w5 ⟨A', n', c', rfl, hr5, hn5, hc5, hnew5, hb5⟩; have hbw5 : Bw wc w5 := Bw.trans (show Bw wc _ from BWX) hb5; have HR5 := Lib.hid hr5; have HNW := Lib.hid (show ∀ ad, A' = some ad → wc.heap.size ≤ ad.block from fun ad e => by have h1 := hnew5 ad e; (have h2 := (show Bw wc _ from hbw4).size); first | omega | (simp only [szA, szS, szD, szN] at h1; omega)); clear hr5 hnew5; go_wp2_with fail
     refine hK.out _ _ ?_ (fun hHeld => ?_)
     ·(try dsimp only); (first | (refine HY.out _ ?_; (repeat (first | with_reducible (first | assumption | exact Bw.refl _ | refine Bw.alloc ?_ _ | refine Bw.more ?_ _ _ | refine Bw.drew ?_ | refine Bw.drewN ?_ _) | ((with_reducible refine Bw.set2 ?_ ?_ _); (focus exact SZX)) | with_reducible refine Bw.trans ?_ (by assumption))); done) | exact ⟨cell_far hHeld.1 HG6.out hgne, cell_far hHeld.2 HG6.out hgne⟩)
     clear hK K
     (try simp only [Act.put, zP1, zP2, zP3, zP4, zP5, zP6])
     refine wpAnyH_ready (rs := [13]) (by kernel_rfl) (by simp) ?_
     refine AllReadyH.cons rfl (fun K hK => ?_) ?_
     ·go_simp
      refine (cvpaint_any s none 0 0 fr s.Rn s.Cn A' n' c' g _ (HIc.out.1.up BWX)).mono ?_; rintro ee w6 ⟨rfl, hS6, hg6⟩; have hg56 : w5.grownBy w6 (some g) := (grown_bw (show Bw w5 _ from BWX) _).trans hg6; have HS6 := Lib.hid hS6; have HG6 := Lib.hid hg6; have HG56 := Lib.hid hg56; clear hS6 hg6 hg56; go_wp2_with fail
      refine hK.out _ _ ?_ (fun hHeld => ?_)
      ·(try dsimp only); (first | (refine HY.out _ ?_; (repeat (first | with_reducible (first | assumption | exact Bw.refl _ | refine Bw.alloc ?_ _ | refine Bw.more ?_ _ _ | refine Bw.drew ?_ | refine Bw.drewN ?_ _) | ((with_reducible refine Bw.set2 ?_ ?_ _); (focus exact SZX)) | with_reducible refine Bw.trans ?_ (by assumption))); done) | exact ⟨cell_far hHeld.1 HG6.out hgne, cell_far hHeld.2 HG6.out hgne⟩)
      clear hK K
      (try simp only [Act.put, zP1, zP2, zP3, zP4, zP5, zP6])
      refine wpAnyH_done (by kernel_rfl) ?_ _
      have hnn : ∀ ad, A' = some ad → some ad.block ≠ some g := fun ad e e2 => by have := HNW.out ad e; have := Option.some.inj e2; omega
      have hl : n' ≤ 3000 := by have h1 := HR5.out.1; have h2 := HIc.out.2.1.1; have h3 := HIc.out.2.2.2.2.1; rw [scrollG_len] at h1; omega
      have HF := Lib.hid (And.intro hnn (And.intro hl (HR5.out.far HG56.out hnn)))
      have HGW := Lib.hid ((grown_bw HBc.out (some g)).trans ((grown_bw hbw5 _).trans HG56.out))
      have hlt6 := HS6.out.lt
      clear hnn hl x0 x1 x2
      go_wp2_with (first
       | (go_at_call 57; refine (cvmove_any ({ s with A := A', n := n', c := c' } : Scr) none 0 0 true 5 0 g _ (HS6.out.up BWX) HSX.out.1.2.1 HSX.out.1.2.2.2 (by omega)).mono ?_; rintro ee w7 ⟨rfl, hS7, hg7⟩; have HS7 := Lib.hid hS7; have HG7 := Lib.hid ((grown_bw (show Bw w6 _ from BWX) (some g)).trans hg7); clear hS7 hg7)
       | fail)
      go_end0
      rw [HE.out.1, HE.out.2.1, HE.out.2.2.1, HE.out.2.2.2, HE2.out.1, HE2.out.2.1, HE2.out.2.2]
      exact ⟨rfl, A', n', c', none, 0, ⟨HS7.out, HF.out.2.2.far HG7.out HF.out.1, hn5, hc5, HF.out.2.1, HF.out.1⟩, HGW.out.trans HG7.out, .inr (fun ad e => by have := HNW.out ad e; omega)⟩
     exact AllReadyH.nil
    exact AllReadyH.nil
   exact AllReadyH.nil
  exact AllReadyH.nil
end Go.Proofs.YtkflooljdopldaaGreat

/- Screens: Apply at the control sequences S, T, L, M. -/
namespace Go.Proofs.YtkflooljdopldaaGreat
open Go.RowKit

set_option maxRecDepth 100000 in
set_option maxHeartbeats 1000000 in
theorem sproper_one (x : Int) (b o c : Nat) (w : World) (hx0 : 0 ≤ x) (hx1 : x ≤ 9999) (hc : w.cell? ⟨b, o, none⟩ = some (.int .i64 x)) : Calls Tryz.prog 28 #[.slice (some ⟨b, o, none⟩) 1 c] w fun e w' => e = .returned (.bool true) ∧ Bw w w' := by
 have HC := Lib.hid hc
 go_enter Tryz.func28, Tryz.ntmps28
 go_wp2_with fail
 go_loopw [7] (fun i wr => ∃ k : Nat, i = .int .i64 k ∧ k ≤ 1 ∧ Bw w wr) (fun i _ => 1 - (intOf i).toNat)
 case atStart => exact ⟨0, rfl, by omega, Bw.refl _⟩
 case round =>
  obtain ⟨wz, hwz⟩ : ∃ wz : World, wz = wr := ⟨_, rfl⟩
  subst hwz
  obtain ⟨k, rfl, hk, hbz⟩ := hrel
  have hcz := cell_up HC.out hbz
  have HBZ := Lib.hid hbz
  clear hbz
  rcases (show k = 0 ∨ k = 1 by omega) with rfl | rfl
  ·go_wp2_with fail
   go_roundw
   case rel => exact ⟨1, by go_num, by omega, Bw.trans HBZ.out BWX⟩
   case measure => simp [intOf]
  ·go_wp2_with fail
   go_ret
   exact ⟨rfl, Bw.trans HBZ.out BWX⟩

set_option maxRecDepth 100000 in
set_option maxHeartbeats 1000000 in
theorem cvsequence_any (s : Scr) (fr : Bool) (cs : List C4) (cd x n : Int) (b o c g : Nat) (w : World) (h : CvI w g s cs none 0 0 fr) (hs : ScX s) (hcd : still4 cd) (hx0 : 0 ≤ x) (hx1 : x ≤ 9999) (hn : (if x < 1 then 1 else x) = n) (hc : w.cell? ⟨b, o, none⟩ = some (.int .i64 x)) :
  Calls Tryz.prog 29 #[.pointer (some ⟨g, 0, none⟩), .agg #[.int .i64 4, .int .i64 cd, .int .i64 0, .slice (some ⟨b, o, none⟩) 1 c]] w (CvR w g (edS s cd) (edC s cs cd n) (edN s cd n) (edF s fr cd)) := by
 have HI := Lib.hid h
 have HSX := Lib.hid hs
 have HCD := Lib.hid hcd
 have HC := Lib.hid hc
 have hn0 : 1 ≤ n := by rw [← hn]; split <;> omega
 have hn1 : n ≤ 9999 := by rw [← hn]; split <;> omega
 have HN := Lib.hid hn
 clear h hs hcd hc hn
 go_enter Tryz.func29, Tryz.ntmps29
 go_upto_region 1 with (fail)
 generalize hw1 : w.alloc _ = w1
 obtain ⟨hb0, hbw, hz⟩ := sb1 hw1
 have HBW := Lib.hid hbw
 have hzz : w.heap.size < w1.heap.size := by omega
 have y1 := hb0.cell 1 (v := .int .i64 cd) rfl
 have y2 := hb0.cell 2 (v := .int .i64 0) rfl
 have y3 := hb0.cell 3 (v := .slice (some ⟨b, o, none⟩) 1 c) rfl
 have yc := cell_up HC.out hbw
 have HB := Lib.hid hb0
 clear hw1 hb0 hz hbw
 rcases HCD.out with rfl | rfl | rfl | rfl
 all_goals (go_wp2_with (first
  | (go_at_call 65; refine (cvtravel_no _ _ _ g _ HCD.out).mono ?_; rintro ee w2 ⟨rfl, hb2⟩; have HB2 := Lib.hid (show Bw w1 w2 from Bw.trans (show Bw w1 _ from BWX) hb2); have u1 : w2.cell? ⟨w.heap.size, 1, none⟩ = some (.int .i64 _) := (HB.out.up HB2.out).cell 1 rfl; clear hb2 y1 y2 y3 yc)
  | (go_at_call 66; rw [HN.out]; refine (cvedit_any s fr cs _ n g _ (HI.out.up (Bw.trans HBW.out (Bw.trans HB2.out BWX))) HSX.out HCD.out hn0 hn1).mono ?_; rintro ee w3 hx; obtain ⟨rfl, hx2⟩ := (show CvR w g (edS s _) (edC s cs _ n) (edN s _ n) (edF s fr _) ee w3 from hx.later (Bw.trans HBW.out (Bw.trans HB2.out BWX))); have HX := Lib.hid hx2; clear hx hx2)
  | fail))
 all_goals go_end0
 all_goals exact ⟨rfl, HX.out⟩

set_option maxRecDepth 100000 in
set_option maxHeartbeats 800000 in
theorem sapply_csi (cd x : Int) (b o c : Nat) (s s' : Scr) (cs cs' : List C4) (m : Nat) (fr' : Bool) (w : World) (hs : s.Ok w) (hr : Rg w s.A s.n cs) (hsA : s'.A = s.A) (hx0 : 0 ≤ x) (hx1 : x ≤ 9999) (hxc : w.cell? ⟨b, o, none⟩ = some (.int .i64 x))
  (hm : ∀ g w1, CvI w1 g s cs none 0 0 false → w1.cell? ⟨b, o, none⟩ = some (.int .i64 x) → Calls Tryz.prog 29 #[.pointer (some ⟨g, 0, none⟩), .agg #[.int .i64 4, .int .i64 cd, .int .i64 0, .slice (some ⟨b, o, none⟩) 1 c]] w1 (CvR w1 g s' cs' m fr')) :
  Calls Tryz.prog 10 #[.agg s.vals.toArray, .agg #[.int .i64 4, .int .i64 cd, .int .i64 0, .slice (some ⟨b, o, none⟩) 1 c]] w (ApP w s.A s' cs' m) := by
 have HOK := Lib.hid hs
 have HR := Lib.hid hr
 have HM := Lib.hid hm
 have HSA := Lib.hid hsA
 have HXC := Lib.hid hxc
 have HN := Lib.hid (show s.n ≤ s.c ∧ s.c ≤ 9223372036854775807 ∧ s.n ≤ 3000 from by
  obtain ⟨⟨h1, h2, h3, h4, h5, h6, h7, -⟩, -⟩ := hs
  exact ⟨h6, h7, by rw [h5]; have := Nat.mul_le_mul h2 h4; omega⟩)
 clear hs hr hm hsA hxc
 go_enter Tryz.func10, Tryz.ntmps10
 go_upto_region 1 with (fail)
 generalize hwa : w.alloc (.cells s.vals.toArray 34) = wa
 obtain ⟨ha0, hbwa, hza⟩ := sb1 hwa
 generalize hwb : wa.alloc _ = wb
 obtain ⟨hb0, hbwb, hzb⟩ := sb1 hwb
 generalize hw1 : wb.alloc _ = w1
 obtain ⟨hc0, hbwc, hzc⟩ := sb1 hw1
 rw [hzb, hza] at hc0
 rw [hza] at hb0
 have HA := Lib.hid ((ha0.up hbwb).up hbwc)
 have HB := Lib.hid (hb0.up hbwc)
 have HT := Lib.hid (show ∃ old, Sb w1 (w.heap.size + 1 + 1) old 34 ∧ old.size = 19 from ⟨_, hc0, rfl⟩)
 have hbw := Bw.trans (Bw.trans hbwa hbwb) hbwc
 have hz1 : w.heap.size + 1 + 1 < w1.heap.size := by omega
 clear hwa ha0 hbwa hza hwb hb0 hbwb hzb hw1 hc0 hbwc hzc
 go_upto_region 2 with (first
  | ((with_reducible refine wpList_load_sc s w.heap.size (.tmp 2) rfl rfl ?_ ?_ ?_); (focus rfl); (focus (exact HA.out)))
  | ((with_reducible refine wpList_build_cv s _ rfl rfl ?_ ?_); (focus rfl))
  | ((with_reducible refine wpList_store_cs 75 (cvV s none 0 0 false) w1.heap.size (.tmp 6) (.tmp 8) (infoCz s none 0 0 false) (cvV_one s none 0 0 false) rfl rfl ?_ ?_ ?_ ?_); (focus rfl); (focus rfl); (focus (exact ⟨_, heap_at (by simp), rfl⟩)); intro w2 hS2 hg2; have HS2 := Lib.hid hS2; have hbw2 : Bw w1 w2 := Bw.grown (show Bw w1 _ from BWX) hg2 (fun k hk => by cases hk; omega); clear hS2 hg2)
  | fail)
 have hlt2 := HS2.out.lt
 obtain ⟨g, hg⟩ : ∃ g, g = w1.heap.size := ⟨_, rfl⟩
 rw [← hg] at HS2 hlt2 ⊢
 have hgz : w.heap.size + 1 + 1 < g := by omega
 have hbw02 := Bw.trans hbw hbw2
 clear hg
 go_upto_if 10 with (first
  | ((with_reducible refine wpList_load_sc s w.heap.size (.tmp 2) rfl rfl ?_ ?_ ?_); (focus rfl); (focus (exact HA.out.up hbw2)))
  | (go_at_call 11; refine (svalid_ok s _ (HOK.out.up BWX)).mono ?_; rintro ee w3 ⟨rfl, hb3⟩; have hbw3 : Bw w2 w3 := Bw.trans (show Bw w2 _ from BWX) hb3; clear hb3)
  | fail)
 have HI := Lib.hid (show CvI w3 g s cs none 0 0 false from ⟨HS2.out.up hbw3, HR.out.up (Bw.trans hbw02 hbw3), HN.out.1, HN.out.2.1, HN.out.2.2, fun ad e e2 => by
  have h0 : 0 < s.n := by
   obtain ⟨⟨h1, h2, h3, h4, h5, -⟩, -⟩ := HOK.out
   rw [h5]; exact Nat.mul_pos (by omega) (by omega)
  obtain ⟨b, o, e3, hx⟩ := HR.out.2 h0
  have h4 := lt_of_cell (hx 0 (by rw [HR.out.1]; exact h0)).1
  rw [e] at e3
  have e5 := Option.some.inj e2
  have e6 := congrArg Addr.block (Option.some.inj e3)
  simp only at e6 h4
  omega⟩)
 have HB3 := Lib.hid (HB.out.up (Bw.trans hbw2 hbw3))
 have HT3 := Lib.hid (show ∃ old, Sb w3 (w.heap.size + 1 + 1) old 34 ∧ old.size = 19 from Exists.elim HT.out (fun old h => ⟨old, h.1.up (Bw.trans hbw2 hbw3), h.2⟩))
 have hbw03 := Bw.trans hbw02 hbw3
 have hlt3 := HI.out.1.lt
 have x0 := HB3.out.cell 0 (v := .int .i64 4) rfl
 have x1 := HB3.out.cell 1 (v := .int .i64 cd) rfl
 have x2 := HB3.out.cell 2 (v := .int .i64 0) rfl
 have x3 := HB3.out.cell 3 (v := .slice (some ⟨b, o, none⟩) 1 c) rfl
 have hxc3 := cell_up HXC.out hbw03
 have HX3 := Lib.hid hxc3
 clear hxc3
 clear hbw hbw2 hbw3 hbw02 HS2 HA HB HT hlt2 HN HR
 go_cut [] (fun w' => ∃ A n c L k, CvI w' g (s'.gr A n c) cs' L m k fr' ∧ w3.grownBy w' (some g) ∧ ((A = s'.A ∧ n = s'.n ∧ c = s'.c) ∨ ∀ ad, A = some ad → w3.heap.size ≤ ad.block))
 case first =>
  have ARM := HM.out g
  go_wp2_with (first
   | (go_at_call 28; refine (sproper_one x b o c _ hx0 hx1 (cell_up HX3.out BWX)).mono ?_; rintro ee w4 ⟨rfl, hb4⟩; have hbw4 : Bw w3 w4 := Bw.trans (show Bw w3 _ from BWX) hb4; have HBO := Lib.hid (HB3.out.up hbw4); clear hb4 x0 x1 x2 x3; have x0 := HBO.out.cell 0 (v := .int .i64 4) rfl; have x1 := HBO.out.cell 1 (v := .int .i64 cd) rfl; have x2 := HBO.out.cell 2 (v := .int .i64 0) rfl; have x3 := HBO.out.cell 3 (v := .slice (some ⟨b, o, none⟩) 1 c) rfl)
   | (go_at_call 29; refine (ARM _ (HI.out.up BWX) (cell_up HX3.out BWX)).mono ?_; rintro ee w5 ⟨rfl, A, n, c_, L, k, hI4, hg4, hA4⟩; have HI4 := Lib.hid hI4; have hb34 := (show Bw w3 w4 from hbw4); have HG4 := Lib.hid ((grown_bw (Bw.trans hbw4 (show Bw w4 _ from BWX)) (some g)).trans hg4); have hsz := (Bw.trans hbw4 (show Bw w4 _ from BWX)).size; clear hI4 hg4)
   | fail)
  go_meet
  case rel => exact ⟨A, n, c_, L, k, HI4.out, HG4.out, hA4.imp id (fun h ad e => Nat.le_trans (by first | exact hsz | exact hbw4.size) (h ad e))⟩
 case rest =>
 obtain ⟨wq, hwq⟩ : ∃ wq : World, wq = wc := ⟨_, rfl⟩
 subst hwq
 obtain ⟨A, n, c1, L, k, hI, hgc, hA⟩ := hcut
 have HIc := Lib.hid hI
 have HGc := Lib.hid hgc
 have HAc := Lib.hid hA
 have hltc := hI.1.lt
 have hzc := hgc.size
 clear x2
 have x20 := hI.1.cell 20 (v := .bool fr') rfl
 have x2 := hI.1.cell 2 (v := .slice A n c1) rfl
 have z2 := hI.1.free 2
 have hn3 : n ≤ 3000 := hI.2.2.2.2.1
 clear hI hgc hA x0 x1 x3
 go_upto_if 37 with (fail)
 go_cut [] (fun w' => ∃ A n c L k, Sb w' g (cvV (s'.gr A n c) L m k fr') 75 ∧ Rg w' A n cs' ∧ n ≤ c ∧ c ≤ 9223372036854775807 ∧ (A = s'.A ∨ ∀ ad, A = some ad → w3.heap.size ≤ ad.block) ∧ (∀ ad, A = some ad → some ad.block ≠ some g) ∧ wq.grownBy w' (some g))
 case first =>
  cases fr' with
  | true =>
   go_wp2_with fail
   go_meet
   case rel => exact ⟨A, n, c1, L, k, HIc.out.1, HIc.out.2.1, HIc.out.2.2.1, HIc.out.2.2.2.1, HAc.out.imp (fun h => h.1) id, HIc.out.2.2.2.2.2, grown_refl _ _⟩
  | false =>
   go_wp2_with (first
    | (go_at_call 30; refine (gclone_any A n c1 cs' _ (HIc.out.2.1.up BWX) HIc.out.2.2.1 (by omega) HIc.out.2.2.2.1).mono ?_; rintro ee w4 ⟨v, rfl, hown, hb4⟩; obtain ⟨A4, c4, rfl, hc4, hc4m⟩ := own_form hown; have hbw4 : Bw wq w4 := Bw.trans (show Bw wq _ from BWX) hb4; have HO4 := Lib.hid hown; have HB4 := Lib.hid (HIc.out.1.up hbw4); have y2 := HB4.out.cell 2 (v := .slice A n c1) rfl; have v2 := HB4.out.free 2; clear hown hb4 x2 x20 z2)
    | fail)
   go_meet
   case rel =>
    have hnw : ∀ ad, A4 = some ad → wq.heap.size ≤ ad.block := fun ad e => own_new HO4.out ad e
    exact ⟨A4, n, c4, L, k, HB4.out.set 2 _ rfl, (Rg.of_own HO4.out).far (grown_set (grown_refl _ _) 2 _) (fun ad e e2 => by have := hnw ad e; have := Option.some.inj e2; omega), hc4, hc4m, .inr (fun ad e => by have := hnw ad e; omega), (fun ad e e2 => by have := hnw ad e; have := Option.some.inj e2; omega), grown_set (grown_bw hbw4 _) 2 _⟩
 case rest =>
 obtain ⟨A5, n5, c5, L5, k5, hS5, hr5, hn5, hc5, hA5, hne5, hg5⟩ := hcut
 have HS5 := Lib.hid hS5
 have HR5 := Lib.hid hr5
 have HG5 := Lib.hid hg5
 have HA5 := Lib.hid hA5
 have HN5 := Lib.hid hne5
 have hgt : some (w.heap.size + 1 + 1) ≠ some g := fun e => by have := Option.some.inj e; omega
 have HT5 := Lib.hid (show ∃ old, Sb wc (w.heap.size + 1 + 1) old 34 ∧ old.size = 19 from Exists.elim HT3.out (fun old h => ⟨old, (h.1.far HGc.out hgt).far hg5 hgt, h.2⟩))
 have hlt5 := hS5.lt
 have hz5 := hg5.size
 have HY := Lib.hid (show ∀ w', Bw wc w' → (w'.cell? ⟨g, 19, none⟩ = some (.slice L5 m k5)) from fun w' hb => (HS5.out.up hb).cell 19 rfl)
 clear hS5 hr5 hg5 hA5 hne5 x20 x2 z2
 go_upto_region 15 with (fail)
 refine wp_region_held_drew (S := (fun w' => w'.cell? ⟨g, 19, none⟩ = some (.slice L5 m k5))) (by kernel_rfl) ?_ (fun hHeld => ?_)
 ·(try dsimp only); (first | (refine HY.out _ ?_; (repeat (first | with_reducible (first | assumption | exact Bw.refl _ | refine Bw.alloc ?_ _ | refine Bw.more ?_ _ _ | refine Bw.drew ?_ | refine Bw.drewN ?_ _) | ((with_reducible refine Bw.set2 ?_ ?_ _); (focus exact SZX)) | with_reducible refine Bw.trans ?_ (by assumption))); done) | exact cell_far (HY.out _ (Bw.refl _)) HG6.out (fun e => hgt e.symm))
 refine tkQ 0 ?_
 refine tkQ 2 ?_
 (try simp only [Act.put, zP1, zP2, zP3, zP4, zP5, zP6])
 refine tkQ 3 ?_
 (try simp only [Act.put, zP1, zP2, zP3, zP4, zP5, zP6])
 refine wpAnyH_ready (rs := [1]) (by kernel_rfl) (by simp) ?_
 refine AllReadyH.cons rfl (fun K hK => ?_) ?_
 ·(refine (if_pos (by kernel_rfl)).mpr ?_); (refine wp_load_mid 34 (.tmp 46) ?ho g 0 ?_ (s'.gr A5 n5 c5).vals _ (cvRange (HS5.out.up ?hb)) Tryz.underlying34 rfl infoSc ?_); (case ho => rfl); (focus rfl); (case hb => ((repeat (first | with_reducible (first | assumption | exact Bw.refl _ | refine Bw.alloc ?_ _ | refine Bw.more ?_ _ _ | refine Bw.drew ?_ | refine Bw.drewN ?_ _) | ((with_reducible refine Bw.set2 ?_ ?_ _); (focus exact SZX)) | with_reducible refine Bw.trans ?_ (by assumption))); done))
  refine hK.out _ _ ?_ (fun hHeld => ?_)
  ·(try dsimp only); (first | (refine HY.out _ ?_; (repeat (first | with_reducible (first | assumption | exact Bw.refl _ | refine Bw.alloc ?_ _ | refine Bw.more ?_ _ _ | refine Bw.drew ?_ | refine Bw.drewN ?_ _) | ((with_reducible refine Bw.set2 ?_ ?_ _); (focus exact SZX)) | with_reducible refine Bw.trans ?_ (by assumption))); done) | exact cell_far (HY.out _ (Bw.refl _)) HG6.out (fun e => hgt e.symm))
  clear hK K
  (try simp only [Act.put, zP1, zP2, zP3, zP4, zP5, zP6])
  refine wpAnyH_ready (rs := [4]) (by kernel_rfl) (by simp) ?_
  refine AllReadyH.cons rfl (fun K hK => ?_) ?_
  ·(refine (if_pos (by kernel_rfl)).mpr ?_); (with_reducible refine wp_store_sc (s'.gr A5 n5 c5) (w.heap.size + 1 + 1) (.tmp 4) (.tmp 47) ?ho2 ?_ ?_ ?_ ?_); (case ho2 => rfl); (focus rfl); (focus rfl); (focus (exact Exists.elim HT5.out (fun old h => ⟨old, h.1.up BWX, h.2⟩))); intro w6 hS6 hg6; have HS6 := Lib.hid hS6; have HG6 := Lib.hid ((grown_bw (show Bw wc _ from BWX) _).trans hg6); clear hS6 hg6
   refine hK.out _ _ ?_ (fun hHeld => ?_)
   ·(try dsimp only); (first | (refine HY.out _ ?_; (repeat (first | with_reducible (first | assumption | exact Bw.refl _ | refine Bw.alloc ?_ _ | refine Bw.more ?_ _ _ | refine Bw.drew ?_ | refine Bw.drewN ?_ _) | ((with_reducible refine Bw.set2 ?_ ?_ _); (focus exact SZX)) | with_reducible refine Bw.trans ?_ (by assumption))); done) | exact cell_far (HY.out _ (Bw.refl _)) HG6.out (fun e => hgt e.symm))
   clear hK K
   (try simp only [Act.put, zP1, zP2, zP3, zP4, zP5, zP6])
   refine wpAnyH_ready (rs := [5]) (by kernel_rfl) (by simp) ?_
   refine AllReadyH.cons rfl (fun K hK => ?_) ?_
   ·go_simp
    refine hK.out _ _ ?_ (fun hHeld => ?_)
    ·(try dsimp only); (first | (refine HY.out _ ?_; (repeat (first | with_reducible (first | assumption | exact Bw.refl _ | refine Bw.alloc ?_ _ | refine Bw.more ?_ _ _ | refine Bw.drew ?_ | refine Bw.drewN ?_ _) | ((with_reducible refine Bw.set2 ?_ ?_ _); (focus exact SZX)) | with_reducible refine Bw.trans ?_ (by assumption))); done) | exact cell_far (HY.out _ (Bw.refl _)) HG6.out (fun e => hgt e.symm))
    clear hK K
    (try simp only [Act.put, zP1, zP2, zP3, zP4, zP5, zP6])
    refine wpAnyH_done (by kernel_rfl) ?_ _
    go_wp2_with fail
    refine bodyPost_ret (results_sc2 rfl _ _ (w.heap.size + 1 + 1) (s'.gr A5 n5 c5) (by rfl) HS6.out) rfl ?_
    have h35 : w3.grownBy w6 (some g) ∨ True := .inr trivial
    refine ⟨A5, n5, c5, L5, k5, rfl, ?_, hn5, hc5, ?_, ?_⟩
    ·refine HR5.out.far HG6.out (fun ad e e2 => ?_)
     rcases HA5.out with h | h
     ·have e3 := Option.some.inj e2
      rw [h, HSA.out] at e
      obtain ⟨⟨h1, h2, h3, h4, h5, h6, h7, cs0, hr0, -⟩, -⟩ := HOK.out
      have h0 : 0 < s.n := by rw [h5]; exact Nat.mul_pos (by omega) (by omega)
      obtain ⟨b, oo, e4, hx⟩ := hr0.2 h0
      have h8 := lt_of_cell (hx 0 (by rw [hr0.1]; exact h0)).1
      rw [e] at e4
      have e6 := congrArg Addr.block (Option.some.inj e4)
      simp only at e6 h8
      omega
     ·have := h ad e
      have e3 := Option.some.inj e2
      omega
    ·rcases HA5.out with h | h
     ·exact .inl (h.trans HSA.out)
     ·exact .inr (fun ad e => by have := h ad e; have := hbw03.size; omega)
    ·exact Bw.grown (Bw.grown hbw03 (HGc.out.trans HG5.out) (fun k hk => by cases hk; omega)) HG6.out (fun k hk => by cases hk; omega)
   exact AllReadyH.nil
  exact AllReadyH.nil
 exact AllReadyH.nil
end Go.Proofs.YtkflooljdopldaaGreat
