/- Parts of the proof, one after the other. -/
import Derived.Test.YtkflooljdopldaaGreatU45
import Derived.Test.YtkflooljdopldaaGreatU36
import Derived.Deep.MidRow
import Derived.Deep.RegionHeld3
set_option linter.unusedSimpArgs false
set_option linter.unusedVariables false
/- A canvas: save, restore; escape at 55, 56, 99. -/
namespace Go.Proofs.YtkflooljdopldaaGreat
open Go.RowKit

theorem keep_drew {w : World} {p : Addr} {v : Value} (h : w.cell? p = some v) : w.drew.cell? p = some v := h
theorem grown_drew2 {w w' : World} {r : Option Nat} (h : w.grownBy w' r) : w.grownBy w'.drew r := ⟨h.os, h.tape, h.output, h.size, h.block⟩
set_option maxRecDepth 100000 in
set_option maxHeartbeats 1000000 in
theorem cvsave_any (s : Scr) (L : Option Addr) (m k : Nat) (fr : Bool) (g : Nat) (w : World) (h : Sb w g (cvV s L m k fr) 75) :
  Calls Tryz.prog 58 #[.pointer (some ⟨g, 0, none⟩)] w (CvP w g ({ s with srow := s.row, scol := s.col, swrap := s.wrap, sf := s.f, sg := s.g, sb := s.b } : Scr) L m k fr) := by
 have HB := Lib.hid h
 have hlt := h.lt
 (have x3 := h.cell 3 (v := .int .i64 s.row) rfl; have x4 := h.cell 4 (v := .int .i64 s.col) rfl; have x5 := h.cell 5 (v := .bool s.wrap) rfl; have x6 := h.cell 6 (v := .int .i64 s.f) rfl; have x7 := h.cell 7 (v := .int .i64 s.g) rfl; have x8 := h.cell 8 (v := .int .i64 s.b) rfl; have x11 := h.cell 11 (v := .int .i64 s.srow) rfl; have x12 := h.cell 12 (v := .int .i64 s.scol) rfl; have x13 := h.cell 13 (v := .bool s.swrap) rfl; have x14 := h.cell 14 (v := .int .i64 s.sf) rfl; have x15 := h.cell 15 (v := .int .i64 s.sg) rfl; have x16 := h.cell 16 (v := .int .i64 s.sb) rfl)
 (have z11 := h.free 11; have z12 := h.free 12; have z13 := h.free 13; have z14 := h.free 14; have z15 := h.free 15; have z16 := h.free 16)
 clear h
 go_enter Tryz.func58, Tryz.ntmps58
 go_upto_region 0 with (fail)
 have HY := Lib.hid (show ∀ w', Bw w w' → (w'.cell? ⟨g, 3, none⟩ = some (.int .i64 s.row) ∧ w'.cell? ⟨g, 4, none⟩ = some (.int .i64 s.col) ∧ w'.cell? ⟨g, 5, none⟩ = some (.bool s.wrap) ∧ w'.cell? ⟨g, 6, none⟩ = some (.int .i64 s.f) ∧ w'.cell? ⟨g, 7, none⟩ = some (.int .i64 s.g) ∧ w'.cell? ⟨g, 8, none⟩ = some (.int .i64 s.b)) from fun w' hb => ⟨(HB.out.up hb).cell 3 rfl, (HB.out.up hb).cell 4 rfl, (HB.out.up hb).cell 5 rfl, (HB.out.up hb).cell 6 rfl, (HB.out.up hb).cell 7 rfl, (HB.out.up hb).cell 8 rfl⟩)
 have HYa := Lib.hid (show ∀ a b c : Value, ((((w.setCell ⟨g, 11, none⟩ a).setCell ⟨g, 12, none⟩ b).setCell ⟨g, 13, none⟩ c).drew.cell? ⟨g, 3, none⟩ = some (.int .i64 s.row) ∧ (((w.setCell ⟨g, 11, none⟩ a).setCell ⟨g, 12, none⟩ b).setCell ⟨g, 13, none⟩ c).drew.cell? ⟨g, 4, none⟩ = some (.int .i64 s.col) ∧ (((w.setCell ⟨g, 11, none⟩ a).setCell ⟨g, 12, none⟩ b).setCell ⟨g, 13, none⟩ c).drew.cell? ⟨g, 5, none⟩ = some (.bool s.wrap) ∧ (((w.setCell ⟨g, 11, none⟩ a).setCell ⟨g, 12, none⟩ b).setCell ⟨g, 13, none⟩ c).drew.cell? ⟨g, 6, none⟩ = some (.int .i64 s.f) ∧ (((w.setCell ⟨g, 11, none⟩ a).setCell ⟨g, 12, none⟩ b).setCell ⟨g, 13, none⟩ c).drew.cell? ⟨g, 7, none⟩ = some (.int .i64 s.g) ∧ (((w.setCell ⟨g, 11, none⟩ a).setCell ⟨g, 12, none⟩ b).setCell ⟨g, 13, none⟩ c).drew.cell? ⟨g, 8, none⟩ = some (.int .i64 s.b)) from fun a b c => ⟨keep_drew (cell_ne (cell_ne (cell_ne (HB.out.cell 3 rfl) (by omega)) (by omega)) (by omega)), keep_drew (cell_ne (cell_ne (cell_ne (HB.out.cell 4 rfl) (by omega)) (by omega)) (by omega)), keep_drew (cell_ne (cell_ne (cell_ne (HB.out.cell 5 rfl) (by omega)) (by omega)) (by omega)), keep_drew (cell_ne (cell_ne (cell_ne (HB.out.cell 6 rfl) (by omega)) (by omega)) (by omega)), keep_drew (cell_ne (cell_ne (cell_ne (HB.out.cell 7 rfl) (by omega)) (by omega)) (by omega)), keep_drew (cell_ne (cell_ne (cell_ne (HB.out.cell 8 rfl) (by omega)) (by omega)) (by omega))⟩)
 have HYb := Lib.hid (show ∀ a b c d e f : Value, (((((((w.setCell ⟨g, 11, none⟩ a).setCell ⟨g, 12, none⟩ b).setCell ⟨g, 13, none⟩ c).setCell ⟨g, 14, none⟩ d).setCell ⟨g, 15, none⟩ e).setCell ⟨g, 16, none⟩ f).drew.cell? ⟨g, 3, none⟩ = some (.int .i64 s.row) ∧ ((((((w.setCell ⟨g, 11, none⟩ a).setCell ⟨g, 12, none⟩ b).setCell ⟨g, 13, none⟩ c).setCell ⟨g, 14, none⟩ d).setCell ⟨g, 15, none⟩ e).setCell ⟨g, 16, none⟩ f).drew.cell? ⟨g, 4, none⟩ = some (.int .i64 s.col) ∧ ((((((w.setCell ⟨g, 11, none⟩ a).setCell ⟨g, 12, none⟩ b).setCell ⟨g, 13, none⟩ c).setCell ⟨g, 14, none⟩ d).setCell ⟨g, 15, none⟩ e).setCell ⟨g, 16, none⟩ f).drew.cell? ⟨g, 5, none⟩ = some (.bool s.wrap) ∧ ((((((w.setCell ⟨g, 11, none⟩ a).setCell ⟨g, 12, none⟩ b).setCell ⟨g, 13, none⟩ c).setCell ⟨g, 14, none⟩ d).setCell ⟨g, 15, none⟩ e).setCell ⟨g, 16, none⟩ f).drew.cell? ⟨g, 6, none⟩ = some (.int .i64 s.f) ∧ ((((((w.setCell ⟨g, 11, none⟩ a).setCell ⟨g, 12, none⟩ b).setCell ⟨g, 13, none⟩ c).setCell ⟨g, 14, none⟩ d).setCell ⟨g, 15, none⟩ e).setCell ⟨g, 16, none⟩ f).drew.cell? ⟨g, 7, none⟩ = some (.int .i64 s.g) ∧ ((((((w.setCell ⟨g, 11, none⟩ a).setCell ⟨g, 12, none⟩ b).setCell ⟨g, 13, none⟩ c).setCell ⟨g, 14, none⟩ d).setCell ⟨g, 15, none⟩ e).setCell ⟨g, 16, none⟩ f).drew.cell? ⟨g, 8, none⟩ = some (.int .i64 s.b)) from fun a b c d e f => ⟨keep_drew (cell_ne (cell_ne (cell_ne (cell_ne (cell_ne (cell_ne (HB.out.cell 3 rfl) (by omega)) (by omega)) (by omega)) (by omega)) (by omega)) (by omega)), keep_drew (cell_ne (cell_ne (cell_ne (cell_ne (cell_ne (cell_ne (HB.out.cell 4 rfl) (by omega)) (by omega)) (by omega)) (by omega)) (by omega)) (by omega)), keep_drew (cell_ne (cell_ne (cell_ne (cell_ne (cell_ne (cell_ne (HB.out.cell 5 rfl) (by omega)) (by omega)) (by omega)) (by omega)) (by omega)) (by omega)), keep_drew (cell_ne (cell_ne (cell_ne (cell_ne (cell_ne (cell_ne (HB.out.cell 6 rfl) (by omega)) (by omega)) (by omega)) (by omega)) (by omega)) (by omega)), keep_drew (cell_ne (cell_ne (cell_ne (cell_ne (cell_ne (cell_ne (HB.out.cell 7 rfl) (by omega)) (by omega)) (by omega)) (by omega)) (by omega)) (by omega)), keep_drew (cell_ne (cell_ne (cell_ne (cell_ne (cell_ne (cell_ne (HB.out.cell 8 rfl) (by omega)) (by omega)) (by omega)) (by omega)) (by omega)) (by omega))⟩)
 refine wp_region_held_drew (S := (fun w' => w'.cell? ⟨g, 3, none⟩ = some (.int .i64 s.row) ∧ w'.cell? ⟨g, 4, none⟩ = some (.int .i64 s.col) ∧ w'.cell? ⟨g, 5, none⟩ = some (.bool s.wrap) ∧ w'.cell? ⟨g, 6, none⟩ = some (.int .i64 s.f) ∧ w'.cell? ⟨g, 7, none⟩ = some (.int .i64 s.g) ∧ w'.cell? ⟨g, 8, none⟩ = some (.int .i64 s.b))) (by kernel_rfl) ?_ (fun hHeld => ?_)
 ·(try dsimp only); (first | (with_reducible exact HYa.out _ _ _) | (with_reducible exact HYb.out _ _ _ _ _ _) | (refine HY.out _ ?_; exact BWX))
 refine tkQ 0 ?_
 refine tkQ 1 ?_
 refine tkQ 2 ?_
 (try simp only [Act.put, zP1, zP2, zP3, zP4, zP5, zP6])
 refine tkQ 3 ?_
 refine tkQ 4 ?_
 refine tkQ 5 ?_
 (try simp only [Act.put, zP1, zP2, zP3, zP4, zP5, zP6])
 refine tkQ 6 ?_
 refine tkQ 7 ?_
 refine tkQ 8 ?_
 (try simp only [Act.put, zP1, zP2, zP3, zP4, zP5, zP6])
 refine tkQ 9 ?_
 refine tkQ 10 ?_
 refine tkQ 11 ?_
 (try simp only [Act.put, zP1, zP2, zP3, zP4, zP5, zP6])
 refine tkQ 12 ?_
 refine tkQ 13 ?_
 refine tkQ 14 ?_
 (try simp only [Act.put, zP1, zP2, zP3, zP4, zP5, zP6])
 refine wpAnyH_ready (rs := [15]) (by kernel_rfl) (by simp) ?_
 refine AllReadyH.cons rfl (fun K hK => ?_) ?_
 ·go_simp
  refine hK.out _ _ ?_ (fun hHeld => ?_)
  ·(try dsimp only); (first | (with_reducible exact HYa.out _ _ _) | (with_reducible exact HYb.out _ _ _ _ _ _) | (refine HY.out _ ?_; exact BWX))
  clear hK K
  (try simp only [Act.put, zP1, zP2, zP3, zP4, zP5, zP6])
  refine tkQ 16 ?_
  refine tkQ 17 ?_
  refine tkQ 18 ?_
  (try simp only [Act.put, zP1, zP2, zP3, zP4, zP5, zP6])
  refine wpAnyH_ready (rs := [19]) (by kernel_rfl) (by simp) ?_
  refine AllReadyH.cons rfl (fun K hK => ?_) ?_
  ·go_simp
   refine hK.out _ _ ?_ (fun hHeld => ?_)
   ·(try dsimp only); (first | (with_reducible exact HYa.out _ _ _) | (with_reducible exact HYb.out _ _ _ _ _ _) | (refine HY.out _ ?_; exact BWX))
   clear hK K
   (try simp only [Act.put, zP1, zP2, zP3, zP4, zP5, zP6])
   refine wpAnyH_done (by kernel_rfl) ?_ _
   go_wp2_with fail
   go_end0
   exact ⟨rfl, ((((((HB.out.set 11 _ rfl).set 12 _ rfl).set 13 _ rfl).set 14 _ rfl).set 15 _ rfl).set 16 _ rfl).drew, grown_drew2 (grown_set (grown_set (grown_set (grown_set (grown_set (grown_set (grown_refl _ _) 11 _) 12 _) 13 _) 14 _) 15 _) 16 _)⟩
  exact AllReadyH.nil
 exact AllReadyH.nil

set_option maxRecDepth 100000 in
set_option maxHeartbeats 1000000 in
theorem cvrestore_any (s : Scr) (L : Option Addr) (m k : Nat) (fr : Bool) (g : Nat) (w : World) (h : Sb w g (cvV s L m k fr) 75) :
  Calls Tryz.prog 59 #[.pointer (some ⟨g, 0, none⟩)] w (CvP w g ({ s with row := s.srow, col := s.scol, wrap := s.swrap, f := s.sf, g := s.sg, b := s.sb } : Scr) L m k fr) := by
 have HB := Lib.hid h
 have hlt := h.lt
 (have x3 := h.cell 3 (v := .int .i64 s.row) rfl; have x4 := h.cell 4 (v := .int .i64 s.col) rfl; have x5 := h.cell 5 (v := .bool s.wrap) rfl; have x6 := h.cell 6 (v := .int .i64 s.f) rfl; have x7 := h.cell 7 (v := .int .i64 s.g) rfl; have x8 := h.cell 8 (v := .int .i64 s.b) rfl; have x11 := h.cell 11 (v := .int .i64 s.srow) rfl; have x12 := h.cell 12 (v := .int .i64 s.scol) rfl; have x13 := h.cell 13 (v := .bool s.swrap) rfl; have x14 := h.cell 14 (v := .int .i64 s.sf) rfl; have x15 := h.cell 15 (v := .int .i64 s.sg) rfl; have x16 := h.cell 16 (v := .int .i64 s.sb) rfl)
 (have z3 := h.free 3; have z4 := h.free 4; have z5 := h.free 5; have z6 := h.free 6; have z7 := h.free 7; have z8 := h.free 8)
 clear h
 go_enter Tryz.func59, Tryz.ntmps59
 go_upto_region 0 with (fail)
 have HY := Lib.hid (show ∀ w', Bw w w' → (w'.cell? ⟨g, 11, none⟩ = some (.int .i64 s.srow) ∧ w'.cell? ⟨g, 12, none⟩ = some (.int .i64 s.scol) ∧ w'.cell? ⟨g, 13, none⟩ = some (.bool s.swrap) ∧ w'.cell? ⟨g, 14, none⟩ = some (.int .i64 s.sf) ∧ w'.cell? ⟨g, 15, none⟩ = some (.int .i64 s.sg) ∧ w'.cell? ⟨g, 16, none⟩ = some (.int .i64 s.sb)) from fun w' hb => ⟨(HB.out.up hb).cell 11 rfl, (HB.out.up hb).cell 12 rfl, (HB.out.up hb).cell 13 rfl, (HB.out.up hb).cell 14 rfl, (HB.out.up hb).cell 15 rfl, (HB.out.up hb).cell 16 rfl⟩)
 have HYa := Lib.hid (show ∀ a b c : Value, ((((w.setCell ⟨g, 3, none⟩ a).setCell ⟨g, 4, none⟩ b).setCell ⟨g, 5, none⟩ c).drew.cell? ⟨g, 11, none⟩ = some (.int .i64 s.srow) ∧ (((w.setCell ⟨g, 3, none⟩ a).setCell ⟨g, 4, none⟩ b).setCell ⟨g, 5, none⟩ c).drew.cell? ⟨g, 12, none⟩ = some (.int .i64 s.scol) ∧ (((w.setCell ⟨g, 3, none⟩ a).setCell ⟨g, 4, none⟩ b).setCell ⟨g, 5, none⟩ c).drew.cell? ⟨g, 13, none⟩ = some (.bool s.swrap) ∧ (((w.setCell ⟨g, 3, none⟩ a).setCell ⟨g, 4, none⟩ b).setCell ⟨g, 5, none⟩ c).drew.cell? ⟨g, 14, none⟩ = some (.int .i64 s.sf) ∧ (((w.setCell ⟨g, 3, none⟩ a).setCell ⟨g, 4, none⟩ b).setCell ⟨g, 5, none⟩ c).drew.cell? ⟨g, 15, none⟩ = some (.int .i64 s.sg) ∧ (((w.setCell ⟨g, 3, none⟩ a).setCell ⟨g, 4, none⟩ b).setCell ⟨g, 5, none⟩ c).drew.cell? ⟨g, 16, none⟩ = some (.int .i64 s.sb)) from fun a b c => ⟨keep_drew (cell_ne (cell_ne (cell_ne (HB.out.cell 11 rfl) (by omega)) (by omega)) (by omega)), keep_drew (cell_ne (cell_ne (cell_ne (HB.out.cell 12 rfl) (by omega)) (by omega)) (by omega)), keep_drew (cell_ne (cell_ne (cell_ne (HB.out.cell 13 rfl) (by omega)) (by omega)) (by omega)), keep_drew (cell_ne (cell_ne (cell_ne (HB.out.cell 14 rfl) (by omega)) (by omega)) (by omega)), keep_drew (cell_ne (cell_ne (cell_ne (HB.out.cell 15 rfl) (by omega)) (by omega)) (by omega)), keep_drew (cell_ne (cell_ne (cell_ne (HB.out.cell 16 rfl) (by omega)) (by omega)) (by omega))⟩)
 have HYb := Lib.hid (show ∀ a b c d e f : Value, (((((((w.setCell ⟨g, 3, none⟩ a).setCell ⟨g, 4, none⟩ b).setCell ⟨g, 5, none⟩ c).setCell ⟨g, 6, none⟩ d).setCell ⟨g, 7, none⟩ e).setCell ⟨g, 8, none⟩ f).drew.cell? ⟨g, 11, none⟩ = some (.int .i64 s.srow) ∧ ((((((w.setCell ⟨g, 3, none⟩ a).setCell ⟨g, 4, none⟩ b).setCell ⟨g, 5, none⟩ c).setCell ⟨g, 6, none⟩ d).setCell ⟨g, 7, none⟩ e).setCell ⟨g, 8, none⟩ f).drew.cell? ⟨g, 12, none⟩ = some (.int .i64 s.scol) ∧ ((((((w.setCell ⟨g, 3, none⟩ a).setCell ⟨g, 4, none⟩ b).setCell ⟨g, 5, none⟩ c).setCell ⟨g, 6, none⟩ d).setCell ⟨g, 7, none⟩ e).setCell ⟨g, 8, none⟩ f).drew.cell? ⟨g, 13, none⟩ = some (.bool s.swrap) ∧ ((((((w.setCell ⟨g, 3, none⟩ a).setCell ⟨g, 4, none⟩ b).setCell ⟨g, 5, none⟩ c).setCell ⟨g, 6, none⟩ d).setCell ⟨g, 7, none⟩ e).setCell ⟨g, 8, none⟩ f).drew.cell? ⟨g, 14, none⟩ = some (.int .i64 s.sf) ∧ ((((((w.setCell ⟨g, 3, none⟩ a).setCell ⟨g, 4, none⟩ b).setCell ⟨g, 5, none⟩ c).setCell ⟨g, 6, none⟩ d).setCell ⟨g, 7, none⟩ e).setCell ⟨g, 8, none⟩ f).drew.cell? ⟨g, 15, none⟩ = some (.int .i64 s.sg) ∧ ((((((w.setCell ⟨g, 3, none⟩ a).setCell ⟨g, 4, none⟩ b).setCell ⟨g, 5, none⟩ c).setCell ⟨g, 6, none⟩ d).setCell ⟨g, 7, none⟩ e).setCell ⟨g, 8, none⟩ f).drew.cell? ⟨g, 16, none⟩ = some (.int .i64 s.sb)) from fun a b c d e f => ⟨keep_drew (cell_ne (cell_ne (cell_ne (cell_ne (cell_ne (cell_ne (HB.out.cell 11 rfl) (by omega)) (by omega)) (by omega)) (by omega)) (by omega)) (by omega)), keep_drew (cell_ne (cell_ne (cell_ne (cell_ne (cell_ne (cell_ne (HB.out.cell 12 rfl) (by omega)) (by omega)) (by omega)) (by omega)) (by omega)) (by omega)), keep_drew (cell_ne (cell_ne (cell_ne (cell_ne (cell_ne (cell_ne (HB.out.cell 13 rfl) (by omega)) (by omega)) (by omega)) (by omega)) (by omega)) (by omega)), keep_drew (cell_ne (cell_ne (cell_ne (cell_ne (cell_ne (cell_ne (HB.out.cell 14 rfl) (by omega)) (by omega)) (by omega)) (by omega)) (by omega)) (by omega)), keep_drew (cell_ne (cell_ne (cell_ne (cell_ne (cell_ne (cell_ne (HB.out.cell 15 rfl) (by omega)) (by omega)) (by omega)) (by omega)) (by omega)) (by omega)), keep_drew (cell_ne (cell_ne (cell_ne (cell_ne (cell_ne (cell_ne (HB.out.cell 16 rfl) (by omega)) (by omega)) (by omega)) (by omega)) (by omega)) (by omega))⟩)
 refine wp_region_held_drew (S := (fun w' => w'.cell? ⟨g, 11, none⟩ = some (.int .i64 s.srow) ∧ w'.cell? ⟨g, 12, none⟩ = some (.int .i64 s.scol) ∧ w'.cell? ⟨g, 13, none⟩ = some (.bool s.swrap) ∧ w'.cell? ⟨g, 14, none⟩ = some (.int .i64 s.sf) ∧ w'.cell? ⟨g, 15, none⟩ = some (.int .i64 s.sg) ∧ w'.cell? ⟨g, 16, none⟩ = some (.int .i64 s.sb))) (by kernel_rfl) ?_ (fun hHeld => ?_)
 ·(try dsimp only); (first | (with_reducible exact HYa.out _ _ _) | (with_reducible exact HYb.out _ _ _ _ _ _) | (refine HY.out _ ?_; exact BWX))
 refine tkQ 0 ?_
 refine tkQ 1 ?_
 refine tkQ 2 ?_
 (try simp only [Act.put, zP1, zP2, zP3, zP4, zP5, zP6])
 refine tkQ 3 ?_
 refine tkQ 4 ?_
 refine tkQ 5 ?_
 (try simp only [Act.put, zP1, zP2, zP3, zP4, zP5, zP6])
 refine tkQ 6 ?_
 refine tkQ 7 ?_
 refine tkQ 8 ?_
 (try simp only [Act.put, zP1, zP2, zP3, zP4, zP5, zP6])
 refine tkQ 9 ?_
 refine tkQ 10 ?_
 refine tkQ 11 ?_
 (try simp only [Act.put, zP1, zP2, zP3, zP4, zP5, zP6])
 refine tkQ 12 ?_
 refine tkQ 13 ?_
 refine tkQ 14 ?_
 (try simp only [Act.put, zP1, zP2, zP3, zP4, zP5, zP6])
 refine wpAnyH_ready (rs := [15]) (by kernel_rfl) (by simp) ?_
 refine AllReadyH.cons rfl (fun K hK => ?_) ?_
 ·go_simp
  refine hK.out _ _ ?_ (fun hHeld => ?_)
  ·(try dsimp only); (first | (with_reducible exact HYa.out _ _ _) | (with_reducible exact HYb.out _ _ _ _ _ _) | (refine HY.out _ ?_; exact BWX))
  clear hK K
  (try simp only [Act.put, zP1, zP2, zP3, zP4, zP5, zP6])
  refine tkQ 16 ?_
  refine tkQ 17 ?_
  refine tkQ 18 ?_
  (try simp only [Act.put, zP1, zP2, zP3, zP4, zP5, zP6])
  refine wpAnyH_ready (rs := [19]) (by kernel_rfl) (by simp) ?_
  refine AllReadyH.cons rfl (fun K hK => ?_) ?_
  ·go_simp
   refine hK.out _ _ ?_ (fun hHeld => ?_)
   ·(try dsimp only); (first | (with_reducible exact HYa.out _ _ _) | (with_reducible exact HYb.out _ _ _ _ _ _) | (refine HY.out _ ?_; exact BWX))
   clear hK K
   (try simp only [Act.put, zP1, zP2, zP3, zP4, zP5, zP6])
   refine wpAnyH_done (by kernel_rfl) ?_ _
   go_wp2_with fail
   go_end0
   exact ⟨rfl, ((((((HB.out.set 3 _ rfl).set 4 _ rfl).set 5 _ rfl).set 6 _ rfl).set 7 _ rfl).set 8 _ rfl).drew, grown_drew2 (grown_set (grown_set (grown_set (grown_set (grown_set (grown_set (grown_refl _ _) 3 _) 4 _) 5 _) 6 _) 7 _) 8 _)⟩
  exact AllReadyH.nil
 exact AllReadyH.nil

/-- A method that leaves the cells alone. -/
theorem CvP.toR {w w1 : World} {g : Nat} {s s' : Scr} {cs : List C4} {L : Option Addr} {m k : Nat} {fr fr' : Bool} {e : Ending} {w' : World} (h : CvP w1 g s' L m k fr' e w') (hI : CvI w g s cs L m k fr) (hb : Bw w w1) (hA : s'.A = s.A ∧ s'.n = s.n ∧ s'.c = s.c) : CvR w g s' cs m fr' e w' := by
 obtain ⟨he, hS, hg⟩ := h
 obtain ⟨q0, q1, q2, q3, q4, q5⟩ := hI
 have hgw := (grown_bw hb (some g)).trans hg
 refine ⟨he, s.A, s.n, s.c, L, k, ⟨?_, q1.far hgw q5, q2, q3, q4, q5⟩, hgw, .inl ⟨hA.1.symm, hA.2.1.symm, hA.2.2.symm⟩⟩
 have e : s'.gr s.A s.n s.c = s' := by rw [← hA.1, ← hA.2.1, ← hA.2.2]; rfl
 rw [e]
 exact hS
def svS (s : Scr) : Scr := { s with srow := s.row, scol := s.col, swrap := s.wrap, sf := s.f, sg := s.g, sb := s.b }
def rsS (s : Scr) : Scr := { s with row := s.srow, col := s.scol, wrap := s.swrap, f := s.sf, g := s.sg, b := s.sb }
set_option maxRecDepth 100000 in
set_option maxHeartbeats 1000000 in
theorem cvescape_55 (s : Scr) (fr : Bool) (cs : List C4) (g : Nat) (w : World) (h : CvI w g s cs none 0 0 fr) :
  Calls Tryz.prog 27 #[.pointer (some ⟨g, 0, none⟩), .int .i64 55] w (CvR w g (svS s) cs 0 fr) := by
 have HI := Lib.hid h
 clear h
 go_enter Tryz.func27, Tryz.ntmps27
 go_wp2_with (first
  | (go_at_call 58; refine (cvsave_any s none 0 0 fr g _ (HI.out.up BWX).1).mono ?_; rintro ee w2 hx; obtain ⟨rfl, hx2⟩ := (show CvR w g (svS s) cs 0 fr ee w2 from CvP.toR (s := s) hx HI.out BWX ⟨rfl, rfl, rfl⟩); have HX := Lib.hid hx2; clear hx hx2)
  | fail)
 go_end0
 exact ⟨rfl, HX.out⟩
set_option maxRecDepth 100000 in
set_option maxHeartbeats 1000000 in
theorem cvescape_56 (s : Scr) (fr : Bool) (cs : List C4) (g : Nat) (w : World) (h : CvI w g s cs none 0 0 fr) :
  Calls Tryz.prog 27 #[.pointer (some ⟨g, 0, none⟩), .int .i64 56] w (CvR w g (rsS s) cs 0 fr) := by
 have HI := Lib.hid h
 clear h
 go_enter Tryz.func27, Tryz.ntmps27
 go_wp2_with (first
  | (go_at_call 59; refine (cvrestore_any s none 0 0 fr g _ (HI.out.up BWX).1).mono ?_; rintro ee w2 hx; obtain ⟨rfl, hx2⟩ := (show CvR w g (rsS s) cs 0 fr ee w2 from CvP.toR (s := s) hx HI.out BWX ⟨rfl, rfl, rfl⟩); have HX := Lib.hid hx2; clear hx hx2)
  | fail)
 go_end0
 exact ⟨rfl, HX.out⟩
theorem cvThere {w : World} {g : Nat} {s : Scr} {L : Option Addr} {m k : Nat} {fr : Bool} (h : Sb w g (cvV s L m k fr) 75) : w.there g 0 19 := fun j hj => by
 have hs : j < (cvV s L m k fr).size := by show j < 21; omega
 rw [Nat.zero_add]
 exact ⟨by rw [h.cell j (v := (cvV s L m k fr)[j]) (Array.getElem?_eq_getElem hs)]; rfl, h.free j⟩
theorem cvStored {w : World} {g : Nat} {s : Scr} {L : Option Addr} {m k : Nat} {fr : Bool} (h : Sb w g (cvV s L m k fr) 75) (s' : Scr) : Sb (w.setCells g 0 s'.vals) g (cvV s' L m k fr) 75 ∧ w.grownBy (w.setCells g 0 s'.vals) (some g) := by
 obtain ⟨h1, h2⟩ := Sb.setCells s'.vals 0 w _ h
 have e : putR (cvV s L m k fr) 0 s'.vals = cvV s' L m k fr := putR_mid s'.vals [] s.vals [Value.slice L m k, Value.bool fr] rfl
 exact ⟨e ▸ h1, h2⟩
end Go.Proofs.YtkflooljdopldaaGreat

/- A canvas: escape at 99, the control sequence H. -/
namespace Go.Proofs.YtkflooljdopldaaGreat
open Go.RowKit

theorem clamp_inS {x hi : Int} (h1 : 1 ≤ x) (h2 : x ≤ hi) : clamp x hi = x := by unfold clamp; rw [if_neg (by omega), if_neg (by omega)]
set_option maxRecDepth 100000 in
set_option maxHeartbeats 1000000 in
theorem cvescape_99 (s : Scr) (fr : Bool) (cs : List C4) (g : Nat) (w : World) (h : CvI w g s cs none 0 0 fr) (hs : ScX s) :
  Calls Tryz.prog 27 #[.pointer (some ⟨g, 0, none⟩), .int .i64 99] w (CvR w g (newSc s.Rn s.Cn s.A s.n s.c) (List.replicate (s.Rn * s.Cn) blk) 0 true) := by
 have HI := Lib.hid h
 have HSX := Lib.hid hs
 have hlt := h.1.lt
 have x0 := h.1.cell 0 (v := .int .i64 (s.Rn : Int)) rfl
 have x1 := h.1.cell 1 (v := .int .i64 (s.Cn : Int)) rfl
 have HLEN := Lib.hid (show s.Rn * s.Cn ≤ 3000 from by have := Nat.mul_le_mul hs.1.2.1 hs.1.2.2.2; omega)
 clear h hs
 go_enter Tryz.func27, Tryz.ntmps27
 go_upto_region 12 with (fail)
 refine wp_region_held_drew (S := (fun _ => True)) (by kernel_rfl) ?_ (fun hHeld => ?_)
 ·(try dsimp only); (first | trivial | skip)
 refine tkQ 0 ?_
 refine tkQ 1 ?_
 refine tkQ 2 ?_
 (try simp only [Act.put, zP1, zP2, zP3, zP4, zP5, zP6])
 refine tkQ 3 ?_
 refine tkQ 4 ?_
 refine tkQ 5 ?_
 (try simp only [Act.put, zP1, zP2, zP3, zP4, zP5, zP6])
 refine tkQ 7 ?_
 refine tkQ 8 ?_
 refine tkQ 9 ?_
 (try simp only [Act.put, zP1, zP2, zP3, zP4, zP5, zP6])
 refine tkQ 10 ?_
 refine tkQ 11 ?_
 (try simp only [Act.put, zP1, zP2, zP3, zP4, zP5, zP6])
 refine wpAnyH_ready (rs := [6, 12]) (by kernel_rfl) (by simp) ?_
 refine AllReadyH.cons rfl (fun K hK => ?_) ?_
 ·go_simp
  refine hK.out _ _ ?_ (fun hHeld => ?_)
  ·(try dsimp only); (first | trivial | skip)
  clear hK K
  (try simp only [Act.put, zP1, zP2, zP3, zP4, zP5, zP6])
  refine wpAnyH_ready (rs := [12]) (by kernel_rfl) (by simp) ?_
  refine AllReadyH.cons rfl (fun K hK => ?_) ?_
  ·go_simp
   refine hK.out _ _ ?_ (fun hHeld => ?_)
   ·(try dsimp only); (first | trivial | skip)
   clear hK K
   (try simp only [Act.put, zP1, zP2, zP3, zP4, zP5, zP6])
   refine wpAnyH_ready (rs := [13]) (by kernel_rfl) (by simp) ?_
   refine AllReadyH.cons rfl (fun K hK => ?_) ?_
   ·go_simp
    refine (snew_any s.Rn s.Cn s.Rn s.Cn _ (clamp_inS (by have := HSX.out.1; omega) (by have := HSX.out.1; omega)) (clamp_inS (by have := HSX.out.1; omega) (by have := HSX.out.1; omega))).mono ?_; rintro ee w5 ⟨A, n, c, rfl, hr5, hn5, hc5, hA5, hb5⟩; have hbw5 : Bw w w5 := Bw.trans (show Bw w _ from BWX) hb5; have HB5 := Lib.hid (HI.out.1.up hbw5); have HR5 := Lib.hid hr5; have HA5 := Lib.hid (show ∀ ad, A = some ad → w.heap.size ≤ ad.block from fun ad e => by have h1 := hA5 ad e; first | exact h1 | (simp only [szA, szS, szD, szN] at h1; omega)); clear hr5 hA5; go_wp2_with fail
    refine hK.out _ _ ?_ (fun hHeld => ?_)
    ·(try dsimp only); (first | trivial | skip)
    clear hK K
    (try simp only [Act.put, zP1, zP2, zP3, zP4, zP5, zP6])
    refine tkQ 14 ?_
    (try simp only [Act.put, zP1, zP2, zP3, zP4, zP5, zP6])
    refine tkQ 15 ?_
    (try simp only [Act.put, zP1, zP2, zP3, zP4, zP5, zP6])
    refine wpAnyH_ready (rs := [16]) (by kernel_rfl) (by simp) ?_
    refine AllReadyH.cons rfl (fun K hK => ?_) ?_
    ·(refine (if_pos (by kernel_rfl)).mpr ?_); (refine wp_store_mid 34 (.tmp 42) (.tmp 40) ?ho g 0 (newSc s.Rn s.Cn A n c).vals.toArray ?_ ?_ ?_ (infoSz _) (newSc s.Rn s.Cn A n c).one ?_); (case ho => rfl); (focus rfl); (focus rfl); (focus (exact cvThere HB5.out)); obtain ⟨w7, hw7⟩ : ∃ w7, w7 = w5.setCells g 0 (newSc s.Rn s.Cn A n c).vals := ⟨_, rfl⟩; have HS7 := Lib.hid (show Sb w7 g (cvV (newSc s.Rn s.Cn A n c) none 0 0 fr) 75 ∧ w5.grownBy w7 (some g) from by rw [hw7]; exact cvStored HB5.out _); rw [show w5.setCells g 0 (newSc s.Rn s.Cn A n c).vals.toArray.toList = w7 from hw7.symm]; clear hw7
     refine hK.out _ _ ?_ (fun hHeld => ?_)
     ·(try dsimp only); (first | trivial | skip)
     clear hK K
     (try simp only [Act.put, zP1, zP2, zP3, zP4, zP5, zP6])
     refine wpAnyH_done (by kernel_rfl) ?_ _
     have z20 := HS7.out.1.free 20
     have y20 := HS7.out.1.cell 20 (v := .bool fr) rfl
     go_wp2_with fail
     go_end0
     have hne : ∀ ad, A = some ad → some ad.block ≠ some g := fun ad e e2 => by have := HA5.out ad e; have := Option.some.inj e2; omega
     have hg2 := grown_set HS7.out.2 20 (.bool true)
     exact ⟨rfl, A, n, c, none, 0, ⟨HS7.out.1.set 20 _ rfl, HR5.out.far hg2 hne, hn5, hc5, by have h1 := HR5.out.1; have h2 := HLEN.out; rw [List.length_replicate] at h1; show n ≤ 3000; omega, hne⟩, (grown_bw hbw5 _).trans hg2, .inr HA5.out⟩
    exact AllReadyH.nil
   exact AllReadyH.nil
  exact AllReadyH.nil
 refine AllReadyH.cons rfl (fun K hK => ?_) ?_
 ·go_simp
  refine hK.out _ _ ?_ (fun hHeld => ?_)
  ·(try dsimp only); (first | trivial | skip)
  clear hK K
  (try simp only [Act.put, zP1, zP2, zP3, zP4, zP5, zP6])
  refine wpAnyH_ready (rs := [6]) (by kernel_rfl) (by simp) ?_
  refine AllReadyH.cons rfl (fun K hK => ?_) ?_
  ·go_simp
   refine hK.out _ _ ?_ (fun hHeld => ?_)
   ·(try dsimp only); (first | trivial | skip)
   clear hK K
   (try simp only [Act.put, zP1, zP2, zP3, zP4, zP5, zP6])
   refine wpAnyH_ready (rs := [13]) (by kernel_rfl) (by simp) ?_
   refine AllReadyH.cons rfl (fun K hK => ?_) ?_
   ·go_simp
    refine (snew_any s.Rn s.Cn s.Rn s.Cn _ (clamp_inS (by have := HSX.out.1; omega) (by have := HSX.out.1; omega)) (clamp_inS (by have := HSX.out.1; omega) (by have := HSX.out.1; omega))).mono ?_; rintro ee w5 ⟨A, n, c, rfl, hr5, hn5, hc5, hA5, hb5⟩; have hbw5 : Bw w w5 := Bw.trans (show Bw w _ from BWX) hb5; have HB5 := Lib.hid (HI.out.1.up hbw5); have HR5 := Lib.hid hr5; have HA5 := Lib.hid (show ∀ ad, A = some ad → w.heap.size ≤ ad.block from fun ad e => by have h1 := hA5 ad e; first | exact h1 | (simp only [szA, szS, szD, szN] at h1; omega)); clear hr5 hA5; go_wp2_with fail
    refine hK.out _ _ ?_ (fun hHeld => ?_)
    ·(try dsimp only); (first | trivial | skip)
    clear hK K
    (try simp only [Act.put, zP1, zP2, zP3, zP4, zP5, zP6])
    refine tkQ 14 ?_
    refine tkQ 15 ?_
    (try simp only [Act.put, zP1, zP2, zP3, zP4, zP5, zP6])
    refine wpAnyH_ready (rs := [16]) (by kernel_rfl) (by simp) ?_
    refine AllReadyH.cons rfl (fun K hK => ?_) ?_
    ·(refine (if_pos (by kernel_rfl)).mpr ?_); (refine wp_store_mid 34 (.tmp 42) (.tmp 40) ?ho2 g 0 (newSc s.Rn s.Cn A n c).vals.toArray ?_ ?_ ?_ (infoSz _) (newSc s.Rn s.Cn A n c).one ?_); (case ho2 => rfl); (focus rfl); (focus rfl); (focus (exact cvThere HB5.out)); obtain ⟨w7, hw7⟩ : ∃ w7, w7 = w5.setCells g 0 (newSc s.Rn s.Cn A n c).vals := ⟨_, rfl⟩; have HS7 := Lib.hid (show Sb w7 g (cvV (newSc s.Rn s.Cn A n c) none 0 0 fr) 75 ∧ w5.grownBy w7 (some g) from by rw [hw7]; exact cvStored HB5.out _); rw [show w5.setCells g 0 (newSc s.Rn s.Cn A n c).vals.toArray.toList = w7 from hw7.symm]; clear hw7
     refine hK.out _ _ ?_ (fun hHeld => ?_)
     ·(try dsimp only); (first | trivial | skip)
     clear hK K
     (try simp only [Act.put, zP1, zP2, zP3, zP4, zP5, zP6])
     refine wpAnyH_done (by kernel_rfl) ?_ _
     have z20 := HS7.out.1.free 20
     have y20 := HS7.out.1.cell 20 (v := .bool fr) rfl
     go_wp2_with fail
     go_end0
     have hne : ∀ ad, A = some ad → some ad.block ≠ some g := fun ad e e2 => by have := HA5.out ad e; have := Option.some.inj e2; omega
     have hg2 := grown_set HS7.out.2 20 (.bool true)
     exact ⟨rfl, A, n, c, none, 0, ⟨HS7.out.1.set 20 _ rfl, HR5.out.far hg2 hne, hn5, hc5, by have h1 := HR5.out.1; have h2 := HLEN.out; rw [List.length_replicate] at h1; show n ≤ 3000; omega, hne⟩, (grown_bw hbw5 _).trans hg2, .inr HA5.out⟩
    exact AllReadyH.nil
   exact AllReadyH.nil
  exact AllReadyH.nil
 exact AllReadyH.nil

set_option maxRecDepth 100000 in
set_option maxHeartbeats 1000000 in
theorem cvedit_72 (n : Int) (s : Scr) (L : Option Addr) (m k : Nat) (fr : Bool) (g : Nat) (w : World) (h : Sb w g (cvV s L m k fr) 75) :
  Calls Tryz.prog 66 #[.pointer (some ⟨g, 0, none⟩), .int .i64 72, .int .i64 n] w fun e w' => e = .returned (.tuple #[]) ∧ Bw w w' := by
 have HI := Lib.hid h
 have hlt := h.lt
 clear h
 go_enter Tryz.func66, Tryz.ntmps66
 go_upto_region 0 with (fail)
 go_cut [6, 7, 8] (fun a b p w' => a = .int .i64 s.row ∧ b = .int .i64 s.col ∧ (∃ gm, p = .pointer (some ⟨gm, 0, none⟩)) ∧ Bw w w')
 case first =>
  have HY := Lib.hid (show ∀ w', Bw w w' → (w'.cell? ⟨g, 3, none⟩ = some (.int .i64 s.row) ∧ w'.cell? ⟨g, 4, none⟩ = some (.int .i64 s.col) ∧ w'.cell? ⟨g, 9, none⟩ = some (.int .i64 s.top) ∧ w'.cell? ⟨g, 10, none⟩ = some (.int .i64 s.bot)) from fun w' hb => ⟨(HI.out.up hb).cell 3 rfl, (HI.out.up hb).cell 4 rfl, (HI.out.up hb).cell 9 rfl, (HI.out.up hb).cell 10 rfl⟩)
  refine wp_region_held_drew (S := (fun w' => w'.cell? ⟨g, 3, none⟩ = some (.int .i64 s.row) ∧ w'.cell? ⟨g, 4, none⟩ = some (.int .i64 s.col) ∧ w'.cell? ⟨g, 9, none⟩ = some (.int .i64 s.top) ∧ w'.cell? ⟨g, 10, none⟩ = some (.int .i64 s.bot))) (by kernel_rfl) ?_ (fun hHeld => ?_)
  ·(try dsimp only); (refine HY.out _ ?_; exact BWX)
  refine tkQ 0 ?_
  refine tkQ 1 ?_
  refine tkQ 2 ?_
  (try simp only [Act.put, zP1, zP2, zP3, zP4, zP5, zP6])
  refine tkQ 3 ?_
  refine tkQ 4 ?_
  refine tkQ 5 ?_
  (try simp only [Act.put, zP1, zP2, zP3, zP4, zP5, zP6])
  refine tkQ 6 ?_
  refine tkQ 7 ?_
  refine tkQ 8 ?_
  (try simp only [Act.put, zP1, zP2, zP3, zP4, zP5, zP6])
  refine tkQ 9 ?_
  refine tkQ 10 ?_
  refine tkQ 11 ?_
  (try simp only [Act.put, zP1, zP2, zP3, zP4, zP5, zP6])
  refine tkQ 12 ?_
  refine tkQ 13 ?_
  refine tkQ 14 ?_
  (try simp only [Act.put, zP1, zP2, zP3, zP4, zP5, zP6])
  refine tkQ 15 ?_
  refine tkQ 16 ?_
  (try simp only [Act.put, zP1, zP2, zP3, zP4, zP5, zP6])
  refine wpAnyH_ready (rs := [17]) (by kernel_rfl) (by simp) ?_
  refine AllReadyH.cons rfl (fun K hK => ?_) ?_
  ·go_simp
   refine hK.out _ _ ?_ (fun hHeld => ?_)
   ·(try dsimp only); (refine HY.out _ ?_; exact BWX)
   clear hK K
   (try simp only [Act.put, zP1, zP2, zP3, zP4, zP5, zP6])
   refine wpAnyH_ready (rs := [18]) (by kernel_rfl) (by simp) ?_
   refine AllReadyH.cons rfl (fun K hK => ?_) ?_
   ·go_simp
    refine hK.out _ _ ?_ (fun hHeld => ?_)
    ·(try dsimp only); (refine HY.out _ ?_; exact BWX)
    clear hK K
    (try simp only [Act.put, zP1, zP2, zP3, zP4, zP5, zP6])
    refine wpAnyH_ready (rs := [19]) (by kernel_rfl) (by simp) ?_
    refine AllReadyH.cons rfl (fun K hK => ?_) ?_
    ·go_simp
     refine hK.out _ _ ?_ (fun hHeld => ?_)
     ·(try dsimp only); (refine HY.out _ ?_; exact BWX)
     clear hK K
     (try simp only [Act.put, zP1, zP2, zP3, zP4, zP5, zP6])
     refine wpAnyH_ready (rs := [20]) (by kernel_rfl) (by simp) ?_
     refine AllReadyH.cons rfl (fun K hK => ?_) ?_
     ·go_simp
      refine hK.out _ _ ?_ (fun hHeld => ?_)
      ·(try dsimp only); (refine HY.out _ ?_; exact BWX)
      clear hK K
      (try simp only [Act.put, zP1, zP2, zP3, zP4, zP5, zP6])
      refine wpAnyH_done (by kernel_rfl) ?_ _
      go_wp2_with fail
      go_meet
      case rel => exact ⟨rfl, rfl, ⟨_, rfl⟩, BWX⟩
     exact AllReadyH.nil
    exact AllReadyH.nil
   exact AllReadyH.nil
  exact AllReadyH.nil
 case rest =>
 obtain ⟨rfl, rfl, ⟨gm, rfl⟩, hbc⟩ := hcut
 have HBc := Lib.hid hbc
 clear hbc
 go_wp2_with fail
 go_end0
 exact ⟨rfl, Bw.trans HBc.out BWX⟩
/-- The screen after H to row 1, column 1. -/
def hmS (s : Scr) : Scr := { s with row := (mv (mv s.row s.col s.wrap 6 0 s.top s.bot s.Rn s.Cn).1 (mv s.row s.col s.wrap 6 0 s.top s.bot s.Rn s.Cn).2.1 (mv s.row s.col s.wrap 6 0 s.top s.bot s.Rn s.Cn).2.2 7 0 s.top s.bot s.Rn s.Cn).1, col := (mv (mv s.row s.col s.wrap 6 0 s.top s.bot s.Rn s.Cn).1 (mv s.row s.col s.wrap 6 0 s.top s.bot s.Rn s.Cn).2.1 (mv s.row s.col s.wrap 6 0 s.top s.bot s.Rn s.Cn).2.2 7 0 s.top s.bot s.Rn s.Cn).2.1, wrap := (mv (mv s.row s.col s.wrap 6 0 s.top s.bot s.Rn s.Cn).1 (mv s.row s.col s.wrap 6 0 s.top s.bot s.Rn s.Cn).2.1 (mv s.row s.col s.wrap 6 0 s.top s.bot s.Rn s.Cn).2.2 7 0 s.top s.bot s.Rn s.Cn).2.2 }
set_option maxRecDepth 100000 in
set_option maxHeartbeats 1000000 in
theorem cvtravel_H (s : Scr) (L : Option Addr) (m k : Nat) (fr : Bool) (g : Nat) (w : World) (h : Sb w g (cvV s L m k fr) 75) (hs : ScX s) :
  Calls Tryz.prog 65 #[.pointer (some ⟨g, 0, none⟩), .int .i64 72, .int .i64 1, .int .i64 1] w (CvP w g (hmS s) L m k fr) := by
 have HI := Lib.hid h
 have HSX := Lib.hid hs
 clear h hs
 go_enter Tryz.func65, Tryz.ntmps65
 go_upto_region 22 with (first
  | (go_at_call 57; refine (cvmove_any s L m k fr 6 0 g _ (HI.out.up BWX) HSX.out.1.2.1 HSX.out.1.2.2.2 (by omega)).mono ?_; rintro ee w2 ⟨rfl, hS2, hg2⟩; have HS2 := Lib.hid hS2; have HG2 := Lib.hid ((grown_bw (show Bw w _ from BWX) (some g)).trans hg2); clear hS2 hg2)
  | fail)
 go_wp2_with (first
  | (go_at_call 57; refine (cvmove_any _ L m k fr 7 0 g _ (HS2.out.up BWX) HSX.out.1.2.1 HSX.out.1.2.2.2 (by omega)).mono ?_; rintro ee w3 ⟨rfl, hS3, hg3⟩; have HS3 := Lib.hid hS3; have HG3 := Lib.hid ((grown_bw (show Bw w2 _ from BWX) (some g)).trans hg3); clear hS3 hg3)
  | fail)
 go_end0
 exact ⟨rfl, HS3.out, HG2.out.trans HG3.out⟩
end Go.Proofs.YtkflooljdopldaaGreat

/- Screens: Apply at the control sequence H. -/
namespace Go.Proofs.YtkflooljdopldaaGreat
open Go.RowKit

/-- Two parameters, both 1. -/
def Two (w : World) (b o : Nat) : Prop := w.cell? ⟨b, o, none⟩ = some (.int .i64 1) ∧ w.cell? ⟨b, o + 1, none⟩ = some (.int .i64 1)
theorem Two.up {w w' : World} {b o : Nat} (h : Two w b o) (hb : Bw w w') : Two w' b o := ⟨cell_up h.1 hb, cell_up h.2 hb⟩
set_option maxRecDepth 100000 in
set_option maxHeartbeats 1000000 in
theorem sproper_two (b o c : Nat) (w : World) (hc : Two w b o) : Calls Tryz.prog 28 #[.slice (some ⟨b, o, none⟩) 2 c] w fun e w' => e = .returned (.bool true) ∧ Bw w w' := by
 have HC := Lib.hid hc
 clear hc
 go_enter Tryz.func28, Tryz.ntmps28
 go_wp2_with fail
 go_loopw [7] (fun i wr => ∃ k : Nat, i = .int .i64 k ∧ k ≤ 2 ∧ Bw w wr) (fun i _ => 2 - (intOf i).toNat)
 case atStart => exact ⟨0, rfl, by omega, Bw.refl _⟩
 case round =>
  obtain ⟨wz, hwz⟩ : ∃ wz : World, wz = wr := ⟨_, rfl⟩
  subst hwz
  obtain ⟨k, rfl, hk, hbz⟩ := hrel
  obtain ⟨hc0, hc1⟩ := HC.out.up hbz
  have HBZ := Lib.hid hbz
  clear hbz
  rcases (show k = 0 ∨ k = 1 ∨ k = 2 by omega) with rfl | rfl | rfl
  ·go_wp2_with fail
   go_roundw
   case rel => exact ⟨1, by go_num, by omega, Bw.trans HBZ.out BWX⟩
   case measure => simp [intOf]
  ·go_wp2_with fail
   go_roundw
   case rel => exact ⟨2, by go_num, by omega, Bw.trans HBZ.out BWX⟩
   case measure => simp [intOf]
  ·go_wp2_with fail
   go_ret
   exact ⟨rfl, Bw.trans HBZ.out BWX⟩

set_option maxRecDepth 100000 in
set_option maxHeartbeats 1000000 in
theorem cvsequence_H (s : Scr) (fr : Bool) (cs : List C4) (b o c g : Nat) (w : World) (h : CvI w g s cs none 0 0 fr) (hs : ScX s) (hc : Two w b o) :
  Calls Tryz.prog 29 #[.pointer (some ⟨g, 0, none⟩), .agg #[.int .i64 4, .int .i64 72, .int .i64 0, .slice (some ⟨b, o, none⟩) 2 c]] w (CvR w g (hmS s) cs 0 fr) := by
 have HI := Lib.hid h
 have HSX := Lib.hid hs
 have HC := Lib.hid hc
 have hltg := h.1.lt
 clear h hs hc
 go_enter Tryz.func29, Tryz.ntmps29
 go_upto_region 1 with (fail)
 generalize hw1 : w.alloc _ = w1
 obtain ⟨hb0, hbw, hz⟩ := sb1 hw1
 have HBW := Lib.hid hbw
 have hzz : w.heap.size < w1.heap.size := by omega
 have hgne : some w.heap.size ≠ some g := fun e => by have := Option.some.inj e; omega
 have y1 := hb0.cell 1 (v := .int .i64 72) rfl
 have y2 := hb0.cell 2 (v := .int .i64 0) rfl
 have y3 := hb0.cell 3 (v := .slice (some ⟨b, o, none⟩) 2 c) rfl
 obtain ⟨yc, yd⟩ := HC.out.up hbw
 have HB := Lib.hid hb0
 clear hw1 hb0 hz hbw
 go_wp2_with (first
  | (go_at_call 65; refine (cvtravel_H s none 0 0 fr g _ (HI.out.1.up (Bw.trans HBW.out BWX)) HSX.out).mono ?_; rintro ee w2 ⟨rfl, hS2, hg2⟩; have HS2 := Lib.hid hS2; have HG2 := Lib.hid ((grown_bw (show Bw w1 _ from BWX) (some g)).trans hg2); have u1 := (HB.out.far HG2.out hgne).cell 1 (v := .int .i64 72) rfl; clear hS2 hg2 y1 y2 y3 yc yd)
  | (go_at_call 66; refine (cvedit_72 _ (hmS s) none 0 0 fr g _ (HS2.out.up BWX)).mono ?_; rintro ee w3 ⟨rfl, hb3⟩; have hb23 : Bw w2 w3 := Bw.trans (show Bw w2 _ from BWX) hb3; clear hb3)
  | fail)
 go_end0
 exact CvP.toR (s := s) (w1 := w1) (L := none) (m := 0) (k := 0) (fr := fr) ⟨rfl, HS2.out.up hb23, HG2.out.trans (grown_bw hb23 _)⟩ HI.out HBW.out ⟨rfl, rfl, rfl⟩

set_option maxRecDepth 100000 in
set_option maxHeartbeats 800000 in
theorem sapply_H (b o c : Nat) (s s' : Scr) (cs cs' : List C4) (m : Nat) (fr' : Bool) (w : World) (hs : s.Ok w) (hr : Rg w s.A s.n cs) (hsA : s'.A = s.A) (hxc : Two w b o)
  (hm : ∀ g w1, CvI w1 g s cs none 0 0 false → Two w1 b o → Calls Tryz.prog 29 #[.pointer (some ⟨g, 0, none⟩), .agg #[.int .i64 4, .int .i64 72, .int .i64 0, .slice (some ⟨b, o, none⟩) 2 c]] w1 (CvR w1 g s' cs' m fr')) :
  Calls Tryz.prog 10 #[.agg s.vals.toArray, .agg #[.int .i64 4, .int .i64 72, .int .i64 0, .slice (some ⟨b, o, none⟩) 2 c]] w (ApP w s.A s' cs' m) := by
 have HOK := Lib.hid hs
 have HR := Lib.hid hr
 have HM := Lib.hid hm
 have HSA := Lib.hid hsA
 have HXC := Lib.hid hxc
 have HN := Lib.hid (show s.n ≤ s.c ∧ s.c ≤ 9223372036854775807 ∧ s.n ≤ 3000 from by
  obtain ⟨⟨h1, h2, h3, h4, h5, h6, h7, -⟩, -⟩ := hs
  exact ⟨h6, h7, by rw [h5]; have := Nat.mul_le_mul h2 h4; omega⟩)
 clear hs hr hm hsA hxc
 go_enter Tryz.func10, Tryz.ntmps10
 go_upto_region 1 with (fail)
 generalize hwa : w.alloc (.cells s.vals.toArray 34) = wa
 obtain ⟨ha0, hbwa, hza⟩ := sb1 hwa
 generalize hwb : wa.alloc _ = wb
 obtain ⟨hb0, hbwb, hzb⟩ := sb1 hwb
 generalize hw1 : wb.alloc _ = w1
 obtain ⟨hc0, hbwc, hzc⟩ := sb1 hw1
 rw [hzb, hza] at hc0
 rw [hza] at hb0
 have HA := Lib.hid ((ha0.up hbwb).up hbwc)
 have HB := Lib.hid (hb0.up hbwc)
 have HT := Lib.hid (show ∃ old, Sb w1 (w.heap.size + 1 + 1) old 34 ∧ old.size = 19 from ⟨_, hc0, rfl⟩)
 have hbw := Bw.trans (Bw.trans hbwa hbwb) hbwc
 have hz1 : w.heap.size + 1 + 1 < w1.heap.size := by omega
 clear hwa ha0 hbwa hza hwb hb0 hbwb hzb hw1 hc0 hbwc hzc
 go_upto_region 2 with (first
  | ((with_reducible refine wpList_load_sc s w.heap.size (.tmp 2) rfl rfl ?_ ?_ ?_); (focus rfl); (focus (exact HA.out)))
  | ((with_reducible refine wpList_build_cv s _ rfl rfl ?_ ?_); (focus rfl))
  | ((with_reducible refine wpList_store_cs 75 (cvV s none 0 0 false) w1.heap.size (.tmp 6) (.tmp 8) (infoCz s none 0 0 false) (cvV_one s none 0 0 false) rfl rfl ?_ ?_ ?_ ?_); (focus rfl); (focus rfl); (focus (exact ⟨_, heap_at (by simp), rfl⟩)); intro w2 hS2 hg2; have HS2 := Lib.hid hS2; have hbw2 : Bw w1 w2 := Bw.grown (show Bw w1 _ from BWX) hg2 (fun k hk => by cases hk; omega); clear hS2 hg2)
  | fail)
 have hlt2 := HS2.out.lt
 obtain ⟨g, hg⟩ : ∃ g, g = w1.heap.size := ⟨_, rfl⟩
 rw [← hg] at HS2 hlt2 ⊢
 have hgz : w.heap.size + 1 + 1 < g := by omega
 have hbw02 := Bw.trans hbw hbw2
 clear hg
 go_upto_if 10 with (first
  | ((with_reducible refine wpList_load_sc s w.heap.size (.tmp 2) rfl rfl ?_ ?_ ?_); (focus rfl); (focus (exact HA.out.up hbw2)))
  | (go_at_call 11; refine (svalid_ok s _ (HOK.out.up BWX)).mono ?_; rintro ee w3 ⟨rfl, hb3⟩; have hbw3 : Bw w2 w3 := Bw.trans (show Bw w2 _ from BWX) hb3; clear hb3)
  | fail)
 have HI := Lib.hid (show CvI w3 g s cs none 0 0 false from ⟨HS2.out.up hbw3, HR.out.up (Bw.trans hbw02 hbw3), HN.out.1, HN.out.2.1, HN.out.2.2, fun ad e e2 => by
  have h0 : 0 < s.n := by
   obtain ⟨⟨h1, h2, h3, h4, h5, -⟩, -⟩ := HOK.out
   rw [h5]; exact Nat.mul_pos (by omega) (by omega)
  obtain ⟨b, o, e3, hx⟩ := HR.out.2 h0
  have h4 := lt_of_cell (hx 0 (by rw [HR.out.1]; exact h0)).1
  rw [e] at e3
  have e5 := Option.some.inj e2
  have e6 := congrArg Addr.block (Option.some.inj e3)
  simp only at e6 h4
  omega⟩)
 have HB3 := Lib.hid (HB.out.up (Bw.trans hbw2 hbw3))
 have HT3 := Lib.hid (show ∃ old, Sb w3 (w.heap.size + 1 + 1) old 34 ∧ old.size = 19 from Exists.elim HT.out (fun old h => ⟨old, h.1.up (Bw.trans hbw2 hbw3), h.2⟩))
 have hbw03 := Bw.trans hbw02 hbw3
 have hlt3 := HI.out.1.lt
 have x0 := HB3.out.cell 0 (v := .int .i64 4) rfl
 have x1 := HB3.out.cell 1 (v := .int .i64 72) rfl
 have x2 := HB3.out.cell 2 (v := .int .i64 0) rfl
 have x3 := HB3.out.cell 3 (v := .slice (some ⟨b, o, none⟩) 2 c) rfl
 have hxc3 := HXC.out.up hbw03
 have HX3 := Lib.hid hxc3
 clear hxc3
 clear hbw hbw2 hbw3 hbw02 HS2 HA HB HT hlt2 HN HR
 go_cut [] (fun w' => ∃ A n c L k, CvI w' g (s'.gr A n c) cs' L m k fr' ∧ w3.grownBy w' (some g) ∧ ((A = s'.A ∧ n = s'.n ∧ c = s'.c) ∨ ∀ ad, A = some ad → w3.heap.size ≤ ad.block))
 case first =>
  have ARM := HM.out g
  go_wp2_with (first
   | (go_at_call 28; refine (sproper_two b o c _ (HX3.out.up BWX)).mono ?_; rintro ee w4 ⟨rfl, hb4⟩; have hbw4 : Bw w3 w4 := Bw.trans (show Bw w3 _ from BWX) hb4; have HBO := Lib.hid (HB3.out.up hbw4); clear hb4 x0 x1 x2 x3; have x0 := HBO.out.cell 0 (v := .int .i64 4) rfl; have x1 := HBO.out.cell 1 (v := .int .i64 72) rfl; have x2 := HBO.out.cell 2 (v := .int .i64 0) rfl; have x3 := HBO.out.cell 3 (v := .slice (some ⟨b, o, none⟩) 2 c) rfl)
   | (go_at_call 29; refine (ARM _ (HI.out.up BWX) (HX3.out.up BWX)).mono ?_; rintro ee w5 ⟨rfl, A, n, c_, L, k, hI4, hg4, hA4⟩; have HI4 := Lib.hid hI4; have hb34 := (show Bw w3 w4 from hbw4); have HG4 := Lib.hid ((grown_bw (Bw.trans hbw4 (show Bw w4 _ from BWX)) (some g)).trans hg4); have hsz := (Bw.trans hbw4 (show Bw w4 _ from BWX)).size; clear hI4 hg4)
   | fail)
  go_meet
  case rel => exact ⟨A, n, c_, L, k, HI4.out, HG4.out, hA4.imp id (fun h ad e => Nat.le_trans (by first | exact hsz | exact hbw4.size) (h ad e))⟩
 case rest =>
 obtain ⟨wq, hwq⟩ : ∃ wq : World, wq = wc := ⟨_, rfl⟩
 subst hwq
 obtain ⟨A, n, c1, L, k, hI, hgc, hA⟩ := hcut
 have HIc := Lib.hid hI
 have HGc := Lib.hid hgc
 have HAc := Lib.hid hA
 have hltc := hI.1.lt
 have hzc := hgc.size
 clear x2
 have x20 := hI.1.cell 20 (v := .bool fr') rfl
 have x2 := hI.1.cell 2 (v := .slice A n c1) rfl
 have z2 := hI.1.free 2
 have hn3 : n ≤ 3000 := hI.2.2.2.2.1
 clear hI hgc hA x0 x1 x3
 go_upto_if 37 with (fail)
 go_cut [] (fun w' => ∃ A n c L k, Sb w' g (cvV (s'.gr A n c) L m k fr') 75 ∧ Rg w' A n cs' ∧ n ≤ c ∧ c ≤ 9223372036854775807 ∧ (A = s'.A ∨ ∀ ad, A = some ad → w3.heap.size ≤ ad.block) ∧ (∀ ad, A = some ad → some ad.block ≠ some g) ∧ wq.grownBy w' (some g))
 case first =>
  cases fr' with
  | true =>
   go_wp2_with fail
   go_meet
   case rel => exact ⟨A, n, c1, L, k, HIc.out.1, HIc.out.2.1, HIc.out.2.2.1, HIc.out.2.2.2.1, HAc.out.imp (fun h => h.1) id, HIc.out.2.2.2.2.2, grown_refl _ _⟩
  | false =>
   go_wp2_with (first
    | (go_at_call 30; refine (gclone_any A n c1 cs' _ (HIc.out.2.1.up BWX) HIc.out.2.2.1 (by omega) HIc.out.2.2.2.1).mono ?_; rintro ee w4 ⟨v, rfl, hown, hb4⟩; obtain ⟨A4, c4, rfl, hc4, hc4m⟩ := own_form hown; have hbw4 : Bw wq w4 := Bw.trans (show Bw wq _ from BWX) hb4; have HO4 := Lib.hid hown; have HB4 := Lib.hid (HIc.out.1.up hbw4); have y2 := HB4.out.cell 2 (v := .slice A n c1) rfl; have v2 := HB4.out.free 2; clear hown hb4 x2 x20 z2)
    | fail)
   go_meet
   case rel =>
    have hnw : ∀ ad, A4 = some ad → wq.heap.size ≤ ad.block := fun ad e => own_new HO4.out ad e
    exact ⟨A4, n, c4, L, k, HB4.out.set 2 _ rfl, (Rg.of_own HO4.out).far (grown_set (grown_refl _ _) 2 _) (fun ad e e2 => by have := hnw ad e; have := Option.some.inj e2; omega), hc4, hc4m, .inr (fun ad e => by have := hnw ad e; omega), (fun ad e e2 => by have := hnw ad e; have := Option.some.inj e2; omega), grown_set (grown_bw hbw4 _) 2 _⟩
 case rest =>
 obtain ⟨A5, n5, c5, L5, k5, hS5, hr5, hn5, hc5, hA5, hne5, hg5⟩ := hcut
 have HS5 := Lib.hid hS5
 have HR5 := Lib.hid hr5
 have HG5 := Lib.hid hg5
 have HA5 := Lib.hid hA5
 have HN5 := Lib.hid hne5
 have hgt : some (w.heap.size + 1 + 1) ≠ some g := fun e => by have := Option.some.inj e; omega
 have HT5 := Lib.hid (show ∃ old, Sb wc (w.heap.size + 1 + 1) old 34 ∧ old.size = 19 from Exists.elim HT3.out (fun old h => ⟨old, (h.1.far HGc.out hgt).far hg5 hgt, h.2⟩))
 have hlt5 := hS5.lt
 have hz5 := hg5.size
 have HY := Lib.hid (show ∀ w', Bw wc w' → (w'.cell? ⟨g, 19, none⟩ = some (.slice L5 m k5)) from fun w' hb => (HS5.out.up hb).cell 19 rfl)
 clear hS5 hr5 hg5 hA5 hne5 x20 x2 z2
 go_upto_region 15 with (fail)
 refine wp_region_held_drew (S := (fun w' => w'.cell? ⟨g, 19, none⟩ = some (.slice L5 m k5))) (by kernel_rfl) ?_ (fun hHeld => ?_)
 ·(try dsimp only); (first | exact cell_far (HY.out _ (Bw.refl _)) HG6.out (fun e => hgt e.symm) | (refine HY.out _ ?_; exact BWX))
 refine tkQ 0 ?_
 (try simp only [Act.put, zP1, zP2, zP3, zP4, zP5, zP6])
 refine tkQ 2 ?_
 refine tkQ 3 ?_
 (try simp only [Act.put, zP1, zP2, zP3, zP4, zP5, zP6])
 refine wpAnyH_ready (rs := [1]) (by kernel_rfl) (by simp) ?_
 refine AllReadyH.cons rfl (fun K hK => ?_) ?_
 ·(refine (if_pos (by kernel_rfl)).mpr ?_); (refine wp_load_mid 34 (.tmp 46) ?ho g 0 ?_ (s'.gr A5 n5 c5).vals _ (cvRange (HS5.out.up ?hb)) Tryz.underlying34 rfl infoSc ?_); (case ho => rfl); (focus rfl); (case hb => ((repeat (first | with_reducible (first | assumption | exact Bw.refl _ | refine Bw.alloc ?_ _ | refine Bw.more ?_ _ _ | refine Bw.drew ?_ | refine Bw.drewN ?_ _) | ((with_reducible refine Bw.set2 ?_ ?_ _); (focus exact SZX)) | with_reducible refine Bw.trans ?_ (by assumption))); done))
  refine hK.out _ _ ?_ (fun hHeld => ?_)
  ·(try dsimp only); (first | exact cell_far (HY.out _ (Bw.refl _)) HG6.out (fun e => hgt e.symm) | (refine HY.out _ ?_; exact BWX))
  clear hK K
  (try simp only [Act.put, zP1, zP2, zP3, zP4, zP5, zP6])
  refine wpAnyH_ready (rs := [4]) (by kernel_rfl) (by simp) ?_
  refine AllReadyH.cons rfl (fun K hK => ?_) ?_
  ·(refine (if_pos (by kernel_rfl)).mpr ?_); (with_reducible refine wp_store_sc (s'.gr A5 n5 c5) (w.heap.size + 1 + 1) (.tmp 4) (.tmp 47) ?ho2 ?_ ?_ ?_ ?_); (case ho2 => rfl); (focus rfl); (focus rfl); (focus (exact Exists.elim HT5.out (fun old h => ⟨old, h.1.up BWX, h.2⟩))); intro w6 hS6 hg6; have HS6 := Lib.hid hS6; have HG6 := Lib.hid ((grown_bw (show Bw wc _ from BWX) _).trans hg6); clear hS6 hg6
   refine hK.out _ _ ?_ (fun hHeld => ?_)
   ·(try dsimp only); (first | exact cell_far (HY.out _ (Bw.refl _)) HG6.out (fun e => hgt e.symm) | (refine HY.out _ ?_; exact BWX))
   clear hK K
   (try simp only [Act.put, zP1, zP2, zP3, zP4, zP5, zP6])
   refine wpAnyH_ready (rs := [5]) (by kernel_rfl) (by simp) ?_
   refine AllReadyH.cons rfl (fun K hK => ?_) ?_
   ·go_simp
    refine hK.out _ _ ?_ (fun hHeld => ?_)
    ·(try dsimp only); (first | exact cell_far (HY.out _ (Bw.refl _)) HG6.out (fun e => hgt e.symm) | (refine HY.out _ ?_; exact BWX))
    clear hK K
    (try simp only [Act.put, zP1, zP2, zP3, zP4, zP5, zP6])
    refine wpAnyH_done (by kernel_rfl) ?_ _
    go_wp2_with fail
    refine bodyPost_ret (results_sc2 rfl _ _ (w.heap.size + 1 + 1) (s'.gr A5 n5 c5) (by rfl) HS6.out) rfl ?_
    have h35 : w3.grownBy w6 (some g) ∨ True := .inr trivial
    refine ⟨A5, n5, c5, L5, k5, rfl, ?_, hn5, hc5, ?_, ?_⟩
    ·refine HR5.out.far HG6.out (fun ad e e2 => ?_)
     rcases HA5.out with h | h
     ·have e3 := Option.some.inj e2
      rw [h, HSA.out] at e
      obtain ⟨⟨h1, h2, h3, h4, h5, h6, h7, cs0, hr0, -⟩, -⟩ := HOK.out
      have h0 : 0 < s.n := by rw [h5]; exact Nat.mul_pos (by omega) (by omega)
      obtain ⟨b, oo, e4, hx⟩ := hr0.2 h0
      have h8 := lt_of_cell (hx 0 (by rw [hr0.1]; exact h0)).1
      rw [e] at e4
      have e6 := congrArg Addr.block (Option.some.inj e4)
      simp only at e6 h8
      omega
     ·have := h ad e
      have e3 := Option.some.inj e2
      omega
    ·rcases HA5.out with h | h
     ·exact .inl (h.trans HSA.out)
     ·exact .inr (fun ad e => by have := h ad e; have := hbw03.size; omega)
    ·exact Bw.grown (Bw.grown hbw03 (HGc.out.trans HG5.out) (fun k hk => by cases hk; omega)) HG6.out (fun k hk => by cases hk; omega)
   exact AllReadyH.nil
  exact AllReadyH.nil
 exact AllReadyH.nil
end Go.Proofs.YtkflooljdopldaaGreat
