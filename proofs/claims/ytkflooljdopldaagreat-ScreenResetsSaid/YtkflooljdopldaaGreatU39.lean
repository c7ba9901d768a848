/- Parts of the proof, one after the other. -/
import Derived.Test.YtkflooljdopldaaGreatU09
import Derived.Test.YtkflooljdopldaaGreatU21
import Derived.Deep.RegionHeld3
import Derived.Test.YtkflooljdopldaaGreatU07
import Derived.Lib.SliceRun
set_option linter.unusedSimpArgs false
set_option linter.unusedVariables false
/- cursor.Move returns what the plain function mv says. -/
namespace Go.Proofs.YtkflooljdopldaaGreat
open Go.RowKit

set_option maxHeartbeats 1000000 in
theorem cmove_no (r c : Int) (b : Bool) (kind n t m rows cols : Int) (w : World) (hr : rows ≤ 1000000) (hc : cols ≤ 1000000) (hv : vldB r c rows cols = false) :
  Calls Tryz.prog 94 #[.agg #[.int .i64 r, .int .i64 c, .bool b], .int .i64 kind, .int .i64 n, .agg #[.int .i64 t, .int .i64 m], .int .i64 rows, .int .i64 cols] w fun e w' => e = .returned (.agg #[.int .i64 r, .int .i64 c, .bool b]) ∧ Bw w w' := by
 have HV := Lib.hid hv
 clear hv
 go_enter Tryz.func94, Tryz.ntmps94
 go_wp2_with (go_at_call 32; refine (cvalid_any _ _ _ _ _ _).mono ?_; rintro ee ww ⟨rfl, rfl⟩; rw [HV.out])
 refine bodyPost_ret (v := ?v) ?res rfl ?post
 case res => (simp [results, Tryz.results94, go_sem]; rfl)
 exact ⟨rfl, BWX⟩

set_option maxHeartbeats 1000000 in
theorem cmove_nr (r c : Int) (b : Bool) (kind n t m rows cols : Int) (w : World) (hr : rows ≤ 1000000) (hc : cols ≤ 1000000) (hv : vldB r c rows cols = true) (hq : rgtB t m rows = false) :
  Calls Tryz.prog 94 #[.agg #[.int .i64 r, .int .i64 c, .bool b], .int .i64 kind, .int .i64 n, .agg #[.int .i64 t, .int .i64 m], .int .i64 rows, .int .i64 cols] w fun e w' => e = .returned (.agg #[.int .i64 r, .int .i64 c, .bool b]) ∧ Bw w w' := by
 have HV := Lib.hid hv
 have HR := Lib.hid hq
 clear hv hq
 go_enter Tryz.func94, Tryz.ntmps94
 go_wp2_with (first | (go_at_call 32; refine (cvalid_any _ _ _ _ _ _).mono ?_; rintro ee ww ⟨rfl, rfl⟩; rw [HV.out]) | (go_at_call 115; refine (cright_any _ _ _ _).mono ?_; rintro ee ww ⟨rfl, rfl⟩; rw [HR.out]))
 refine bodyPost_ret (v := ?v) ?res rfl ?post
 case res => (simp [results, Tryz.results94, go_sem]; rfl)
 exact ⟨rfl, BWX⟩

set_option maxHeartbeats 4000000 in
theorem cmove_yes (r c : Int) (b : Bool) (kind n t m rows cols : Int) (w : World) (hr : rows ≤ 1000000) (hc : cols ≤ 1000000) (hn : n ≤ 9223372036854775807) (h1 : 0 ≤ r) (h2 : r < rows) (h3 : 0 ≤ c) (h4 : c < cols) (h5 : 0 ≤ t) (h6 : t ≤ m) (h7 : m < rows) :
  Calls Tryz.prog 94 #[.agg #[.int .i64 r, .int .i64 c, .bool b], .int .i64 kind, .int .i64 n, .agg #[.int .i64 t, .int .i64 m], .int .i64 rows, .int .i64 cols] w fun e w' => e = .returned (curV (mv r c b kind n t m rows cols)) ∧ Bw w w' := by
 have HV := Lib.hid (show vldB r c rows cols = true from decide_eq_true ⟨h1, h2, h3, h4⟩)
 have HR := Lib.hid (show rgtB t m rows = true from decide_eq_true ⟨h5, h6, h7⟩)
 go_enter Tryz.func94, Tryz.ntmps94
 go_wp2_with (first
  | (go_at_call 32; refine (cvalid_any _ _ _ _ _ _).mono ?_; rintro ee ww ⟨rfl, rfl⟩; rw [HV.out])
  | (go_at_call 115; refine (cright_any _ _ _ _).mono ?_; rintro ee ww ⟨rfl, rfl⟩; rw [HR.out])
  | (go_at_call 116; refine (ctab_any _ _ _ _ h3 h4 hc (by omega) (by omega)).mono ?_; rintro ee ww ⟨rfl, rfl⟩))
 all_goals refine bodyPost_ret (by simp [results, Tryz.results94, go_sem]; rfl) rfl ⟨?_, BWX⟩
 all_goals (have e1 := HV.out; have e2 := HR.out; clear HV HR hr hc; try simp only [beq_iff_eq, beq_eq_false_iff_ne, ne_eq] at *)
 all_goals (refine curV_ext ?_ ?_ ?_ <;> simp [mv, *] <;> first | omega | (congr 1; omega))


theorem cmove_any (r c : Int) (b : Bool) (kind n t m rows cols : Int) (w : World) (hr : rows ≤ 1000000) (hc : cols ≤ 1000000) (hn : n ≤ 9223372036854775807) :
  Calls Tryz.prog 94 #[.agg #[.int .i64 r, .int .i64 c, .bool b], .int .i64 kind, .int .i64 n, .agg #[.int .i64 t, .int .i64 m], .int .i64 rows, .int .i64 cols] w fun e w' => e = .returned (curV (mv r c b kind n t m rows cols)) ∧ Bw w w' := by
 cases hv : vldB r c rows cols
 ·have e : mv r c b kind n t m rows cols = (r, c, b) := by simp [mv, hv]
  rw [e]; exact cmove_no r c b kind n t m rows cols w hr hc hv
 ·cases hq : rgtB t m rows
  ·have e : mv r c b kind n t m rows cols = (r, c, b) := by simp [mv, hq]
   rw [e]; exact cmove_nr r c b kind n t m rows cols w hr hc hv hq
  ·have h1 := of_decide_eq_true hv
   have h2 := of_decide_eq_true hq
   exact cmove_yes r c b kind n t m rows cols w hr hc hn h1.1 h1.2.1 h1.2.2.1 h1.2.2.2 h2.1 h2.2.1 h2.2.2
end Go.Proofs.YtkflooljdopldaaGreat

/- Screens, the program's side: a canvas; paint, empty, move. -/
namespace Go.Proofs.YtkflooljdopldaaGreat
open Go.RowKit

/-- A canvas' cells: the screen, the rows that went away, whether the grid is new. -/
def cvV (s : Scr) (L : Option Addr) (m k : Nat) (fr : Bool) : Array Value := (s.vals ++ [Value.slice L m k, Value.bool fr]).toArray
/-- A method of a canvas: its box afterwards. -/
def CvP (w : World) (g : Nat) (s : Scr) (L : Option Addr) (m k : Nat) (fr : Bool) (e : Ending) (w' : World) : Prop :=
 e = .returned (.tuple #[]) ∧ Sb w' g (cvV s L m k fr) 75 ∧ w.grownBy w' (some g)

set_option maxRecDepth 100000 in
set_option maxHeartbeats 2000000 in
theorem cvpaint_any (s : Scr) (L : Option Addr) (m k : Nat) (fr : Bool) (R C : Nat) (A : Option Addr) (n c g : Nat) (w : World) (h : Sb w g (cvV s L m k fr) 75) :
  Calls Tryz.prog 55 #[.pointer (some ⟨g, 0, none⟩), .agg #[.int .i64 (R : Int), .int .i64 (C : Int), .slice A n c]] w (CvP w g ({ s with Rn := R, Cn := C, A := A, n := n, c := c } : Scr) L m k true) := by
 go_enter Tryz.func55, Tryz.ntmps55
 go_upto_region 1 with (fail)
 generalize hw1 : w.alloc _ = w1
 obtain ⟨hb0, hbw, hz⟩ := sb1 hw1
 have HB := Lib.hid (h.up hbw)
 have hlt := h.lt
 have y0 := hb0.cell 0 (v := .int .i64 (R : Int)) rfl
 have y1 := hb0.cell 1 (v := .int .i64 (C : Int)) rfl
 have y2 := hb0.cell 2 (v := .slice A n c) rfl
 (have x0 := HB.out.cell 0 (v := .int .i64 (s.Rn : Int)) rfl; have x1 := HB.out.cell 1 (v := .int .i64 (s.Cn : Int)) rfl; have x2 := HB.out.cell 2 (v := .slice s.A s.n s.c) rfl)
 have x20 := HB.out.cell 20 (v := .bool fr) rfl
 (have z0 := HB.out.free 0; have z1 := HB.out.free 1; have z2 := HB.out.free 2; have z20 := HB.out.free 20)
 have hne : g ≠ w.heap.size := by omega
 clear hw1 hb0 hz h
 go_wp2_with fail
 go_end0
 exact ⟨rfl, (((HB.out.set 0 _ rfl).set 1 _ rfl).set 2 _ rfl).set 20 _ rfl, grown_set (grown_set (grown_set (grown_set (grown_bw hbw _) 0 _) 1 _) 2 _) 20 _⟩

set_option maxRecDepth 100000 in
set_option maxHeartbeats 2000000 in
theorem cvempty_any (s : Scr) (L : Option Addr) (m k : Nat) (fr : Bool) (g : Nat) (w : World) (h : Sb w g (cvV s L m k fr) 75) :
  Calls Tryz.prog 98 #[.pointer (some ⟨g, 0, none⟩)] w fun e w' => e = .returned (.agg #[.int .i64 32, .int .i64 0, .int .i64 0, .int .i64 s.b]) ∧ Bw w w' := by
 (have x6 := h.cell 6 (v := .int .i64 s.f) rfl; have x7 := h.cell 7 (v := .int .i64 s.g) rfl; have x8 := h.cell 8 (v := .int .i64 s.b) rfl)
 have hlt := h.lt
 go_enter Tryz.func98, Tryz.ntmps98
 go_wp2_with (go_at_call 37; refine (gblank_any _ _ _ _).mono ?_; rintro ee ww ⟨rfl, hb1⟩; (first | obtain ⟨L1, d1, rfl⟩ := Bw.isPlus (Bw.un hb1) | obtain ⟨L1, d1, rfl⟩ := Bw.isPlus hb1); clear hb1)
 refine bodyPost_ret (by simp [results, Tryz.results98, go_sem]; rfl) rfl ?_
 exact ⟨rfl, BWX⟩

set_option maxRecDepth 100000 in
set_option maxHeartbeats 2000000 in
theorem cvmove_any (s : Scr) (L : Option Addr) (m k : Nat) (fr : Bool) (kind nn : Int) (g : Nat) (w : World) (h : Sb w g (cvV s L m k fr) 75) (hR : s.Rn ≤ 30) (hC : s.Cn ≤ 100) (hn : nn ≤ 9223372036854775807) :
  Calls Tryz.prog 57 #[.pointer (some ⟨g, 0, none⟩), .int .i64 kind, .int .i64 nn] w (CvP w g ({ s with row := (mv s.row s.col s.wrap kind nn s.top s.bot s.Rn s.Cn).1, col := (mv s.row s.col s.wrap kind nn s.top s.bot s.Rn s.Cn).2.1, wrap := (mv s.row s.col s.wrap kind nn s.top s.bot s.Rn s.Cn).2.2 } : Scr) L m k fr) := by
 obtain ⟨⟨r', c', b'⟩, hmv⟩ : ∃ x, mv s.row s.col s.wrap kind nn s.top s.bot s.Rn s.Cn = x := ⟨_, rfl⟩
 rw [hmv]
 have HM := Lib.hid hmv
 have HB := Lib.hid h
 have hlt := h.lt
 (have x0 := h.cell 0 (v := .int .i64 (s.Rn : Int)) rfl; have x1 := h.cell 1 (v := .int .i64 (s.Cn : Int)) rfl; have x3 := h.cell 3 (v := .int .i64 s.row) rfl; have x4 := h.cell 4 (v := .int .i64 s.col) rfl; have x5 := h.cell 5 (v := .bool s.wrap) rfl; have x9 := h.cell 9 (v := .int .i64 s.top) rfl; have x10 := h.cell 10 (v := .int .i64 s.bot) rfl)
 clear hmv h
 go_enter Tryz.func57, Tryz.ntmps57
 go_upto_region 0 with (fail)
 have HY := Lib.hid (show ∀ w', Bw w w' → (w'.cell? ⟨g, 0, none⟩ = some (.int .i64 (s.Rn : Int)) ∧ w'.cell? ⟨g, 1, none⟩ = some (.int .i64 (s.Cn : Int)) ∧ w'.cell? ⟨g, 9, none⟩ = some (.int .i64 s.top) ∧ w'.cell? ⟨g, 10, none⟩ = some (.int .i64 s.bot)) from fun w' hb => ⟨(HB.out.up hb).cell 0 rfl, (HB.out.up hb).cell 1 rfl, (HB.out.up hb).cell 9 rfl, (HB.out.up hb).cell 10 rfl⟩)
 have HYs := Lib.hid (show ∀ w' (a b c : Value), Bw w w' → ((((w'.setCell ⟨g, 3, none⟩ a).setCell ⟨g, 4, none⟩ b).setCell ⟨g, 5, none⟩ c).cell? ⟨g, 0, none⟩ = some (.int .i64 (s.Rn : Int)) ∧ (((w'.setCell ⟨g, 3, none⟩ a).setCell ⟨g, 4, none⟩ b).setCell ⟨g, 5, none⟩ c).cell? ⟨g, 1, none⟩ = some (.int .i64 (s.Cn : Int)) ∧ (((w'.setCell ⟨g, 3, none⟩ a).setCell ⟨g, 4, none⟩ b).setCell ⟨g, 5, none⟩ c).cell? ⟨g, 9, none⟩ = some (.int .i64 s.top) ∧ (((w'.setCell ⟨g, 3, none⟩ a).setCell ⟨g, 4, none⟩ b).setCell ⟨g, 5, none⟩ c).cell? ⟨g, 10, none⟩ = some (.int .i64 s.bot)) from fun w' a b c hb => ⟨cell_ne (cell_ne (cell_ne ((HB.out.up hb).cell 0 rfl) (by omega)) (by omega)) (by omega), cell_ne (cell_ne (cell_ne ((HB.out.up hb).cell 1 rfl) (by omega)) (by omega)) (by omega), cell_ne (cell_ne (cell_ne ((HB.out.up hb).cell 9 rfl) (by omega)) (by omega)) (by omega), cell_ne (cell_ne (cell_ne ((HB.out.up hb).cell 10 rfl) (by omega)) (by omega)) (by omega)⟩)
 refine wp_region_held_drew (S := (fun w' => w'.cell? ⟨g, 0, none⟩ = some (.int .i64 (s.Rn : Int)) ∧ w'.cell? ⟨g, 1, none⟩ = some (.int .i64 (s.Cn : Int)) ∧ w'.cell? ⟨g, 9, none⟩ = some (.int .i64 s.top) ∧ w'.cell? ⟨g, 10, none⟩ = some (.int .i64 s.bot))) (by kernel_rfl) ?_ (fun hHeld => ?_)
 ·(try dsimp only); (first | (exact HYs.out _ _ _ _ BWX) | (refine HY.out _ ?_; exact BWX))
 refine tkQ 0 ?_
 refine tkQ 1 ?_
 refine tkQ 2 ?_
 (try simp only [Act.put, zP1, zP2, zP3, zP4, zP5, zP6])
 refine tkQ 3 ?_
 refine tkQ 4 ?_
 refine tkQ 6 ?_
 (try simp only [Act.put, zP1, zP2, zP3, zP4, zP5, zP6])
 refine tkQ 7 ?_
 refine tkQ 8 ?_
 refine tkQ 9 ?_
 (try simp only [Act.put, zP1, zP2, zP3, zP4, zP5, zP6])
 refine tkQ 10 ?_
 refine tkQ 11 ?_
 refine tkQ 12 ?_
 (try simp only [Act.put, zP1, zP2, zP3, zP4, zP5, zP6])
 refine tkQ 13 ?_
 refine tkQ 14 ?_
 refine tkQ 15 ?_
 (try simp only [Act.put, zP1, zP2, zP3, zP4, zP5, zP6])
 refine tkQ 16 ?_
 refine tkQ 17 ?_
 refine tkQ 18 ?_
 (try simp only [Act.put, zP1, zP2, zP3, zP4, zP5, zP6])
 refine tkQ 19 ?_
 refine tkQ 20 ?_
 refine tkQ 21 ?_
 (try simp only [Act.put, zP1, zP2, zP3, zP4, zP5, zP6])
 refine tkQ 22 ?_
 refine tkQ 23 ?_
 refine tkQ 24 ?_
 (try simp only [Act.put, zP1, zP2, zP3, zP4, zP5, zP6])
 refine wpAnyH_ready (rs := [5]) (by kernel_rfl) (by simp) ?_
 refine AllReadyH.cons rfl (fun K hK => ?_) ?_
 ·go_simp
  refine hK.out _ _ ?_ (fun hHeld => ?_)
  ·(try dsimp only); (first | (exact HYs.out _ _ _ _ BWX) | (refine HY.out _ ?_; exact BWX))
  clear hK K
  (try simp only [Act.put, zP1, zP2, zP3, zP4, zP5, zP6])
  refine wpAnyH_ready (rs := [25]) (by kernel_rfl) (by simp) ?_
  refine AllReadyH.cons rfl (fun K hK => ?_) ?_
  ·go_simp
   refine (cmove_any s.row s.col s.wrap kind nn s.top s.bot _ _ _ (by omega) (by omega) hn).mono ?_; rintro ee w1 ⟨rfl, hb0⟩; have hb1 : Bw w w1 := Bw.trans (show Bw w _ from BWX) hb0; clear hb0; rw [HM.out]; dsimp only [curV]; have HB1 := Lib.hid (HB.out.up hb1); clear x0 x1 x3 x4 x5 x9 x10; (have y3 := HB1.out.cell 3 (v := .int .i64 s.row) rfl; have y4 := HB1.out.cell 4 (v := .int .i64 s.col) rfl; have y5 := HB1.out.cell 5 (v := .bool s.wrap) rfl); (have z3 := HB1.out.free 3; have z4 := HB1.out.free 4; have z5 := HB1.out.free 5); go_wp2_with fail
   refine hK.out _ _ ?_ (fun hHeld => ?_)
   ·(try dsimp only); (first | (exact HYs.out _ _ _ _ BWX) | (refine HY.out _ ?_; exact BWX))
   clear hK K
   (try simp only [Act.put, zP1, zP2, zP3, zP4, zP5, zP6])
   refine tkQ 26 ?_
   refine tkQ 27 ?_
   refine tkQ 28 ?_
   (try simp only [Act.put, zP1, zP2, zP3, zP4, zP5, zP6])
   refine wpAnyH_ready (rs := [29]) (by kernel_rfl) (by simp) ?_
   refine AllReadyH.cons rfl (fun K hK => ?_) ?_
   ·go_simp
    refine hK.out _ _ ?_ (fun hHeld => ?_)
    ·(try dsimp only); (first | (exact HYs.out _ _ _ _ BWX) | (refine HY.out _ ?_; exact BWX))
    clear hK K
    (try simp only [Act.put, zP1, zP2, zP3, zP4, zP5, zP6])
    refine wpAnyH_done (by kernel_rfl) ?_ _
    go_wp2_with fail
    go_end0
    exact ⟨rfl, ((HB1.out.set 3 _ rfl).set 4 _ rfl).set 5 _ rfl, grown_set (grown_set (grown_set (grown_bw hb1 _) 3 _) 4 _) 5 _⟩
   exact AllReadyH.nil
  exact AllReadyH.nil
 exact AllReadyH.nil
end Go.Proofs.YtkflooljdopldaaGreat

/- The program's grids: cells cloned, rows. -/
namespace Go.Proofs.YtkflooljdopldaaGreat
open Go.RowKit

set_option maxRecDepth 100000 in
set_option maxHeartbeats 2000000 in
theorem gclone_any (A : Option Addr) (n c : Nat) (cs : List C4) (w : World) (hr : Rg w A n cs) (hn : n ≤ c) (hn3 : n ≤ 4398046511103) (hc : c ≤ 9223372036854775807) :
  Calls Tryz.prog 30 #[.slice A n c] w fun e w' => ∃ v, e = .returned v ∧ w'.ownsRow w.heap.size 53 4 v n (flat cs) ∧ Bw w w' := by
 obtain ⟨j0, hj, hj0, hj1, hj2⟩ := info_parts infoC
 have q22 : ∀ (w : World) (a : Option Addr) (n c n' c' : Nat), (binOp .eql 24 (.slice a n c) (.slice none n' c')).run Tryz.prog w = .ok (.bool a.isNone) w := fun w a n c n' c' => Lib.run_eql_slice_nil w _ _ a n c n' c' Tryz.underlying24
 have HR := Lib.hid hr
 clear hr
 cases A with
 | none =>
  have hn0 := HR.out.none_ rfl
  have hcs : cs = [] := List.eq_nil_of_length_eq_zero (by rw [HR.out.1]; exact hn0)
  subst hcs
  subst hn0
  go_enter Tryz.func30, Tryz.ntmps30
  go_wp2_with fail
  go_ret
  exact ⟨_, rfl, World.ownsRow_nil _ _ _ _, BWX⟩
 | some ad =>
  go_enter Tryz.func30, Tryz.ntmps30
  go_wp2_with (at_builtin; refine wpList_append_srcG (by rfl) (.tmp 5) (.tmp 6) 24 rfl w.heap.size 53 j0 (.agg #[.int .i64 0, .int .i64 0, .int .i64 0, .int .i64 0]) 4 32 Tryz.underlying24 hj hj0 hj1 hj2 rfl (by decide) (.slice (some ⟨w.heap.size, 0, none⟩) 0 0) 0 [] (by rfl) (own_made rfl (Nat.le_refl _)) (some ad) n c (flat cs) (by rfl) (by rw [flat_len, HR.out.1]) (fun e => by cases e) (fun ad' e => by cases e; exact (HR.out.up BWX).news) (flat_one _) (by unfold maxLen; omega) (by omega) SZX ?_; intro v1 w1 hown1 hg1; simp only [Nat.zero_add, List.nil_append] at hown1; have hbw1 : Bw w w1 := Bw.row (show Bw w (w.alloc (.cells #[] 53)) from BWX) (own_made (size := 4) rfl (Nat.le_refl _)) hg1 (by omega); have HO1 := Lib.hid hown1; have HB1 := Lib.hid hbw1; clear hown1 hg1 hbw1)
  go_ret
  exact ⟨_, rfl, HO1.out, HB1.out⟩

set_option maxRecDepth 100000 in
set_option maxHeartbeats 2000000 in
theorem grow_any (R C : Int) (A : Option Addr) (n c : Nat) (cs : List C4) (row : Int) (w : World) (hr : Rg w A n cs) (hn : n ≤ c) (hn3 : n ≤ 4398046511103) (hc : c ≤ 9223372036854775807) :
  Calls Tryz.prog 68 #[.agg #[.int .i64 R, .int .i64 C, .slice A n c], .int .i64 row] w (RwP w (rowF R C cs row)) := by
 have HR := Lib.hid hr
 clear hr
 obtain ⟨q, hq⟩ : ∃ q, (n : Int) / C = q := ⟨_, rfl⟩
 have hz : row < 0 ∨ (0 ≤ row ∧ R ≤ row) ∨ ((0 ≤ row ∧ row < R) ∧ C < 1) ∨ ((0 ≤ row ∧ row < R) ∧ 1 ≤ C ∧ q ≤ row) ∨ ((0 ≤ row ∧ row < R) ∧ 1 ≤ C ∧ row < q) := by omega
 have hqb : 1 ≤ C → 0 ≤ q ∧ q ≤ n := fun h => by rw [← hq]; exact ⟨Int.ediv_nonneg (by omega) (by omega), Int.ediv_le_self _ (by omega)⟩
 rcases hz with h | ⟨h1, h2⟩ | ⟨⟨h1, h2⟩, h3⟩ | ⟨⟨h1, h2⟩, h3, h4⟩ | ⟨⟨h1, h2⟩, h3, h4⟩
 iterate 4
  ·have HE := Lib.hid (show rowF R C cs row = [] from if_neg (by rw [HR.out.1, hq]; omega))
   (try have hqq := hqb h3; obtain ⟨hq0, hq1⟩ := hqq)
   clear hqb
   go_enter Tryz.func68, Tryz.ntmps68
   go_wp2_with fail
   go_ret
   exact ⟨none, 0, 0, rfl, by rw [HE.out]; exact Rg.nil_ _ _, by omega, by omega, (fun ad e => by cases e), BWX⟩
 obtain ⟨hq0, hq1⟩ := hqb h3
 clear hqb
 obtain ⟨Cn, rfl⟩ : ∃ Cn : Nat, C = Cn := ⟨C.toNat, by omega⟩
 have hm : (row + 1) * (Cn : Int) ≤ n := (Int.le_ediv_iff_mul_le (by omega)).1 (by rw [hq]; omega)
 obtain ⟨p, hp⟩ : ∃ p : Nat, row * (Cn : Int) = p := ⟨(row * (Cn : Int)).toNat, by have := Int.mul_nonneg h1 (show (0 : Int) ≤ Cn by omega); omega⟩
 have hp2 : (row + 1) * (Cn : Int) = ((p + Cn : Nat) : Int) := by rw [Int.add_mul, hp]; omega
 have hpn : p + Cn ≤ n := by rw [hp2] at hm; omega
 have HE := Lib.hid (show rowF R (Cn : Int) cs row = (cs.drop p).take Cn by unfold rowF; rw [if_pos (by rw [HR.out.1, hq]; omega), hp]; rfl)
 obtain ⟨j0, hj, hj0, hj1, hj2⟩ := info_parts infoC
 obtain ⟨g, o, rfl, hx⟩ := HR.out.2 (by omega)
 have HS := Lib.hid (HR.out.sub p Cn hpn)
 have hC1 : 1 ≤ Cn := by omega
 have hpc : p < c := by omega
 have hb1 : (0 : Int) ≤ (p : Int) := by omega
 have hb2 : ((p : Nat) : Int) ≤ ((p + Cn : Nat) : Int) := by omega
 have hb3 : ((p + Cn : Nat) : Int) ≤ (c : Int) := by omega
 obtain ⟨p2, hpp⟩ : ∃ p2, p2 = p + Cn := ⟨_, rfl⟩
 rw [← hpp] at hp2 hb2 hb3
 have hpn2 : p2 ≤ n := by omega
 have hpl : p < p2 := by omega
 have hpd : p2 - p = Cn := by omega
 have HPD := Lib.hid hpd
 clear hx hm hpp hpd
 go_enter Tryz.func68, Tryz.ntmps68
 go_wp2_with (first | (go_at_call 30; refine (gclone_any (some ⟨g, o + p * 4, none⟩) (p2 - p) (c - p) ((cs.drop p).take Cn) _ (by rw [HPD.out]; exact HS.out.up BWX) (by omega) (by omega) (by omega)).mono ?_; rintro ee w1 ⟨v1, rfl, hown1, hb1⟩; have HO1 := Lib.hid hown1; have HB1 := Lib.hid hb1; clear hown1 hb1) | fail)
 go_ret
 have h9 := HO1.out
 rw [HPD.out] at h9
 obtain ⟨A1, c1, rfl, hc1, hc1m⟩ := own_form h9
 exact ⟨A1, Cn, c1, rfl, by rw [HE.out]; exact Rg.of_own h9, hc1, hc1m, (fun ad e => by have := own_new h9 ad e; have h8 := (show Bw w _ from BWX).size; first | omega | (simp at this; omega)), Bw.trans (show Bw w _ from BWX) HB1.out⟩
end Go.Proofs.YtkflooljdopldaaGreat
