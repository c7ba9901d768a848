/- Parts of the proof, one after the other. -/
import Derived.Test.YtkflooljdopldaaGreatS28
import Derived.Test.YtkflooljdopldaaGreatS10
import Derived.Test.YtkflooljdopldaaGreatS17
import Derived.Deep.RegionHeld3
import Derived.Laws.CopyRow
set_option linter.unusedSimpArgs false
set_option linter.unusedVariables false
/- The program's grids: change with Fill's closure; Fill. -/
namespace Go.Proofs.YtkflooljdopldaaGreat
open Go.RowKit

theorem Ce.far {w w' : World} {g o : Nat} {c : C4} {row : Option Nat} (h : Ce w g o c) (hg : w.grownBy w' row) (hne : some g ≠ row) : Ce w' g o c := ⟨cell_far h.1 hg hne, cell_far h.2.1 hg hne, cell_far h.2.2.1 hg hne, cell_far h.2.2.2 hg hne⟩
theorem Rg.far {w w' : World} {A : Option Addr} {n : Nat} {cs : List C4} {row : Option Nat} (h : Rg w A n cs) (hg : w.grownBy w' row) (hne : ∀ ad, A = some ad → some ad.block ≠ row) : Rg w' A n cs := by
 refine ⟨h.1, fun h0 => ?_⟩
 obtain ⟨g, o, e, hx⟩ := h.2 h0
 exact ⟨g, o, e, fun i hi => (hx i hi).far hg (by have := hne ⟨g, o, none⟩ e; exact this)⟩
/-- A grid's cells. -/
def grV (R C : Int) (A : Option Addr) (n c : Nat) : Array Value := #[.int .i64 R, .int .i64 C, .slice A n c]
theorem infoGr : (Tryz.prog.info? 26).map (·.size) = some 3 := by kernel_rfl
theorem grV_one (R C : Int) (A : Option Addr) (n c : Nat) : (grV R C A n c).all (·.oneCell') = true := all_oneCell_toArray (fun v hv => by
 simp only [List.mem_cons, List.not_mem_nil, or_false] at hv
 rcases hv with rfl | rfl | rfl <;> rfl)
theorem wpList_store_gr {ops : Array Oper} {rest : List Oper} {o : Oper} {a : Act} {w : World} {Q : Exit → Act → World → Prop} (R C : Int) (A : Option Addr) (n c : Nat) (g : Nat) (x y : Operand) (ho : o.op = .store 26 x y) (hgd : o.guard = none)
  (hx : a.eval x = .pointer (some ⟨g, 0, none⟩)) (hy : a.eval y = .agg (grV R C A n c)) (hg : ∃ old, Sb w g old 26 ∧ old.size = 3)
  (h : ∀ w', Sb w' g (grV R C A n c) 26 → w.grownBy w' (some g) → wpList Tryz.prog ops Q rest (a.put o.dst undef) w') : wpList Tryz.prog ops Q (o :: rest) a w :=
 wpList_store_cs 26 (grV R C A n c) g x y infoGr (grV_one R C A n c) ho hgd hx hy hg h
theorem results_gr {fn : Func} {p : Tmp} (h : fn.results = #[.cell p 26]) (tmps : Array Value) (w : World) (g : Nat) (R C : Int) (A : Option Addr) (n c : Nat) (hp : tmps.getD p undef = .pointer (some ⟨g, 0, none⟩)) (hg : Sb w g (grV R C A n c) 26) :
  (results fn tmps).run Tryz.prog w = .ok (.agg #[.int .i64 R, .int .i64 C, .slice A n c]) w := results_cell_row h tmps w g 26 (grV R C A n c) (0, 0) _ hp hg Tryz.underlying26 rfl infoGr

set_option maxRecDepth 100000 in
set_option maxHeartbeats 8000000 in
theorem gchangefill_ok (R C : Int) (A : Option Addr) (n c : Nat) (cs : List C4) (row fr tt d1 d2 d3 d4 : Int) (br bg bf bt bc : Nat) (w : World) (hr : Rg w A n cs) (hn : n ≤ c) (hn3 : n ≤ 4398046511103) (hc : c ≤ 9223372036854775807) (y0 : w.cell? ⟨br, 0, none⟩ = some (.int .i64 row)) (y1 : w.cell? ⟨bg, 0, none⟩ = some (.int .i64 R)) (y2 : w.cell? ⟨bg, 1, none⟩ = some (.int .i64 C)) (y3 : w.cell? ⟨bf, 0, none⟩ = some (.int .i64 fr)) (y4 : w.cell? ⟨bt, 0, none⟩ = some (.int .i64 tt)) (y5 : w.cell? ⟨bc, 0, none⟩ = some (.int .i64 d1)) (y6 : w.cell? ⟨bc, 1, none⟩ = some (.int .i64 d2)) (y7 : w.cell? ⟨bc, 2, none⟩ = some (.int .i64 d3)) (y8 : w.cell? ⟨bc, 3, none⟩ = some (.int .i64 d4)) :
  Calls Tryz.prog 69 #[.agg #[.int .i64 R, .int .i64 C, .slice A n c], .agg #[.int .i64 d1, .int .i64 d2, .int .i64 d3, .int .i64 d4], .func (.func 93) #[] #[.pointer (some ⟨br, 0, none⟩), .pointer (some ⟨bg, 0, none⟩), .pointer (some ⟨bf, 0, none⟩), .pointer (some ⟨bt, 0, none⟩), .pointer (some ⟨bc, 0, none⟩)]] w (GrN w R C (fillG R C cs row fr tt (d1, d2, d3, d4))) := by
 have HR := Lib.hid hr
 have HY := Lib.hid (And.intro y0 (And.intro y1 (And.intro y2 (And.intro y3 (And.intro y4 (And.intro y5 (And.intro y6 (And.intro y7 y8))))))))
 clear hr y0 y1 y2 y3 y4 y5 y6 y7 y8
 cases hv : gridB R C cs
 ·have HV := Lib.hid hv
  have HE := Lib.hid (show fillG R C cs row fr tt (d1, d2, d3, d4) = cs from if_neg (by rw [hv]; simp))
  clear hv
  go_enter Tryz.func69, Tryz.ntmps69
  go_upto_region 1 with (fail)
  generalize hw1 : ((w.alloc (.cells #[.int .i64 R, .int .i64 C, .slice A n c] 26)).alloc _).alloc _ = w1
  obtain ⟨hb0, hb1, hb2, hbw, hz⟩ := sb3 hw1
  have HB0 := Lib.hid hb0
  have HB1 := Lib.hid (show Sb w1 (w.heap.size + 1) #[.int .i64 d1, .int .i64 d2, .int .i64 d3, .int .i64 d4] 53 from hb1)
  have HB2 := Lib.hid (show ∃ old, Sb w1 (w.heap.size + 2) old 26 ∧ old.size = 3 from ⟨_, hb2, rfl⟩)
  have hz1 : w.heap.size + 2 < w1.heap.size := by omega
  clear hw1 hb0 hb1 hb2 hz
  have x0 := HB0.out.cell 0 (v := .int .i64 R) rfl
  have x1 := HB0.out.cell 1 (v := .int .i64 C) rfl
  have x2 := HB0.out.cell 2 (v := .slice A n c) rfl
  go_upto_region 3 with (first
   | (go_at_call 31; refine (ggvalid_any R C A n c cs _ (by exact HR.out.up BWX) hn hc).mono ?_; rintro ee wv ⟨rfl, hbv⟩; rw [HV.out]; clear x0 x1 x2; have x2 := (HB0.out.up hbv).cell 2 (v := .slice A n c) rfl; have f2 := (HB0.out.up hbv).free 2; have c0 := (HB1.out.up hbv).cell 0 (v := .int .i64 d1) rfl; have c1 := (HB1.out.up hbv).cell 1 (v := .int .i64 d2) rfl; have c2 := (HB1.out.up hbv).cell 2 (v := .int .i64 d3) rfl; have c3 := (HB1.out.up hbv).cell 3 (v := .int .i64 d4) rfl; have hb1k := hbv; have hzv := hbv.size)
   | (go_at_call 67; refine (gcell_any d1 d2 d3 d4 _).mono ?_; rintro ee wu ⟨rfl, hbu⟩; rw [HCV.out]; clear x2 f2 c0 c1 c2 c3; have hb1k := Bw.trans hbv hbu; have hzu := hbu.size; have x2 := (HB0.out.up hb1k).cell 2 (v := .slice A n c) rfl; have f2 := (HB0.out.up hb1k).free 2)
   | (go_at_call 30; refine (gclone_any A n c cs _ (by exact HR.out.up BWX) hn hn3 hc).mono ?_; rintro ee wk ⟨vk, rfl, hown, hbk⟩; have hzk := hbk.size; have hb1q := Bw.trans hb1k hbk; clear x2 f2; have x2 := (HB0.out.up hb1q).cell 2 (v := .slice A n c) rfl; have f2 := (HB0.out.up hb1q).free 2; obtain ⟨Ak, ck, rfl, hkc, hkm⟩ := own_form hown; have HOWN := Lib.hid (own_mono hown (show w.heap.size + 3 ≤ _ by omega)); clear hown)
   | fail)
  have hbq := hb1q
  have HB0k := Lib.hid (HB0.out.up hbq)
  have HB2k := Lib.hid (Exists.elim HB2.out (fun old h => (⟨old, h.1.up hbq, h.2⟩ : ∃ old, Sb wk (w.heap.size + 2) old 26 ∧ old.size = 3)))
  have hbwk : Bw w wk := Bw.trans hbw hbq
  have hzk3 : w.heap.size + 2 < wk.heap.size := by have := hbq.size; omega
  clear x2 f2
  generalize hw3 : World.setCell wk ⟨w.heap.size, 2, none⟩ (.slice Ak n ck) = w3
  have HS3 := Lib.hid (show Sb w3 w.heap.size (grV R C Ak n ck) 26 from by rw [← hw3]; exact HB0k.out.set 2 _ rfl)
  have hg3 : wk.grownBy w3 (some w.heap.size) := by rw [← hw3]; exact grown_set (grown_refl wk _) _ _
  have HO3 := Lib.hid (show w3.ownsRow (w.heap.size + 3) 53 4 (.slice Ak n ck) n (flat cs) from by rw [← hw3]; exact own_set_below HOWN.out (by omega) _)
  have HB23 := Lib.hid (Exists.elim HB2k.out (fun old h => (⟨old, h.1.far hg3 (by intro e; have := Option.some.inj e; omega), h.2⟩ : ∃ old, Sb w3 (w.heap.size + 2) old 26 ∧ old.size = 3)))
  have hbw3 : Bw w w3 := Bw.grown hbwk hg3 (fun k hk => by cases hk; omega)
  have hz3 : w.heap.size + 2 < w3.heap.size := by have := hg3.size; omega
  have HG3k := Lib.hid hg3
  clear hw3 hg3 HOWN HB0k HB2k hb1q hbq
  have z0 := HS3.out.cell 0 (v := .int .i64 R) rfl
  have z1 := HS3.out.cell 1 (v := .int .i64 C) rfl
  have z2 := HS3.out.cell 2 (v := .slice Ak n ck) rfl
  go_wp2_with (first
   | ((with_reducible refine wpList_store_gr R C Ak n ck (w.heap.size + 2) (.tmp 6) (.tmp 23) rfl rfl ?_ ?_ ?_ ?_); (focus rfl); (focus rfl); (focus (exact HB23.out)); intro w4 hS4 hg4; have HS4 := Lib.hid hS4; have HG4 := Lib.hid hg4; clear hS4 hg4)
   | fail)
  refine bodyPost_ret (results_gr rfl _ _ (w.heap.size + 2) R C Ak n ck (by rfl) HS4.out) rfl ?_
  have hO4 := HO3.out.kept HG4.out (.inr (fun e => by have := (HO3.out.lt _ e).1; omega))
  exact ⟨Ak, n, ck, rfl, by rw [HE.out]; exact Rg.of_own hO4, hkc, hkm, (fun ad e => by have := own_new hO4 ad e; omega), Bw.grown hbw3 HG4.out (fun k hk => by cases hk; omega)⟩
 ·cases hcv : cellB (d1, d2, d3, d4)
  ·have HV := Lib.hid hv
   have HCV := Lib.hid hcv
   have HE := Lib.hid (show fillG R C cs row fr tt (d1, d2, d3, d4) = cs from if_neg (by rw [hcv]; simp))
   clear hv hcv
   go_enter Tryz.func69, Tryz.ntmps69
   go_upto_region 1 with (fail)
   generalize hw1 : ((w.alloc (.cells #[.int .i64 R, .int .i64 C, .slice A n c] 26)).alloc _).alloc _ = w1
   obtain ⟨hb0, hb1, hb2, hbw, hz⟩ := sb3 hw1
   have HB0 := Lib.hid hb0
   have HB1 := Lib.hid (show Sb w1 (w.heap.size + 1) #[.int .i64 d1, .int .i64 d2, .int .i64 d3, .int .i64 d4] 53 from hb1)
   have HB2 := Lib.hid (show ∃ old, Sb w1 (w.heap.size + 2) old 26 ∧ old.size = 3 from ⟨_, hb2, rfl⟩)
   have hz1 : w.heap.size + 2 < w1.heap.size := by omega
   clear hw1 hb0 hb1 hb2 hz
   have x0 := HB0.out.cell 0 (v := .int .i64 R) rfl
   have x1 := HB0.out.cell 1 (v := .int .i64 C) rfl
   have x2 := HB0.out.cell 2 (v := .slice A n c) rfl
   go_upto_region 3 with (first
    | (go_at_call 31; refine (ggvalid_any R C A n c cs _ (by exact HR.out.up BWX) hn hc).mono ?_; rintro ee wv ⟨rfl, hbv⟩; rw [HV.out]; clear x0 x1 x2; have x2 := (HB0.out.up hbv).cell 2 (v := .slice A n c) rfl; have f2 := (HB0.out.up hbv).free 2; have c0 := (HB1.out.up hbv).cell 0 (v := .int .i64 d1) rfl; have c1 := (HB1.out.up hbv).cell 1 (v := .int .i64 d2) rfl; have c2 := (HB1.out.up hbv).cell 2 (v := .int .i64 d3) rfl; have c3 := (HB1.out.up hbv).cell 3 (v := .int .i64 d4) rfl; have hb1k := hbv; have hzv := hbv.size)
    | (go_at_call 67; refine (gcell_any d1 d2 d3 d4 _).mono ?_; rintro ee wu ⟨rfl, hbu⟩; rw [HCV.out]; clear x2 f2 c0 c1 c2 c3; have hb1k := Bw.trans hbv hbu; have hzu := hbu.size; have x2 := (HB0.out.up hb1k).cell 2 (v := .slice A n c) rfl; have f2 := (HB0.out.up hb1k).free 2)
    | (go_at_call 30; refine (gclone_any A n c cs _ (by exact HR.out.up BWX) hn hn3 hc).mono ?_; rintro ee wk ⟨vk, rfl, hown, hbk⟩; have hzk := hbk.size; have hb1q := Bw.trans hb1k hbk; clear x2 f2; have x2 := (HB0.out.up hb1q).cell 2 (v := .slice A n c) rfl; have f2 := (HB0.out.up hb1q).free 2; obtain ⟨Ak, ck, rfl, hkc, hkm⟩ := own_form hown; have HOWN := Lib.hid (own_mono hown (show w.heap.size + 3 ≤ _ by omega)); clear hown)
    | fail)
   have hbq := hb1q
   have HB0k := Lib.hid (HB0.out.up hbq)
   have HB2k := Lib.hid (Exists.elim HB2.out (fun old h => (⟨old, h.1.up hbq, h.2⟩ : ∃ old, Sb wk (w.heap.size + 2) old 26 ∧ old.size = 3)))
   have hbwk : Bw w wk := Bw.trans hbw hbq
   have hzk3 : w.heap.size + 2 < wk.heap.size := by have := hbq.size; omega
   clear x2 f2
   generalize hw3 : World.setCell wk ⟨w.heap.size, 2, none⟩ (.slice Ak n ck) = w3
   have HS3 := Lib.hid (show Sb w3 w.heap.size (grV R C Ak n ck) 26 from by rw [← hw3]; exact HB0k.out.set 2 _ rfl)
   have hg3 : wk.grownBy w3 (some w.heap.size) := by rw [← hw3]; exact grown_set (grown_refl wk _) _ _
   have HO3 := Lib.hid (show w3.ownsRow (w.heap.size + 3) 53 4 (.slice Ak n ck) n (flat cs) from by rw [← hw3]; exact own_set_below HOWN.out (by omega) _)
   have HB23 := Lib.hid (Exists.elim HB2k.out (fun old h => (⟨old, h.1.far hg3 (by intro e; have := Option.some.inj e; omega), h.2⟩ : ∃ old, Sb w3 (w.heap.size + 2) old 26 ∧ old.size = 3)))
   have hbw3 : Bw w w3 := Bw.grown hbwk hg3 (fun k hk => by cases hk; omega)
   have hz3 : w.heap.size + 2 < w3.heap.size := by have := hg3.size; omega
   have HG3k := Lib.hid hg3
   clear hw3 hg3 HOWN HB0k HB2k hb1q hbq
   have z0 := HS3.out.cell 0 (v := .int .i64 R) rfl
   have z1 := HS3.out.cell 1 (v := .int .i64 C) rfl
   have z2 := HS3.out.cell 2 (v := .slice Ak n ck) rfl
   go_wp2_with (first
    | ((with_reducible refine wpList_store_gr R C Ak n ck (w.heap.size + 2) (.tmp 6) (.tmp 23) rfl rfl ?_ ?_ ?_ ?_); (focus rfl); (focus rfl); (focus (exact HB23.out)); intro w4 hS4 hg4; have HS4 := Lib.hid hS4; have HG4 := Lib.hid hg4; clear hS4 hg4)
    | fail)
   refine bodyPost_ret (results_gr rfl _ _ (w.heap.size + 2) R C Ak n ck (by rfl) HS4.out) rfl ?_
   have hO4 := HO3.out.kept HG4.out (.inr (fun e => by have := (HO3.out.lt _ e).1; omega))
   exact ⟨Ak, n, ck, rfl, by rw [HE.out]; exact Rg.of_own hO4, hkc, hkm, (fun ad e => by have := own_new hO4 ad e; omega), Bw.grown hbw3 HG4.out (fun k hk => by cases hk; omega)⟩
  ·have HE := Lib.hid (show fillG R C cs row fr tt (d1, d2, d3, d4) = _ from if_pos ⟨hv, hcv⟩)
   obtain ⟨Rn, Cn, rfl, rfl, h1, h2, h3, h4, hl, -⟩ := gridB_out hv
   simp only [Int.toNat_natCast] at HE
   have HV := Lib.hid hv
   have HCV := Lib.hid hcv
   have HR1 := Lib.hid h1
   have HR2 := Lib.hid h2
   have HC1 := Lib.hid h3
   have HC2 := Lib.hid h4
   have HLN := Lib.hid hl
   clear hv hcv hl
   go_enter Tryz.func69, Tryz.ntmps69
   go_upto_region 1 with (fail)
   generalize hw1 : ((w.alloc (.cells #[.int .i64 (Rn : Int), .int .i64 (Cn : Int), .slice A n c] 26)).alloc _).alloc _ = w1
   obtain ⟨hb0, hb1, hb2, hbw, hz⟩ := sb3 hw1
   have HB0 := Lib.hid hb0
   have HB1 := Lib.hid (show Sb w1 (w.heap.size + 1) #[.int .i64 d1, .int .i64 d2, .int .i64 d3, .int .i64 d4] 53 from hb1)
   have HB2 := Lib.hid (show ∃ old, Sb w1 (w.heap.size + 2) old 26 ∧ old.size = 3 from ⟨_, hb2, rfl⟩)
   have hz1 : w.heap.size + 2 < w1.heap.size := by omega
   clear hw1 hb0 hb1 hb2 hz
   have x0 := HB0.out.cell 0 (v := .int .i64 (Rn : Int)) rfl
   have x1 := HB0.out.cell 1 (v := .int .i64 (Cn : Int)) rfl
   have x2 := HB0.out.cell 2 (v := .slice A n c) rfl
   go_upto_region 3 with (first
    | (go_at_call 31; refine (ggvalid_any (Rn : Int) (Cn : Int) A n c cs _ (by exact HR.out.up BWX) hn hc).mono ?_; rintro ee wv ⟨rfl, hbv⟩; rw [HV.out]; clear x0 x1 x2; have x2 := (HB0.out.up hbv).cell 2 (v := .slice A n c) rfl; have f2 := (HB0.out.up hbv).free 2; have c0 := (HB1.out.up hbv).cell 0 (v := .int .i64 d1) rfl; have c1 := (HB1.out.up hbv).cell 1 (v := .int .i64 d2) rfl; have c2 := (HB1.out.up hbv).cell 2 (v := .int .i64 d3) rfl; have c3 := (HB1.out.up hbv).cell 3 (v := .int .i64 d4) rfl; have hb1k := hbv; have hzv := hbv.size)
    | (go_at_call 67; refine (gcell_any d1 d2 d3 d4 _).mono ?_; rintro ee wu ⟨rfl, hbu⟩; rw [HCV.out]; clear x2 f2 c0 c1 c2 c3; have hb1k := Bw.trans hbv hbu; have hzu := hbu.size; have x2 := (HB0.out.up hb1k).cell 2 (v := .slice A n c) rfl; have f2 := (HB0.out.up hb1k).free 2)
    | (go_at_call 30; refine (gclone_any A n c cs _ (by exact HR.out.up BWX) hn hn3 hc).mono ?_; rintro ee wk ⟨vk, rfl, hown, hbk⟩; have hzk := hbk.size; have hb1q := Bw.trans hb1k hbk; clear x2 f2; have x2 := (HB0.out.up hb1q).cell 2 (v := .slice A n c) rfl; have f2 := (HB0.out.up hb1q).free 2; obtain ⟨Ak, ck, rfl, hkc, hkm⟩ := own_form hown; have HOWN := Lib.hid (own_mono hown (show w.heap.size + 3 ≤ _ by omega)); clear hown)
    | fail)
   have hbq := hb1q
   have HB0k := Lib.hid (HB0.out.up hbq)
   have HB2k := Lib.hid (Exists.elim HB2.out (fun old h => (⟨old, h.1.up hbq, h.2⟩ : ∃ old, Sb wk (w.heap.size + 2) old 26 ∧ old.size = 3)))
   have hbwk : Bw w wk := Bw.trans hbw hbq
   have hzk3 : w.heap.size + 2 < wk.heap.size := by have := hbq.size; omega
   clear x2 f2
   generalize hw3 : World.setCell wk ⟨w.heap.size, 2, none⟩ (.slice Ak n ck) = w3
   have HS3 := Lib.hid (show Sb w3 w.heap.size (grV (Rn : Int) (Cn : Int) Ak n ck) 26 from by rw [← hw3]; exact HB0k.out.set 2 _ rfl)
   have hg3 : wk.grownBy w3 (some w.heap.size) := by rw [← hw3]; exact grown_set (grown_refl wk _) _ _
   have HO3 := Lib.hid (show w3.ownsRow (w.heap.size + 3) 53 4 (.slice Ak n ck) n (flat cs) from by rw [← hw3]; exact own_set_below HOWN.out (by omega) _)
   have HB23 := Lib.hid (Exists.elim HB2k.out (fun old h => (⟨old, h.1.far hg3 (by intro e; have := Option.some.inj e; omega), h.2⟩ : ∃ old, Sb w3 (w.heap.size + 2) old 26 ∧ old.size = 3)))
   have hbw3 : Bw w w3 := Bw.grown hbwk hg3 (fun k hk => by cases hk; omega)
   have hz3 : w.heap.size + 2 < w3.heap.size := by have := hg3.size; omega
   have HG3k := Lib.hid hg3
   clear hw3 hg3 HOWN HB0k HB2k hb1q hbq
   have hlen : n = Rn * Cn := HR.out.1.symm.trans HLN.out
   have hpos : 0 < n := by rw [hlen]; exact Nat.mul_pos (by omega) (by omega)
   obtain ⟨gp, sp, rfl, hgp, hWc⟩ := Wc.of_own HO3.out hpos
   have HW := Lib.hid hWc
   obtain ⟨a0, a1, a2, a3, a4, a5, a6, a7, a8⟩ := HY.out
   have l0 := lt_of_cell a0
   have l1 := lt_of_cell a1
   have l3 := lt_of_cell a3
   have l4 := lt_of_cell a4
   have l5 := lt_of_cell a5
   dsimp only at l0 l1 l3 l4 l5
   clear a0 a1 a2 a3 a4 a5 a6 a7 a8 hWc
   have HLE := Lib.hid hlen
   clear hlen
   have z2 := HS3.out.cell 2 (v := .slice (some ⟨gp, 0, none⟩) n ck) rfl
   go_upto_region 5 with (first
    | (go_at_call 93; rw [HLE.out]; refine (gfill1_go Rn Cn cs sp gp ck br bg bf bt bc row fr tt d1 d2 d3 d4 (.slice none 0 0) w3 HR1.out HR2.out HC1.out HC2.out HLN.out HW.out (by rw [← HLE.out]; exact hkc) hkm (cell_up HY.out.1 hbw3) (cell_up HY.out.2.1 hbw3) (cell_up HY.out.2.2.1 hbw3) (cell_up HY.out.2.2.2.1 hbw3) (cell_up HY.out.2.2.2.2.1 hbw3) (cell_up HY.out.2.2.2.2.2.1 hbw3) (cell_up HY.out.2.2.2.2.2.2.1 hbw3) (cell_up HY.out.2.2.2.2.2.2.2.1 hbw3) (cell_up HY.out.2.2.2.2.2.2.2.2 hbw3) ⟨by omega, by omega, by omega, by omega, by omega⟩).mono ?_; rintro ee w5 ⟨⟨rv, rfl⟩, hW5, hg5⟩; have HW5 := Lib.hid hW5; have HG5 := Lib.hid hg5; clear hW5 hg5)
    | fail)
   have hg5 := HG5.out
   have hgb : ∀ k, k < w.heap.size + 3 → some k ≠ some gp := fun k hk e => by have := Option.some.inj e; omega
   have HS5 := Lib.hid (HS3.out.far hg5 (hgb _ (by omega)))
   have HB25 := Lib.hid (Exists.elim HB23.out (fun old h => (⟨old, h.1.far hg5 (hgb _ (by omega)), h.2⟩ : ∃ old, Sb w5 (w.heap.size + 2) old 26 ∧ old.size = 3)))
   have hbw5 : Bw w w5 := Bw.grown hbw3 hg5 (fun k hk => by cases hk; omega)
   clear z2
   have z0 := HS5.out.cell 0 (v := .int .i64 (Rn : Int)) rfl
   have z1 := HS5.out.cell 1 (v := .int .i64 (Cn : Int)) rfl
   have z2 := HS5.out.cell 2 (v := .slice (some ⟨gp, 0, none⟩) n ck) rfl
   go_wp2_with (first
    | ((with_reducible refine wpList_store_gr (Rn : Int) (Cn : Int) (some ⟨gp, 0, none⟩) n ck (w.heap.size + 2) (.tmp 6) (.tmp 23) rfl rfl ?_ ?_ ?_ ?_); (focus rfl); (focus rfl); (focus (exact HB25.out)); intro w6 hS6 hg6; have HS6 := Lib.hid hS6; have HG6 := Lib.hid hg6; clear hS6 hg6)
    | fail)
   refine bodyPost_ret (results_gr rfl _ _ (w.heap.size + 2) (Rn : Int) (Cn : Int) (some ⟨gp, 0, none⟩) n ck (by rfl) HS6.out) rfl ?_
   have hW6 : Wc w6 gp _ sp := (HG6.out.block gp HW5.out.lt (by intro e; have := Option.some.inj e; omega)).trans HW5.out
   have hrg := hW6.rg
   rw [tab_len, ← HLE.out] at hrg
   exact ⟨some ⟨gp, 0, none⟩, n, ck, rfl, by rw [HE.out]; exact hrg, hkc, hkm, (fun ad e => by cases e; dsimp only; omega), Bw.grown hbw5 HG6.out (fun k hk => by cases hk; omega)⟩
end Go.Proofs.YtkflooljdopldaaGreat

/- A canvas: lose. -/
namespace Go.Proofs.YtkflooljdopldaaGreat
open Go.RowKit

theorem cvgrown_own {w w1 w2 : World} {r : Option Nat} {e : TypeId} {s n : Nat} {v : Value} {xs : List Value} (h : w.grownBy w1 r) (ho : w1.ownsRow w.heap.size e s v n xs) (hg : w1.grownBy w2 v.ownBlock) : w.grownBy w2 r :=
 ⟨hg.os.trans h.os, hg.tape.trans h.tape, hg.output.trans h.output, Nat.le_trans h.size hg.size, fun k hk hne => (hg.block k (Nat.lt_of_lt_of_le hk h.size) (fun e => by have := (ho.lt k e.symm).1; omega)).trans (h.block k hk hne)⟩

set_option maxRecDepth 100000 in
set_option maxHeartbeats 4000000 in
theorem cvlose_any (s : Scr) (fr : Bool) (cs : List C4) (nn : Int) (g : Nat) (w : World) (h : Sb w g (cvV s none 0 0 fr) 75) (hr : Rg w s.A s.n cs) (hn : s.n ≤ s.c) (hn3 : s.n ≤ 4398046511103) (hc : s.c ≤ 9223372036854775807) (hne : ∀ ad, s.A = some ad → some ad.block ≠ some g) (hn0 : 0 ≤ nn) (hn1 : nn ≤ 1000000) :
  Calls Tryz.prog 35 #[.pointer (some ⟨g, 0, none⟩), .int .i64 nn] w fun e w' => ∃ L k, CvP w g s L nn.toNat k fr e w' := by
 obtain ⟨j0, hj, hj0, hj1, hj2⟩ := info_parts infoL
 have HR := Lib.hid hr
 have HNE := Lib.hid hne
 have HS0 := Lib.hid h
 have hlt := h.lt
 clear hr hne h
 go_enter Tryz.func35, Tryz.ntmps35
 go_wp2_with fail
 go_loopw [6] (fun i wr => ∃ (q : Nat) (L : Option Addr) (k : Nat) (vs : List Value), i = .int .i64 q ∧ (q : Int) ≤ nn ∧ Sb wr g (cvV s L q k fr) 75 ∧ wr.ownsRow w.heap.size 24 1 (.slice L q k) q vs ∧ w.grownBy wr (some g)) (fun i _ => (nn - intOf i).toNat)
 case atStart => exact ⟨0, none, 0, [], rfl, hn0, HS0.out, World.ownsRow_nil _ _ _ _, grown_refl _ _⟩
 case round =>
  obtain ⟨q, L, k, vs, rfl, hq, hS, hown, hg⟩ := hrel
  have HB := Lib.hid hS
  have HO := Lib.hid hown
  have HG := Lib.hid hg
  have hzr := hg.size
  have hbo : (Value.slice L q k).ownBlock ≠ some g := fun e => by have := (hown.lt g e).1; omega
  have HBO := Lib.hid hbo
  by_cases hlt2 : (q : Int) < nn
  ·have HRr := Lib.hid (HR.out.far hg HNE.out)
   have hltr := hS.lt
   (have x0 := HB.out.cell 0 (v := .int .i64 (s.Rn : Int)) rfl; have x1 := HB.out.cell 1 (v := .int .i64 (s.Cn : Int)) rfl; have x2 := HB.out.cell 2 (v := .slice s.A s.n s.c) rfl)
   have x19 := HB.out.cell 19 (v := .slice L q k) rfl
   clear hS hown hg hbo
   go_upto_region 3 with (fail)
   have HY := Lib.hid (show ∀ w', Bw wr w' → (w'.cell? ⟨g, 0, none⟩ = some (.int .i64 (s.Rn : Int)) ∧ w'.cell? ⟨g, 1, none⟩ = some (.int .i64 (s.Cn : Int)) ∧ w'.cell? ⟨g, 2, none⟩ = some (.slice s.A s.n s.c)) from fun w' hb => ⟨(HB.out.up hb).cell 0 rfl, (HB.out.up hb).cell 1 rfl, (HB.out.up hb).cell 2 rfl⟩)
   refine wp_region_held_drew (S := (fun w' => w'.cell? ⟨g, 0, none⟩ = some (.int .i64 (s.Rn : Int)) ∧ w'.cell? ⟨g, 1, none⟩ = some (.int .i64 (s.Cn : Int)) ∧ w'.cell? ⟨g, 2, none⟩ = some (.slice s.A s.n s.c))) (by kernel_rfl) ?_ (fun hHeld => ?_)
   ·(try dsimp only); (first | (refine HY.out _ ?_; (repeat (first | with_reducible (first | assumption | exact Bw.refl _ | refine Bw.alloc ?_ _ | refine Bw.more ?_ _ _ | refine Bw.drew ?_ | refine Bw.drewN ?_ _) | ((with_reducible refine Bw.set2 ?_ ?_ _); (focus exact SZX)) | with_reducible refine Bw.trans ?_ (by assumption))); done) | exact ⟨cell_far hHeld.1 HG7.out (Ne.symm HBO.out), cell_far hHeld.2.1 HG7.out (Ne.symm HBO.out), cell_far hHeld.2.2 HG7.out (Ne.symm HBO.out)⟩ | exact ⟨cell_ne hHeld.1 (by omega), cell_ne hHeld.2.1 (by omega), cell_ne hHeld.2.2 (by omega)⟩)
   refine tkQ 0 ?_
   refine tkQ 1 ?_
   refine tkQ 2 ?_
   (try simp only [Act.put, zP1, zP2, zP3, zP4, zP5, zP6])
   refine tkQ 3 ?_
   refine tkQ 5 ?_
   refine tkQ 6 ?_
   (try simp only [Act.put, zP1, zP2, zP3, zP4, zP5, zP6])
   refine tkQ 7 ?_
   refine tkQ 8 ?_
   refine tkQ 9 ?_
   (try simp only [Act.put, zP1, zP2, zP3, zP4, zP5, zP6])
   refine tkQ 10 ?_
   (try simp only [Act.put, zP1, zP2, zP3, zP4, zP5, zP6])
   refine wpAnyH_ready (rs := [4, 11]) (by kernel_rfl) (by simp) ?_
   refine AllReadyH.cons rfl (fun K hK => ?_) ?_
   ·go_simp
    refine hK.out _ _ ?_ (fun hHeld => ?_)
    ·(try dsimp only); (first | (refine HY.out _ ?_; (repeat (first | with_reducible (first | assumption | exact Bw.refl _ | refine Bw.alloc ?_ _ | refine Bw.more ?_ _ _ | refine Bw.drew ?_ | refine Bw.drewN ?_ _) | ((with_reducible refine Bw.set2 ?_ ?_ _); (focus exact SZX)) | with_reducible refine Bw.trans ?_ (by assumption))); done) | exact ⟨cell_far hHeld.1 HG7.out (Ne.symm HBO.out), cell_far hHeld.2.1 HG7.out (Ne.symm HBO.out), cell_far hHeld.2.2 HG7.out (Ne.symm HBO.out)⟩ | exact ⟨cell_ne hHeld.1 (by omega), cell_ne hHeld.2.1 (by omega), cell_ne hHeld.2.2 (by omega)⟩)
    clear hK K
    (try simp only [Act.put, zP1, zP2, zP3, zP4, zP5, zP6])
    refine wpAnyH_ready (rs := [11]) (by kernel_rfl) (by simp) ?_
    refine AllReadyH.cons rfl (fun K hK => ?_) ?_
    ·go_simp
     refine (grow_any s.Rn s.Cn s.A s.n s.c cs q _ (HRr.out.up BWX) hn hn3 hc).mono ?_; rintro ee w2 ⟨Ar, nr, cr, rfl, -, -, -, -, hb2⟩; have hbw2 : Bw wr w2 := Bw.trans (show Bw wr _ from BWX) hb2; have HO2 := Lib.hid (HO.out.bw hbw2); have HB2 := Lib.hid (HB.out.up hbw2); have hz2 := hbw2.size; have hltw2 := HB2.out.lt; have y19 := HB2.out.cell 19 (v := .slice L q k) rfl; clear hb2; go_wp2_with fail
     refine hK.out _ _ ?_ (fun hHeld => ?_)
     ·(try dsimp only); (first | (refine HY.out _ ?_; (repeat (first | with_reducible (first | assumption | exact Bw.refl _ | refine Bw.alloc ?_ _ | refine Bw.more ?_ _ _ | refine Bw.drew ?_ | refine Bw.drewN ?_ _) | ((with_reducible refine Bw.set2 ?_ ?_ _); (focus exact SZX)) | with_reducible refine Bw.trans ?_ (by assumption))); done) | exact ⟨cell_far hHeld.1 HG7.out (Ne.symm HBO.out), cell_far hHeld.2.1 HG7.out (Ne.symm HBO.out), cell_far hHeld.2.2 HG7.out (Ne.symm HBO.out)⟩ | exact ⟨cell_ne hHeld.1 (by omega), cell_ne hHeld.2.1 (by omega), cell_ne hHeld.2.2 (by omega)⟩)
     clear hK K
     (try simp only [Act.put, zP1, zP2, zP3, zP4, zP5, zP6])
     refine wpAnyH_ready (rs := [12]) (by kernel_rfl) (by simp) ?_
     refine AllReadyH.cons rfl (fun K hK => ?_) ?_
     ·go_simp
      refine hK.out _ _ ?_ (fun hHeld => ?_)
      ·(try dsimp only); (first | (refine HY.out _ ?_; (repeat (first | with_reducible (first | assumption | exact Bw.refl _ | refine Bw.alloc ?_ _ | refine Bw.more ?_ _ _ | refine Bw.drew ?_ | refine Bw.drewN ?_ _) | ((with_reducible refine Bw.set2 ?_ ?_ _); (focus exact SZX)) | with_reducible refine Bw.trans ?_ (by assumption))); done) | exact ⟨cell_far hHeld.1 HG7.out (Ne.symm HBO.out), cell_far hHeld.2.1 HG7.out (Ne.symm HBO.out), cell_far hHeld.2.2 HG7.out (Ne.symm HBO.out)⟩ | exact ⟨cell_ne hHeld.1 (by omega), cell_ne hHeld.2.1 (by omega), cell_ne hHeld.2.2 (by omega)⟩)
      clear hK K
      (try simp only [Act.put, zP1, zP2, zP3, zP4, zP5, zP6])
      refine wpAnyH_ready (rs := [13]) (by kernel_rfl) (by simp) ?_
      refine AllReadyH.cons rfl (fun K hK => ?_) ?_
      ·refine step_append_srcG (by rfl) (.tmp 13) (.tmp 21) 40 rfl w.heap.size 24 j0 (.slice none 0 0) 1 24 Tryz.underlying40 hj hj0 hj1 hj2 rfl (by decide) (.slice L q k) q vs (by rfl) (by refine HO.out.bw ?_; (repeat (first | with_reducible (first | assumption | exact Bw.refl _ | refine Bw.alloc ?_ _ | refine Bw.more ?_ _ _ | refine Bw.drew ?_ | refine Bw.drewN ?_ _) | ((with_reducible refine Bw.set2 ?_ ?_ _); (focus exact SZX)) | with_reducible refine Bw.trans ?_ (by assumption))); done) (some ⟨_, 0, none⟩) 1 1 [.slice Ar nr cr] (by rfl) rfl (fun e => by cases e) (fun ad e => by cases e; exact cell_one_new _ _ _) (by simp; rfl) (by unfold maxLen; omega) (by omega) (by simp only [szA, szS, szD, szN]; omega) ?_; intro v7 w7 hown7 hg7; obtain ⟨A7, c7, rfl, hc7, hc7m⟩ := own_form hown7; have HO7 := Lib.hid hown7; have HG7 := Lib.hid hg7; have HB7 := Lib.hid ((HB.out.up (show Bw wr _ from BWX)).far HG7.out (Ne.symm HBO.out)); have z19 := HB7.out.free 19; have y7 := HB7.out.cell 19 (v := .slice L q k) rfl; have hgr7 : w.grownBy w7 (some g) := cvgrown_own (HG.out.trans (grown_bw (show Bw wr _ from BWX) _)) (show World.ownsRow _ w.heap.size 24 1 (.slice L q k) q vs by refine HO.out.bw ?_; (repeat (first | with_reducible (first | assumption | exact Bw.refl _ | refine Bw.alloc ?_ _ | refine Bw.more ?_ _ _ | refine Bw.drew ?_ | refine Bw.drewN ?_ _) | ((with_reducible refine Bw.set2 ?_ ?_ _); (focus exact SZX)) | with_reducible refine Bw.trans ?_ (by assumption))); done) HG7.out; clear hown7 hg7
       refine hK.out _ _ ?_ (fun hHeld => ?_)
       ·(try dsimp only); (first | (refine HY.out _ ?_; (repeat (first | with_reducible (first | assumption | exact Bw.refl _ | refine Bw.alloc ?_ _ | refine Bw.more ?_ _ _ | refine Bw.drew ?_ | refine Bw.drewN ?_ _) | ((with_reducible refine Bw.set2 ?_ ?_ _); (focus exact SZX)) | with_reducible refine Bw.trans ?_ (by assumption))); done) | exact ⟨cell_far hHeld.1 HG7.out (Ne.symm HBO.out), cell_far hHeld.2.1 HG7.out (Ne.symm HBO.out), cell_far hHeld.2.2 HG7.out (Ne.symm HBO.out)⟩ | exact ⟨cell_ne hHeld.1 (by omega), cell_ne hHeld.2.1 (by omega), cell_ne hHeld.2.2 (by omega)⟩)
       clear hK K
       (try simp only [Act.put, zP1, zP2, zP3, zP4, zP5, zP6])
       refine tkQ 14 ?_
       refine tkQ 15 ?_
       (try simp only [Act.put, zP1, zP2, zP3, zP4, zP5, zP6])
       refine wpAnyH_ready (rs := [16]) (by kernel_rfl) (by simp) ?_
       refine AllReadyH.cons rfl (fun K hK => ?_) ?_
       ·go_simp
        refine hK.out _ _ ?_ (fun hHeld => ?_)
        ·(try dsimp only); (first | (refine HY.out _ ?_; (repeat (first | with_reducible (first | assumption | exact Bw.refl _ | refine Bw.alloc ?_ _ | refine Bw.more ?_ _ _ | refine Bw.drew ?_ | refine Bw.drewN ?_ _) | ((with_reducible refine Bw.set2 ?_ ?_ _); (focus exact SZX)) | with_reducible refine Bw.trans ?_ (by assumption))); done) | exact ⟨cell_far hHeld.1 HG7.out (Ne.symm HBO.out), cell_far hHeld.2.1 HG7.out (Ne.symm HBO.out), cell_far hHeld.2.2 HG7.out (Ne.symm HBO.out)⟩ | exact ⟨cell_ne hHeld.1 (by omega), cell_ne hHeld.2.1 (by omega), cell_ne hHeld.2.2 (by omega)⟩)
        clear hK K
        (try simp only [Act.put, zP1, zP2, zP3, zP4, zP5, zP6])
        refine wpAnyH_done (by kernel_rfl) ?_ _
        go_wp2_with fail
        go_roundw
        case rel => exact ⟨q + 1, A7, c7, _, by go_num, by omega, HB7.out.set 19 _ rfl, own_set_below HO7.out (by omega) _, grown_set hgr7 19 _⟩
        case measure => simp [intOf]; omega
       exact AllReadyH.nil
      exact AllReadyH.nil
     exact AllReadyH.nil
    exact AllReadyH.nil
   refine AllReadyH.cons rfl (fun K hK => ?_) ?_
   ·go_simp
    refine (grow_any s.Rn s.Cn s.A s.n s.c cs q _ (HRr.out.up BWX) hn hn3 hc).mono ?_; rintro ee w2 ⟨Ar, nr, cr, rfl, -, -, -, -, hb2⟩; have hbw2 : Bw wr w2 := Bw.trans (show Bw wr _ from BWX) hb2; have HO2 := Lib.hid (HO.out.bw hbw2); have HB2 := Lib.hid (HB.out.up hbw2); have hz2 := hbw2.size; have hltw2 := HB2.out.lt; have y19 := HB2.out.cell 19 (v := .slice L q k) rfl; clear hb2; go_wp2_with fail
    refine hK.out _ _ ?_ (fun hHeld => ?_)
    ·(try dsimp only); (first | (refine HY.out _ ?_; (repeat (first | with_reducible (first | assumption | exact Bw.refl _ | refine Bw.alloc ?_ _ | refine Bw.more ?_ _ _ | refine Bw.drew ?_ | refine Bw.drewN ?_ _) | ((with_reducible refine Bw.set2 ?_ ?_ _); (focus exact SZX)) | with_reducible refine Bw.trans ?_ (by assumption))); done) | exact ⟨cell_far hHeld.1 HG7.out (Ne.symm HBO.out), cell_far hHeld.2.1 HG7.out (Ne.symm HBO.out), cell_far hHeld.2.2 HG7.out (Ne.symm HBO.out)⟩ | exact ⟨cell_ne hHeld.1 (by omega), cell_ne hHeld.2.1 (by omega), cell_ne hHeld.2.2 (by omega)⟩)
    clear hK K
    (try simp only [Act.put, zP1, zP2, zP3, zP4, zP5, zP6])
    refine wpAnyH_ready (rs := [4, 12]) (by kernel_rfl) (by simp) ?_
    refine AllReadyH.cons rfl (fun K hK => ?_) ?_
    ·go_simp
     refine hK.out _ _ ?_ (fun hHeld => ?_)
     ·(try dsimp only); (first | (refine HY.out _ ?_; (repeat (first | with_reducible (first | assumption | exact Bw.refl _ | refine Bw.alloc ?_ _ | refine Bw.more ?_ _ _ | refine Bw.drew ?_ | refine Bw.drewN ?_ _) | ((with_reducible refine Bw.set2 ?_ ?_ _); (focus exact SZX)) | with_reducible refine Bw.trans ?_ (by assumption))); done) | exact ⟨cell_far hHeld.1 HG7.out (Ne.symm HBO.out), cell_far hHeld.2.1 HG7.out (Ne.symm HBO.out), cell_far hHeld.2.2 HG7.out (Ne.symm HBO.out)⟩ | exact ⟨cell_ne hHeld.1 (by omega), cell_ne hHeld.2.1 (by omega), cell_ne hHeld.2.2 (by omega)⟩)
     clear hK K
     (try simp only [Act.put, zP1, zP2, zP3, zP4, zP5, zP6])
     refine wpAnyH_ready (rs := [12]) (by kernel_rfl) (by simp) ?_
     refine AllReadyH.cons rfl (fun K hK => ?_) ?_
     ·go_simp
      refine hK.out _ _ ?_ (fun hHeld => ?_)
      ·(try dsimp only); (first | (refine HY.out _ ?_; (repeat (first | with_reducible (first | assumption | exact Bw.refl _ | refine Bw.alloc ?_ _ | refine Bw.more ?_ _ _ | refine Bw.drew ?_ | refine Bw.drewN ?_ _) | ((with_reducible refine Bw.set2 ?_ ?_ _); (focus exact SZX)) | with_reducible refine Bw.trans ?_ (by assumption))); done) | exact ⟨cell_far hHeld.1 HG7.out (Ne.symm HBO.out), cell_far hHeld.2.1 HG7.out (Ne.symm HBO.out), cell_far hHeld.2.2 HG7.out (Ne.symm HBO.out)⟩ | exact ⟨cell_ne hHeld.1 (by omega), cell_ne hHeld.2.1 (by omega), cell_ne hHeld.2.2 (by omega)⟩)
      clear hK K
      (try simp only [Act.put, zP1, zP2, zP3, zP4, zP5, zP6])
      refine wpAnyH_ready (rs := [13]) (by kernel_rfl) (by simp) ?_
      refine AllReadyH.cons rfl (fun K hK => ?_) ?_
      ·refine step_append_srcG (by rfl) (.tmp 13) (.tmp 21) 40 rfl w.heap.size 24 j0 (.slice none 0 0) 1 24 Tryz.underlying40 hj hj0 hj1 hj2 rfl (by decide) (.slice L q k) q vs (by rfl) (by refine HO.out.bw ?_; (repeat (first | with_reducible (first | assumption | exact Bw.refl _ | refine Bw.alloc ?_ _ | refine Bw.more ?_ _ _ | refine Bw.drew ?_ | refine Bw.drewN ?_ _) | ((with_reducible refine Bw.set2 ?_ ?_ _); (focus exact SZX)) | with_reducible refine Bw.trans ?_ (by assumption))); done) (some ⟨_, 0, none⟩) 1 1 [.slice Ar nr cr] (by rfl) rfl (fun e => by cases e) (fun ad e => by cases e; exact cell_one_new _ _ _) (by simp; rfl) (by unfold maxLen; omega) (by omega) (by simp only [szA, szS, szD, szN]; omega) ?_; intro v7 w7 hown7 hg7; obtain ⟨A7, c7, rfl, hc7, hc7m⟩ := own_form hown7; have HO7 := Lib.hid hown7; have HG7 := Lib.hid hg7; have HB7 := Lib.hid ((HB.out.up (show Bw wr _ from BWX)).far HG7.out (Ne.symm HBO.out)); have z19 := HB7.out.free 19; have y7 := HB7.out.cell 19 (v := .slice L q k) rfl; have hgr7 : w.grownBy w7 (some g) := cvgrown_own (HG.out.trans (grown_bw (show Bw wr _ from BWX) _)) (show World.ownsRow _ w.heap.size 24 1 (.slice L q k) q vs by refine HO.out.bw ?_; (repeat (first | with_reducible (first | assumption | exact Bw.refl _ | refine Bw.alloc ?_ _ | refine Bw.more ?_ _ _ | refine Bw.drew ?_ | refine Bw.drewN ?_ _) | ((with_reducible refine Bw.set2 ?_ ?_ _); (focus exact SZX)) | with_reducible refine Bw.trans ?_ (by assumption))); done) HG7.out; clear hown7 hg7
       refine hK.out _ _ ?_ (fun hHeld => ?_)
       ·(try dsimp only); (first | (refine HY.out _ ?_; (repeat (first | with_reducible (first | assumption | exact Bw.refl _ | refine Bw.alloc ?_ _ | refine Bw.more ?_ _ _ | refine Bw.drew ?_ | refine Bw.drewN ?_ _) | ((with_reducible refine Bw.set2 ?_ ?_ _); (focus exact SZX)) | with_reducible refine Bw.trans ?_ (by assumption))); done) | exact ⟨cell_far hHeld.1 HG7.out (Ne.symm HBO.out), cell_far hHeld.2.1 HG7.out (Ne.symm HBO.out), cell_far hHeld.2.2 HG7.out (Ne.symm HBO.out)⟩ | exact ⟨cell_ne hHeld.1 (by omega), cell_ne hHeld.2.1 (by omega), cell_ne hHeld.2.2 (by omega)⟩)
       clear hK K
       (try simp only [Act.put, zP1, zP2, zP3, zP4, zP5, zP6])
       refine tkQ 14 ?_
       refine tkQ 15 ?_
       (try simp only [Act.put, zP1, zP2, zP3, zP4, zP5, zP6])
       refine wpAnyH_ready (rs := [16]) (by kernel_rfl) (by simp) ?_
       refine AllReadyH.cons rfl (fun K hK => ?_) ?_
       ·go_simp
        refine hK.out _ _ ?_ (fun hHeld => ?_)
        ·(try dsimp only); (first | (refine HY.out _ ?_; (repeat (first | with_reducible (first | assumption | exact Bw.refl _ | refine Bw.alloc ?_ _ | refine Bw.more ?_ _ _ | refine Bw.drew ?_ | refine Bw.drewN ?_ _) | ((with_reducible refine Bw.set2 ?_ ?_ _); (focus exact SZX)) | with_reducible refine Bw.trans ?_ (by assumption))); done) | exact ⟨cell_far hHeld.1 HG7.out (Ne.symm HBO.out), cell_far hHeld.2.1 HG7.out (Ne.symm HBO.out), cell_far hHeld.2.2 HG7.out (Ne.symm HBO.out)⟩ | exact ⟨cell_ne hHeld.1 (by omega), cell_ne hHeld.2.1 (by omega), cell_ne hHeld.2.2 (by omega)⟩)
        clear hK K
        (try simp only [Act.put, zP1, zP2, zP3, zP4, zP5, zP6])
        refine wpAnyH_done (by kernel_rfl) ?_ _
        go_wp2_with fail
        go_roundw
        case rel => exact ⟨q + 1, A7, c7, _, by go_num, by omega, HB7.out.set 19 _ rfl, own_set_below HO7.out (by omega) _, grown_set hgr7 19 _⟩
        case measure => simp [intOf]; omega
       exact AllReadyH.nil
      exact AllReadyH.nil
     exact AllReadyH.nil
    refine AllReadyH.cons rfl (fun K hK => ?_) ?_
    ·go_simp
     refine hK.out _ _ ?_ (fun hHeld => ?_)
     ·(try dsimp only); (first | (refine HY.out _ ?_; (repeat (first | with_reducible (first | assumption | exact Bw.refl _ | refine Bw.alloc ?_ _ | refine Bw.more ?_ _ _ | refine Bw.drew ?_ | refine Bw.drewN ?_ _) | ((with_reducible refine Bw.set2 ?_ ?_ _); (focus exact SZX)) | with_reducible refine Bw.trans ?_ (by assumption))); done) | exact ⟨cell_far hHeld.1 HG7.out (Ne.symm HBO.out), cell_far hHeld.2.1 HG7.out (Ne.symm HBO.out), cell_far hHeld.2.2 HG7.out (Ne.symm HBO.out)⟩ | exact ⟨cell_ne hHeld.1 (by omega), cell_ne hHeld.2.1 (by omega), cell_ne hHeld.2.2 (by omega)⟩)
     clear hK K
     (try simp only [Act.put, zP1, zP2, zP3, zP4, zP5, zP6])
     refine wpAnyH_ready (rs := [4]) (by kernel_rfl) (by simp) ?_
     refine AllReadyH.cons rfl (fun K hK => ?_) ?_
     ·go_simp
      refine hK.out _ _ ?_ (fun hHeld => ?_)
      ·(try dsimp only); (first | (refine HY.out _ ?_; (repeat (first | with_reducible (first | assumption | exact Bw.refl _ | refine Bw.alloc ?_ _ | refine Bw.more ?_ _ _ | refine Bw.drew ?_ | refine Bw.drewN ?_ _) | ((with_reducible refine Bw.set2 ?_ ?_ _); (focus exact SZX)) | with_reducible refine Bw.trans ?_ (by assumption))); done) | exact ⟨cell_far hHeld.1 HG7.out (Ne.symm HBO.out), cell_far hHeld.2.1 HG7.out (Ne.symm HBO.out), cell_far hHeld.2.2 HG7.out (Ne.symm HBO.out)⟩ | exact ⟨cell_ne hHeld.1 (by omega), cell_ne hHeld.2.1 (by omega), cell_ne hHeld.2.2 (by omega)⟩)
      clear hK K
      (try simp only [Act.put, zP1, zP2, zP3, zP4, zP5, zP6])
      refine wpAnyH_ready (rs := [13]) (by kernel_rfl) (by simp) ?_
      refine AllReadyH.cons rfl (fun K hK => ?_) ?_
      ·refine step_append_srcG (by rfl) (.tmp 13) (.tmp 21) 40 rfl w.heap.size 24 j0 (.slice none 0 0) 1 24 Tryz.underlying40 hj hj0 hj1 hj2 rfl (by decide) (.slice L q k) q vs (by rfl) (by refine HO.out.bw ?_; (repeat (first | with_reducible (first | assumption | exact Bw.refl _ | refine Bw.alloc ?_ _ | refine Bw.more ?_ _ _ | refine Bw.drew ?_ | refine Bw.drewN ?_ _) | ((with_reducible refine Bw.set2 ?_ ?_ _); (focus exact SZX)) | with_reducible refine Bw.trans ?_ (by assumption))); done) (some ⟨_, 0, none⟩) 1 1 [.slice Ar nr cr] (by rfl) rfl (fun e => by cases e) (fun ad e => by cases e; exact cell_one_new _ _ _) (by simp; rfl) (by unfold maxLen; omega) (by omega) (by simp only [szA, szS, szD, szN]; omega) ?_; intro v7 w7 hown7 hg7; obtain ⟨A7, c7, rfl, hc7, hc7m⟩ := own_form hown7; have HO7 := Lib.hid hown7; have HG7 := Lib.hid hg7; have HB7 := Lib.hid ((HB.out.up (show Bw wr _ from BWX)).far HG7.out (Ne.symm HBO.out)); have z19 := HB7.out.free 19; have y7 := HB7.out.cell 19 (v := .slice L q k) rfl; have hgr7 : w.grownBy w7 (some g) := cvgrown_own (HG.out.trans (grown_bw (show Bw wr _ from BWX) _)) (show World.ownsRow _ w.heap.size 24 1 (.slice L q k) q vs by refine HO.out.bw ?_; (repeat (first | with_reducible (first | assumption | exact Bw.refl _ | refine Bw.alloc ?_ _ | refine Bw.more ?_ _ _ | refine Bw.drew ?_ | refine Bw.drewN ?_ _) | ((with_reducible refine Bw.set2 ?_ ?_ _); (focus exact SZX)) | with_reducible refine Bw.trans ?_ (by assumption))); done) HG7.out; clear hown7 hg7
       refine hK.out _ _ ?_ (fun hHeld => ?_)
       ·(try dsimp only); (first | (refine HY.out _ ?_; (repeat (first | with_reducible (first | assumption | exact Bw.refl _ | refine Bw.alloc ?_ _ | refine Bw.more ?_ _ _ | refine Bw.drew ?_ | refine Bw.drewN ?_ _) | ((with_reducible refine Bw.set2 ?_ ?_ _); (focus exact SZX)) | with_reducible refine Bw.trans ?_ (by assumption))); done) | exact ⟨cell_far hHeld.1 HG7.out (Ne.symm HBO.out), cell_far hHeld.2.1 HG7.out (Ne.symm HBO.out), cell_far hHeld.2.2 HG7.out (Ne.symm HBO.out)⟩ | exact ⟨cell_ne hHeld.1 (by omega), cell_ne hHeld.2.1 (by omega), cell_ne hHeld.2.2 (by omega)⟩)
       clear hK K
       (try simp only [Act.put, zP1, zP2, zP3, zP4, zP5, zP6])
       refine tkQ 14 ?_
       (try simp only [Act.put, zP1, zP2, zP3, zP4, zP5, zP6])
       refine tkQ 15 ?_
       (try simp only [Act.put, zP1, zP2, zP3, zP4, zP5, zP6])
       refine wpAnyH_ready (rs := [16]) (by kernel_rfl) (by simp) ?_
       refine AllReadyH.cons rfl (fun K hK => ?_) ?_
       ·go_simp
        refine hK.out _ _ ?_ (fun hHeld => ?_)
        ·(try dsimp only); (first | (refine HY.out _ ?_; (repeat (first | with_reducible (first | assumption | exact Bw.refl _ | refine Bw.alloc ?_ _ | refine Bw.more ?_ _ _ | refine Bw.drew ?_ | refine Bw.drewN ?_ _) | ((with_reducible refine Bw.set2 ?_ ?_ _); (focus exact SZX)) | with_reducible refine Bw.trans ?_ (by assumption))); done) | exact ⟨cell_far hHeld.1 HG7.out (Ne.symm HBO.out), cell_far hHeld.2.1 HG7.out (Ne.symm HBO.out), cell_far hHeld.2.2 HG7.out (Ne.symm HBO.out)⟩ | exact ⟨cell_ne hHeld.1 (by omega), cell_ne hHeld.2.1 (by omega), cell_ne hHeld.2.2 (by omega)⟩)
        clear hK K
        (try simp only [Act.put, zP1, zP2, zP3, zP4, zP5, zP6])
        refine wpAnyH_done (by kernel_rfl) ?_ _
        go_wp2_with fail
        go_roundw
        case rel => exact ⟨q + 1, A7, c7, _, by go_num, by omega, HB7.out.set 19 _ rfl, own_set_below HO7.out (by omega) _, grown_set hgr7 19 _⟩
        case measure => simp [intOf]; omega
       exact AllReadyH.nil
      exact AllReadyH.nil
     exact AllReadyH.nil
    exact AllReadyH.nil
   exact AllReadyH.nil
  ·obtain rfl : nn = q := by omega
   go_wp2_with fail
   go_end0
   exact ⟨L, k, rfl, HB.out, HG.out⟩
end Go.Proofs.YtkflooljdopldaaGreat

/- The program's Fill, at whatever arguments. -/
namespace Go.Proofs.YtkflooljdopldaaGreat
open Go.RowKit

set_option maxRecDepth 100000 in
set_option maxHeartbeats 4000000 in
theorem gfill_any (R C : Int) (A : Option Addr) (n c : Nat) (cs : List C4) (row fr tt d1 d2 d3 d4 : Int) (w : World) (hr : Rg w A n cs) (hn : n ≤ c) (hn3 : n ≤ 4398046511103) (hc : c ≤ 9223372036854775807) :
  Calls Tryz.prog 56 #[.agg #[.int .i64 R, .int .i64 C, .slice A n c], .int .i64 row, .int .i64 fr, .int .i64 tt, .agg #[.int .i64 d1, .int .i64 d2, .int .i64 d3, .int .i64 d4]] w (GrN w R C (fillG R C cs row fr tt (d1, d2, d3, d4))) := by
 have HR := Lib.hid hr
 clear hr
 go_enter Tryz.func56, Tryz.ntmps56
 go_upto_region 1 with (fail)
 generalize hw6 : (((((w.alloc (.cells #[.int .i64 R, .int .i64 C, .slice A n c] 26)).alloc (.cells #[.int .i64 row] 3)).alloc (.cells #[.int .i64 fr] 3)).alloc (.cells #[.int .i64 tt] 3)).alloc (.cells #[.int .i64 d1, .int .i64 d2, .int .i64 d3, .int .i64 d4] 53)).alloc _ = w6
 have hbw : Bw w w6 := by rw [← hw6]; exact BWX
 have y0 : w6.cell? ⟨w.heap.size + 1, 0, none⟩ = some (.int .i64 row) := by rw [← hw6]; exact CELX
 have y1 : w6.cell? ⟨w.heap.size, 0, none⟩ = some (.int .i64 R) := by rw [← hw6]; exact CELX
 have y2 : w6.cell? ⟨w.heap.size, 1, none⟩ = some (.int .i64 C) := by rw [← hw6]; exact CELX
 have y2' : w6.cell? ⟨w.heap.size, 2, none⟩ = some (.slice A n c) := by rw [← hw6]; exact CELX
 have y3 : w6.cell? ⟨w.heap.size + 1 + 1, 0, none⟩ = some (.int .i64 fr) := by rw [← hw6]; exact CELX
 have y4 : w6.cell? ⟨w.heap.size + 1 + 1 + 1, 0, none⟩ = some (.int .i64 tt) := by rw [← hw6]; exact CELX
 have y5 : w6.cell? ⟨w.heap.size + 1 + 1 + 1 + 1, 0, none⟩ = some (.int .i64 d1) := by rw [← hw6]; exact CELX
 have y6 : w6.cell? ⟨w.heap.size + 1 + 1 + 1 + 1, 1, none⟩ = some (.int .i64 d2) := by rw [← hw6]; exact CELX
 have y7 : w6.cell? ⟨w.heap.size + 1 + 1 + 1 + 1, 2, none⟩ = some (.int .i64 d3) := by rw [← hw6]; exact CELX
 have y8 : w6.cell? ⟨w.heap.size + 1 + 1 + 1 + 1, 3, none⟩ = some (.int .i64 d4) := by rw [← hw6]; exact CELX
 have HB := Lib.hid (show ∃ old, Sb w6 (w.heap.size + 1 + 1 + 1 + 1 + 1) old 26 ∧ old.size = 3 from by rw [← hw6]; exact ⟨_, heap_at (by simp), rfl⟩)
 have hz6 : w.heap.size + 1 + 1 + 1 + 1 + 1 < w6.heap.size := by rw [← hw6]; simp
 clear hw6
 go_wp2_with (first
  | (go_at_call 69; refine (gchangefill_ok R C A n c cs row fr tt d1 d2 d3 d4 (w.heap.size + 1) w.heap.size (w.heap.size + 1 + 1) (w.heap.size + 1 + 1 + 1) (w.heap.size + 1 + 1 + 1 + 1) w6 (HR.out.up hbw) hn hn3 hc y0 y1 y2 y3 y4 y5 y6 y7 y8).mono ?_; rintro ee w7 ⟨A', n', c', rfl, hRg, hn', hc', hnew, hb7⟩; have HRg := Lib.hid hRg; have HB7 := Lib.hid hb7; have hlt := Lib.hid hRg.1; clear hRg hb7)
  | ((with_reducible refine wpList_store_gr R C A' n' c' (w.heap.size + 1 + 1 + 1 + 1 + 1) (.tmp 10) (.tmp 14) rfl rfl ?_ ?_ ?_ ?_); (focus rfl); (focus rfl); (focus (exact Exists.elim HB.out (fun old h => ⟨old, h.1.up HB7.out, h.2⟩))); intro w8 hS8 hg8; have HS8 := Lib.hid hS8; have HG8 := Lib.hid hg8; clear hS8 hg8)
  | fail)
 refine bodyPost_ret (results_gr rfl _ _ (w.heap.size + 1 + 1 + 1 + 1 + 1) R C A' n' c' (by rfl) HS8.out) rfl ?_
 have hz := hbw.size
 exact ⟨A', n', c', rfl, HRg.out.far HG8.out (fun ad e e2 => by have := hnew ad e; have e3 := Option.some.inj e2; omega), hn', hc', (fun ad e => by have := hnew ad e; omega), Bw.grown (Bw.trans hbw HB7.out) HG8.out (fun k hk => by cases hk; omega)⟩
end Go.Proofs.YtkflooljdopldaaGreat

/- The program's slide: copies of elements of any size. -/
namespace Go.Proofs.YtkflooljdopldaaGreat
open Go.RowKit

theorem run_copy_rowS {P : Program} (w : World) (dT sT ty elem : TypeId) (g o dLen dCap : Nat) (a : Addr) (sLen sCap : Nat) (cur : Array Value) (t : TypeId) (cs : List Value) (sz : Nat)
  (hu : P.underlying dT = some (.slice elem)) (hs : (P.info? elem).map (·.size) = some sz)
  (hg : w.heap[g]? = some (.cells cur t (0, 0))) (hn : cs.length = Nat.min sLen dLen * sz)
  (hsrc : ∀ j v, cs[j]? = some v → w.cell? (a.add j) = some v) (hfit : o + cs.length ≤ cur.size) (h1 : ∀ v ∈ cs, v.oneCell' = true) :
  (Builtin.copy_ #[dT, sT] ty #[.slice (some ⟨g, o, none⟩) dLen dCap, .slice (some a) sLen sCap]).run P w =
   .ok (goInt (Nat.min sLen dLen)) (w.setRow g (cur.toList.take o ++ cs ++ cur.toList.drop (o + cs.length)).toArray) := by
 have hf := run_firstCells_some (P := P) w sz (Nat.min sLen dLen) a sLen sCap cs hn hsrc
 have hst := run_storeCells_at P g o t cs 0 cur w hg (by simpa using hfit) h1
 cases hq : P.info? elem with
 | none => simp [hq] at hs
 | some i =>
  have hi : i.size = sz := by simpa [hq] using hs
  simp [Builtin.copy_, run_underlying hu, Builtin.lenOf, sizeOf, typeInfo, hq, hi]
  rw [hf]
  simp [hst]
theorem wpList_copyS {P : Program} {w : World} {ops : Array Oper} {rest : List Oper} {o : Oper} {a : Act} {Q : Exit → Act → World → Prop} (hgd : o.guard = none) (d s : Operand) (dT sT : TypeId)
  (ho : o.op = .call { callee := .builtin .copy, args := #[d, s], argTypes := #[dT, sT] }) (elem : TypeId) (sz : Nat) (hu : P.underlying dT = some (.slice elem)) (hsz : (P.info? elem).map (·.size) = some sz)
  (g off dLen dCap : Nat) (ad : Addr) (sLen sCap : Nat) (hd : a.eval d = .slice (some ⟨g, off, none⟩) dLen dCap) (hs : a.eval s = .slice (some ad) sLen sCap)
  (cur : Array Value) (t : TypeId) (hg : w.heap[g]? = some (.cells cur t (0, 0))) (cs : List Value) (hn : cs.length = Nat.min sLen dLen * sz)
  (hsrc : ∀ j v, cs[j]? = some v → w.cell? (ad.add j) = some v) (hfit : off + cs.length ≤ cur.size) (h1 : ∀ v ∈ cs, v.oneCell' = true)
  (h : ∀ w', w'.heap[g]? = some (.cells (cur.toList.take off ++ cs ++ cur.toList.drop (off + cs.length)).toArray t (0, 0)) → w.grownBy w' (some g) → wpList P ops Q rest (a.put o.dst (goInt (Nat.min sLen dLen))) w') : wpList P ops Q (o :: rest) a w := by
 refine wpList_plain hgd fun K hK => ?_
 have hrun := run_copy_rowS (P := P) w dT sT o.type elem g off dLen dCap ad sLen sCap cur t cs sz hu hsz hg hn hsrc hfit h1
 unfold Oper.wp
 unfold execOp
 simp only [ho, resolve, invoke, builtin, Sem.run_bind, Sem.run_pure, Result.andThen_ok, List.map_toArray, List.map_cons, List.map_nil, hd, hs, hrun]
 exact hK _ _ (h _ (setRow_heap w g _ _ t _ hg) ⟨rfl, rfl, rfl, by simp [World.setRow], fun k hk hne => setRow_other w g k _ (fun e => hne (by rw [e]))⟩)
/-- Cells copied within a row: those from p on, q of them, to place k. -/
def movC (cs : List C4) (k p q : Nat) : List C4 := cs.take k ++ (cs.drop p).take q ++ cs.drop (k + q)
theorem movC_len {cs : List C4} {k p q : Nat} (h1 : k + q ≤ cs.length) (h2 : p + q ≤ cs.length) : (movC cs k p q).length = cs.length := by
 unfold movC
 simp only [List.length_append, List.length_take, List.length_drop]
 omega
theorem flat_take : ∀ (cs : List C4) (k : Nat), flat (cs.take k) = (flat cs).take (k * 4)
 | [], k => by simp [flat]
 | c :: cs, 0 => by simp [flat]
 | c :: cs, k + 1 => by
  rw [List.take_succ_cons, flat_cons, flat_cons, flat_take cs k, show (k + 1) * 4 = k * 4 + 1 + 1 + 1 + 1 by omega]
  rfl
theorem flat_drop : ∀ (cs : List C4) (k : Nat), flat (cs.drop k) = (flat cs).drop (k * 4)
 | [], k => by simp [flat]
 | c :: cs, 0 => by simp
 | c :: cs, k + 1 => by
  rw [List.drop_succ_cons, flat_cons, flat_drop cs k, show (k + 1) * 4 = k * 4 + 1 + 1 + 1 + 1 by omega]
  rfl
theorem Wc.moved {w' : World} {g : Nat} {cs : List C4} {sp : List Value} {k p q : Nat} (h1 : k + q ≤ cs.length) (h2 : p + q ≤ cs.length)
  (h : w'.heap[g]? = some (.cells ((flat cs ++ sp).toArray.toList.take (k * 4) ++ flat ((cs.drop p).take q) ++ (flat cs ++ sp).toArray.toList.drop (k * 4 + (flat ((cs.drop p).take q)).length)).toArray 53 (0, 0))) : Wc w' g (movC cs k p q) sp := by
 have hq : ((cs.drop p).take q).length = q := by simp only [List.length_take, List.length_drop]; omega
 unfold Wc
 rw [h, flat_len, hq]
 have e : flat (movC cs k p q) = (flat cs).take (k * 4) ++ flat ((cs.drop p).take q) ++ (flat cs).drop ((k + q) * 4) := by
  unfold movC
  rw [flat_app, flat_app, flat_take cs k, flat_drop cs (k + q)]
 rw [e]
 simp only [List.toList_toArray]
 rw [List.take_append_of_le_length (by rw [flat_len]; omega), show k * 4 + q * 4 = (k + q) * 4 by omega, List.drop_append_of_le_length (by rw [flat_len]; omega)]
 simp
end Go.Proofs.YtkflooljdopldaaGreat

/- The program's slide: the plain law. -/
namespace Go.Proofs.YtkflooljdopldaaGreat
open Go.RowKit

/-- The cells a .. a + n - 1 moved to the front by num (to the back by -num), the places left filled with d. -/
def slideC (cs : List C4) (a n : Nat) (num : Int) (d : C4) : List C4 := (List.range cs.length).map fun (i : Nat) => if (a : Int) ≤ i ∧ (i : Int) < a + n then (if (a : Int) ≤ i + num ∧ (i : Int) + num < a + n then cs.getD ((i : Int) + num).toNat d else d) else cs.getD i d
/-- The cells s .. s + i - 1 are d. -/
def fillL (cs : List C4) (s i : Nat) (d : C4) : List C4 := (List.range cs.length).map fun j => if s ≤ j ∧ j < s + i then d else cs.getD j d
theorem fillL_len (cs : List C4) (s i : Nat) (d : C4) : (fillL cs s i d).length = cs.length := by simp [fillL]
theorem slideC_len (cs : List C4) (a n : Nat) (num : Int) (d : C4) : (slideC cs a n num d).length = cs.length := by simp [slideC]
theorem fillL_0 (cs : List C4) (s : Nat) (d : C4) : fillL cs s 0 d = cs := by
 refine List.ext_getElem (fillL_len _ _ _ _) (fun i h1 h2 => ?_)
 simp only [fillL, List.getElem_map, List.getElem_range]
 rw [if_neg (by omega), List.getD_eq_getElem?_getD, List.getElem?_eq_getElem h2]
 rfl
theorem fillL_step {cs : List C4} {s i : Nat} {d : C4} : (fillL cs s i d).set (s + i) d = fillL cs s (i + 1) d := by
 refine List.ext_getElem (by rw [List.length_set, fillL_len, fillL_len]) (fun j h1 h2 => ?_)
 rw [List.getElem_set]
 simp only [fillL, List.getElem_map, List.getElem_range]
 by_cases h : s + i = j
 ·rw [if_pos h, if_pos (by omega)]
 ·rw [if_neg h]
  by_cases h3 : s ≤ j ∧ j < s + i
  ·rw [if_pos h3, if_pos (by omega)]
  ·rw [if_neg h3, if_neg (by omega)]
theorem movC_get {cs : List C4} {k p q : Nat} (h1 : k + q ≤ cs.length) (h2 : p + q ≤ cs.length) (i : Nat) (d : C4) : (movC cs k p q).getD i d = if k ≤ i ∧ i < k + q then cs.getD (p + (i - k)) d else cs.getD i d := by
 unfold movC
 simp only [List.getD_eq_getElem?_getD]
 by_cases ha : i < k
 ·rw [if_neg (by omega), List.append_assoc, List.getElem?_append_left (by simp; omega), List.getElem?_take, if_pos ha]
 ·by_cases hb : i < k + q
  ·rw [if_pos (by omega), List.append_assoc, List.getElem?_append_right (by simp; omega), List.getElem?_append_left (by simp; omega), List.getElem?_take, List.getElem?_drop]
   have e : i - (List.take k cs).length = i - k := by simp; omega
   rw [e, if_pos (by omega)]
  ·rw [if_neg (by omega), List.getElem?_append_right (by simp; omega), List.getElem?_drop]
   congr 2
   simp
   omega
theorem slide_pos {cs : List C4} {a n q : Nat} {d : C4} (h : a + n ≤ cs.length) (hq : q ≤ n) : fillL (movC cs a (a + q) (n - q)) (a + (n - q)) q d = slideC cs a n (q : Int) d := by
 have hl := movC_len (cs := cs) (k := a) (p := a + q) (q := n - q) (by omega) (by omega)
 refine List.ext_getElem (by rw [fillL_len, slideC_len, hl]) (fun i h1 h2 => ?_)
 simp only [fillL, slideC, List.getElem_map, List.getElem_range]
 rw [movC_get (by omega) (by omega)]
 by_cases h3 : a + (n - q) ≤ i ∧ i < a + (n - q) + q
 ·rw [if_pos h3, if_pos (by omega), if_neg (by omega)]
 ·rw [if_neg h3]
  by_cases h4 : a ≤ i ∧ i < a + (n - q)
  ·rw [if_pos h4, if_pos (by omega), if_pos (by omega)]
   congr 1
   omega
  ·rw [if_neg h4, if_neg (by omega)]
theorem slide_neg {cs : List C4} {a n q : Nat} {d : C4} (h : a + n ≤ cs.length) (hq : q ≤ n) : fillL (movC cs (a + q) a (n - q)) a q d = slideC cs a n (-(q : Int)) d := by
 have hl := movC_len (cs := cs) (k := a + q) (p := a) (q := n - q) (by omega) (by omega)
 refine List.ext_getElem (by rw [fillL_len, slideC_len, hl]) (fun i h1 h2 => ?_)
 simp only [fillL, slideC, List.getElem_map, List.getElem_range]
 rw [movC_get (by omega) (by omega)]
 by_cases h3 : a ≤ i ∧ i < a + q
 ·rw [if_pos h3, if_pos (by omega), if_neg (by omega)]
 ·rw [if_neg h3]
  by_cases h4 : a + q ≤ i ∧ i < a + q + (n - q)
  ·rw [if_pos h4, if_pos (by omega), if_pos (by omega)]
   congr 1
   omega
  ·rw [if_neg h4, if_neg (by omega)]
end Go.Proofs.YtkflooljdopldaaGreat
