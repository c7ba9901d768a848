/- Parts of the proof, one after the other. -/
import Derived.Test.YtkflooljdopldaaGreatU45
import Derived.Test.YtkflooljdopldaaGreatU08
import Derived.Test.YtkflooljdopldaaGreatU47
import Derived.Test.YtkflooljdopldaaGreatU48
import Derived.Test.YtkflooljdopldaaGreatU46
import Derived.Test.YtkflooljdopldaaGreatU38
import Derived.Test.YtkflooljdopldaaGreatU05
import Derived.Deep.RegionHeld3
set_option linter.unusedSimpArgs false
set_option linter.unusedVariables false
/- The reference's Same of screens alike. -/
namespace Go.Proofs.YtkflooljdopldaaGreat
open Go.RowKit

set_option maxRecDepth 100000 in
set_option maxHeartbeats 1000000 in
theorem rsameS_any (s : Scr) (A B : Option Addr) (n c m d : Nat) (cs : List C4) (w : World) (hx : Rg w A n cs) (hn : n ≤ c) (hc : c ≤ 9223372036854775807) (hy : Rg w B m cs) (hm : m ≤ d) (hd : d ≤ 9223372036854775807) :
  Calls Tryz.prog 16 #[.agg (s.gr A n c).vals.toArray, .agg (s.gr B m d).vals.toArray] w fun e w' => e = .returned (.bool true) ∧ Bw w w' := by
 obtain ⟨Rn, Cn, A0, n0, c0, row, col, wrap, f, g, b, top, bot, srow, scol, swrap, sf, sg, sb, hid, now⟩ := s
 have HX := Lib.hid hx
 have HY := Lib.hid hy
 have HT := Lib.hid (show (decide ((Rn : Int) = Rn) && decide ((Cn : Int) = Cn) && decide (cs = cs)) = true by simp)
 clear hx hy
 unfold Scr.gr Scr.vals
 dsimp only
 go_enter Tryz.func16, Tryz.ntmps16
 go_wp2_with (first
  | (go_at_call 45; refine (rsame_any _ _ _ _ A B n c m d cs cs _ (HX.out.up BWX) hn hc (HY.out.up BWX) hm hd).mono ?_; rintro ee wv ⟨rfl, hbv⟩; rw [HT.out]; obtain ⟨L, d', rfl⟩ := Bw.isPlus hbv; clear hbv)
  | fail)
 go_ret
 exact ⟨by first | rfl | simp, BWX⟩
end Go.Proofs.YtkflooljdopldaaGreat

/- The law ScreenResets. -/
namespace Go.Proofs.YtkflooljdopldaaGreat
open Go.RowKit

theorem field_tz (t : Trm) (w : World) : (Instr.field 42 (.agg t.vals.toArray) 0).run Tryz.prog w = .ok (.agg t.s.vals.toArray) w := by
 cases t
 kernel_rfl
theorem wpList_fieldZ {P : Program} {w : World} {ops : Array Oper} {rest : List Oper} {o : Oper} {a : Act} {Q : Exit → Act → World → Prop} (T : TypeId) (i : Nat) (x : Operand) (v r : Value) (ho : o.op = .field T x i) (hgd : o.guard = none)
  (hx : a.eval x = v) (hrun : (Instr.field T v i).run P w = .ok r w) (h : wpList P ops Q rest (a.put o.dst r) w) : wpList P ops Q (o :: rest) a w := by
 refine wpList_plain hgd fun K hK => ?_
 unfold Oper.wp
 unfold execOp
 simp only [ho, hx, Sem.run_bind, Sem.run_pure, hrun, Result.andThen_ok]
 exact hK _ _ h
theorem hmS_ok {s : Scr} (h : ScX s) : ScX (hmS s) := by
 obtain ⟨h1, h2, h3, h4, h5⟩ := h
 exact ⟨h1, mv_bd (mv_bd h2 h4) h4, h3, h4, h5⟩
theorem svS_ok {s : Scr} (h : ScX s) : ScX (svS s) := by
 obtain ⟨h1, h2, h3, h4, h5⟩ := h
 exact ⟨h1, h2, h3, h4, h2, h3⟩
/-- A screen that has nothing but a size. -/
def zeroS (R C : Nat) : Scr := ⟨R, C, none, 0, 0, 0, 0, false, 0, 0, 0, 0, 0, 0, 0, false, 0, 0, 0, false, false⟩

set_option maxRecDepth 100000 in
set_option maxHeartbeats 1000000 in
theorem resets18_any (A : Option Addr) (n c : Nat) (xs : List Int) (w : World) (hr : RdI w A n xs) (hA : 0 < n → ∀ ad, A = some ad → ad.block < w.heap.size) (hn : n ≤ 9223372036854775807) :
  Calls Tryz.prog 6 #[.slice A n c] w fun e w' => e = .returned (.bool true) ∧ Bw w w' := by
 have HR := Lib.hid hr
 have HA := Lib.hid hA
 clear hr hA
 go_enter Tryz.func6, Tryz.ntmps6
 go_upto_region 3 with (first
  | (go_at_call 7; refine (sane18_any _).mono ?_; rintro ee w1 ⟨rfl, hb1⟩; have HB1 := Lib.hid hb1; clear hb1)
  | fail)
 go_upto_region 4 with (first
  | (go_at_call 9; refine (mnew_any A n c _).mono ?_; rintro ee wn ⟨rfl, rfl⟩)
  | (go_at_call 8; refine (mterm_dk w1.heap.size A n c xs _ (Dk2.made (HR.out.up HA.out HB1.out) (fun h0 ad e => by have := HA.out h0 ad e; have := HB1.out.size; omega) hn)).mono ?_; rintro ee w3 ⟨t, rfl, ht, ⟨t1, t2, t3, t4⟩, -, -, hg3⟩; have HOK3 := Lib.hid ht.1; have hb13 : Bw w1 w3 := Bw.grown (Bw.alloc (Bw.refl _) _) hg3 (fun k hk => by cases hk; omega); clear ht hg3)
  | ((with_reducible refine wpList_fieldZ 42 0 (.tmp 14) (.agg t.vals.toArray) (.agg t.s.vals.toArray) rfl rfl ?_ (field_tz t _) ?_); (focus rfl))
  | ((with_reducible refine wpList_store_sc t.s w3.heap.size (.tmp 3) (.tmp 15) rfl rfl ?_ ?_ ?_ ?_); (focus rfl); (focus rfl); (focus (exact ⟨_, heap_at (by simp), rfl⟩)); intro w4 hS4 hg4; have HS4 := Lib.hid hS4; have hb34 : Bw w3 w4 := Bw.grown (show Bw w3 _ from BWX) hg4 (fun j hj => by cases hj; omega); clear hS4 hg4)
  | fail)
 have HOK := Lib.hid (HOK3.out.up hb34)
 have HBW := Lib.hid (Bw.trans HB1.out (Bw.trans hb13 hb34))
 obtain ⟨s, hs⟩ : ∃ s, s = t.s := ⟨_, rfl⟩
 rw [← hs] at HOK HS4 t1 t2 t3 t4
 obtain ⟨gs, hgs⟩ : ∃ gs, gs = w3.heap.size := ⟨_, rfl⟩
 have hltg := HS4.out.lt
 rw [← hgs] at HS4 hltg ⊢
 have hgw : w.heap.size ≤ gs := by have := HB1.out.size; have := hb13.size; omega
 have hslt : ∀ ad, s.A = some ad → ad.block < gs := fun ad e => by rw [hgs]; exact HOK3.out.1.lt ad (hs ▸ e)
 have HSL := Lib.hid hslt
 clear HOK3 hb13 hb34 HB1 hs hgs hslt
 obtain ⟨⟨-, -, -, -, -, knc, kcm, cs, kr, kg⟩, -⟩ := HOK.out
 have HRS := Lib.hid kr
 have HGB := Lib.hid kg
 have HSX := Lib.hid HOK.out.num
 clear kr kg
 -- a: the reset
 go_upto_region 5 with (first
  | ((with_reducible refine wpList_load_sc s gs (.tmp 3) rfl rfl ?_ ?_ ?_); (focus rfl); (focus (exact HS4.out)))
  | (go_at_call 10; refine (sapply_gen 3 99 0 none 0 0 27 s (newSc s.Rn s.Cn s.A s.n s.c) cs (List.replicate (s.Rn * s.Cn) blk) 0 true _ (HOK.out.up BWX) (HRS.out.up BWX) rfl (.inr (.inr ⟨rfl, rfl⟩)) (fun g w1 h => cvescape_99 s false cs g w1 h HSX.out)).mono ?_; rintro ee w5 ⟨A1, n1, c1, L1, k1, rfl, hr1, hn1, hc1, -, hb1⟩; have HR1 := Lib.hid hr1; have hb45 : Bw w4 w5 := Bw.trans (show Bw w4 _ from BWX) hb1; clear hr1 hb1)
  | ((with_reducible refine wpList_store_sc ((newSc s.Rn s.Cn s.A s.n s.c).gr A1 n1 c1) w5.heap.size (.tmp 4) (.tmp 20) rfl rfl ?_ ?_ ?_ ?_); (focus rfl); (focus rfl); (focus (exact ⟨_, heap_at (by simp), rfl⟩)); intro w6 hS1 hg1; have HB1 := Lib.hid hS1; have hs1 : Bw w5 w6 := Bw.grown (show Bw w5 _ from BWX) hg1 (fun j hj => by cases hj; omega); clear hS1 hg1)
  | fail)
 obtain ⟨g4, hg4⟩ : ∃ g4, g4 = w5.heap.size := ⟨_, rfl⟩
 rw [← hg4] at HB1 ⊢
 have hlt4 := HB1.out.lt
 have HB46 := Lib.hid (Bw.trans hb45 hs1)
 have HR16 := Lib.hid (HR1.out.up hs1)
 have HS6 := Lib.hid (HS4.out.up HB46.out)
 have hlts6 := HS6.out.lt
 have x0 := HS6.out.cell 0 (v := .int .i64 (s.Rn : Int)) rfl
 have x1 := HS6.out.cell 1 (v := .int .i64 (s.Cn : Int)) rfl
 clear HR1 hb45 hs1 hg4
 -- b: the same size
 go_upto_region 6 with (first
  | ((with_reducible refine wpList_load_sc s gs (.tmp 3) rfl rfl ?_ ?_ ?_); (focus rfl); (focus (exact HS6.out)))
  | (go_at_call 14; refine (sresize_same s cs _ (HOK.out.up (Bw.trans HB46.out BWX)) (HRS.out.up (Bw.trans HB46.out BWX)) HGB.out).mono ?_; rintro ee w7 ⟨A2, n2, c2, L2, k2, rfl, hr2, hn2, hc2, -, hb2⟩; have HR2 := Lib.hid hr2; have hb67 : Bw w6 w7 := Bw.trans (show Bw w6 _ from BWX) hb2; clear hr2 hb2 x0 x1)
  | ((with_reducible refine wpList_store_sc ((smS s).gr A2 n2 c2) w7.heap.size (.tmp 6) (.tmp 31) rfl rfl ?_ ?_ ?_ ?_); (focus rfl); (focus rfl); (focus (exact ⟨_, heap_at (by simp), rfl⟩)); intro w8 hS2 hg2; have HB2 := Lib.hid hS2; have hs2 : Bw w7 w8 := Bw.grown (show Bw w7 _ from BWX) hg2 (fun j hj => by cases hj; omega); clear hS2 hg2)
  | fail)
 obtain ⟨g6, hg6⟩ : ∃ g6, g6 = w7.heap.size := ⟨_, rfl⟩
 rw [← hg6] at HB2 ⊢
 have HB68 := Lib.hid (Bw.trans hb67 hs2)
 have HB48 := Lib.hid (Bw.trans HB46.out HB68.out)
 have HR28 := Lib.hid (HR2.out.up hs2)
 have HS8 := Lib.hid (HS4.out.up HB48.out)
 have hlts8 := HS8.out.lt
 clear HR2 hb67 hs2 hg6
 -- c: save
 go_upto_region 7 with (first
  | ((with_reducible refine wpList_load_sc s gs (.tmp 3) rfl rfl ?_ ?_ ?_); (focus rfl); (focus (exact HS8.out)))
  | (go_at_call 10; refine (sapply_gen 3 55 0 none 0 0 27 s (svS s) cs cs 0 false _ (HOK.out.up (Bw.trans HB48.out BWX)) (HRS.out.up (Bw.trans HB48.out BWX)) rfl (.inr (.inr ⟨rfl, rfl⟩)) (fun g w1 h => cvescape_55 s false cs g w1 h)).mono ?_; rintro ee w9 ⟨A3, n3, c3, L3, k3, rfl, hr3, hn3, hc3, -, hb3⟩; have HR3 := Lib.hid hr3; have hb89 : Bw w8 w9 := Bw.trans (show Bw w8 _ from BWX) hb3; clear hr3 hb3)
  | ((with_reducible refine wpList_store_sc ((svS s).gr A3 n3 c3) w9.heap.size (.tmp 8) (.tmp 37) rfl rfl ?_ ?_ ?_ ?_); (focus rfl); (focus rfl); (focus (exact ⟨_, heap_at (by simp), rfl⟩)); intro w10 hS3 hg3; have HB3 := Lib.hid hS3; have hs3 : Bw w9 w10 := Bw.grown (show Bw w9 _ from BWX) hg3 (fun j hj => by cases hj; omega); clear hS3 hg3)
  | fail)
 obtain ⟨g8, hg8⟩ : ∃ g8, g8 = w9.heap.size := ⟨_, rfl⟩
 rw [← hg8] at HB3 ⊢
 have HB810 := Lib.hid (Bw.trans hb89 hs3)
 have HR310 := Lib.hid (HR3.out.up hs3)
 have hl8 := HB3.out.lt
 have hz89 := hb89.size
 have hlt8b : w8.heap.size ≤ g8 := by omega
 have hA3 : ∀ ad, A3 = some ad → ad.block < g8 := fun ad e => by
  have := (Scr.Ok.of (s := (svS s).gr A3 n3 c3) (w := w9) (svS_ok (s := s) HSX.out) HR3.out hn3 hc3 HGB.out).1.lt ad e
  omega
 have HOK3 := Lib.hid (Scr.Ok.of (s := (svS s).gr A3 n3 c3) (svS_ok (s := s) HSX.out) HR310.out hn3 hc3 HGB.out)
 clear HR3 hb89 hs3 hg8 hz89
 -- c: to the first row and column
 go_upto_region 8 with (first
  | ((with_reducible refine wpList_load_sc ((svS s).gr A3 n3 c3) g8 (.tmp 8) rfl rfl ?_ ?_ ?_); (focus rfl); (focus (exact HB3.out)))
  | (go_at_call 10; refine (sapply_H w10.heap.size 0 2 ((svS s).gr A3 n3 c3) (hmS ((svS s).gr A3 n3 c3)) cs cs 0 false _ (HOK3.out.up BWX) (HR310.out.up BWX) rfl ⟨CELX, CELX⟩ (fun g w1 h h2 => cvsequence_H _ false cs _ 0 2 g w1 h (svS_ok (s := s) HSX.out) h2)).mono ?_; rintro ee w11 ⟨A4, n4, c4, L4, k4, rfl, hr4, hn4, hc4, hA4, hb4⟩; have HR4 := Lib.hid hr4; have HA4 := Lib.hid hA4; have hb1011 : Bw w10 w11 := Bw.trans (show Bw w10 _ from BWX) hb4; have hsz10 := (show Bw w10 _ from BWX).size; have HX4 := Lib.hid (HB3.out.up hb1011); clear hr4 hb4 hA4)
  | ((with_reducible refine wpList_store_sc ((hmS ((svS s).gr A3 n3 c3)).gr A4 n4 c4) g8 (.tmp 8) (.tmp 44) rfl rfl ?_ ?_ ?_ ?_); (focus rfl); (focus rfl); (focus (exact ⟨_, HX4.out, rfl⟩)); intro w12 hS4 hg4; have HB4 := Lib.hid hS4; have HG4 := Lib.hid hg4; clear hS4 hg4)
  | fail)
 have hz1011 := hb1011.size
 have hA4 : ∀ ad, A4 = some ad → some ad.block ≠ some g8 := fun ad e e2 => by
  have e3 := Option.some.inj e2
  rcases HA4.out with h | h
  ·have := hA3 ad (Eq.trans (Eq.symm (show A4 = A3 from h)) e); omega
  ·have := h ad e; (try simp only [szA, szS, szD, szN] at this); omega
 have HR412 := Lib.hid (HR4.out.far HG4.out hA4)
 have HOK4 := Lib.hid (Scr.Ok.of (s := (hmS ((svS s).gr A3 n3 c3)).gr A4 n4 c4) (hmS_ok (s := (svS s).gr A3 n3 c3) (svS_ok (s := s) HSX.out)) HR412.out hn4 hc4 HGB.out)
 have HBo12 := Lib.hid (show Bw w8 w12 from Bw.grown (Bw.trans HB810.out hb1011) HG4.out (fun k hk => by cases hk; omega))
 have hl12 := HB4.out.lt
 clear HR4 HX4 HB3 hb1011
 -- c: restore
 go_upto_region 9 with (first
  | ((with_reducible refine wpList_load_sc ((hmS ((svS s).gr A3 n3 c3)).gr A4 n4 c4) g8 (.tmp 8) rfl rfl ?_ ?_ ?_); (focus rfl); (focus (exact HB4.out)))
  | (go_at_call 10; refine (sapply_gen 3 56 0 none 0 0 27 ((hmS ((svS s).gr A3 n3 c3)).gr A4 n4 c4) (rsS ((hmS ((svS s).gr A3 n3 c3)).gr A4 n4 c4)) cs cs 0 false _ (HOK4.out.up BWX) (HR412.out.up BWX) rfl (.inr (.inr ⟨rfl, rfl⟩)) (fun g w1 h => cvescape_56 _ false cs g w1 h)).mono ?_; rintro ee w13 ⟨A5, n5, c5, L5, k5, rfl, -, -, -, -, hb5⟩; have hb1213 : Bw w12 w13 := Bw.trans (show Bw w12 _ from BWX) hb5; have HX5 := Lib.hid (HB4.out.up hb1213); clear hb5)
  | ((with_reducible refine wpList_store_sc ((rsS ((hmS ((svS s).gr A3 n3 c3)).gr A4 n4 c4)).gr A5 n5 c5) g8 (.tmp 8) (.tmp 50) rfl rfl ?_ ?_ ?_ ?_); (focus rfl); (focus rfl); (focus (exact ⟨_, HX5.out, rfl⟩)); intro w14 hS5 hg5; have HB5 := Lib.hid hS5; have HG5 := Lib.hid hg5; clear hS5 hg5)
  | fail)
 have HBo := Lib.hid (show Bw w8 w14 from Bw.grown (Bw.trans HBo12.out hb1213) HG5.out (fun k hk => by cases hk; omega))
 have HB414 := Lib.hid (Bw.trans HB48.out HBo.out)
 have H3 := Lib.hid (HS8.out.up HBo.out)
 have H4 := Lib.hid (HB1.out.up (Bw.trans HB68.out HBo.out))
 have H6 := Lib.hid (HB2.out.up HBo.out)
 have HRa := Lib.hid (HR16.out.up (Bw.trans HB68.out HBo.out))
 have HRb := Lib.hid (HR28.out.up HBo.out)
 have HRs := Lib.hid (HRS.out.up HB414.out)
 have hl3 := H3.out.lt
 have hl4 := H4.out.lt
 have hl6 := H6.out.lt
 have hl8' := HB5.out.lt
 clear HB4 HX5 HR412 HOK4 HBo12 HB1 HB2 HR16 HR28 HS6 HS8 hb1213 HG4 HG5
 have x0 := H3.out.cell 0 (v := .int .i64 (s.Rn : Int)) rfl
 have x1 := H3.out.cell 1 (v := .int .i64 (s.Cn : Int)) rfl
 have x2 := H3.out.cell 2 (v := .slice s.A s.n s.c) rfl
 have x3 := H3.out.cell 3 (v := .int .i64 s.row) rfl
 have x4 := H3.out.cell 4 (v := .int .i64 s.col) rfl
 have x5 := H3.out.cell 5 (v := .bool s.wrap) rfl
 have x6 := H3.out.cell 6 (v := .int .i64 s.f) rfl
 have x7 := H3.out.cell 7 (v := .int .i64 s.g) rfl
 have x8 := H3.out.cell 8 (v := .int .i64 s.b) rfl
 have y0 := H6.out.cell 0 (v := .int .i64 (s.Rn : Int)) rfl
 have y1 := H6.out.cell 1 (v := .int .i64 (s.Cn : Int)) rfl
 have y2 := H6.out.cell 2 (v := .slice A2 n2 c2) rfl
 have y3 := H6.out.cell 3 (v := .int .i64 s.row) rfl
 have y4 := H6.out.cell 4 (v := .int .i64 s.col) rfl
 have u3 := HB5.out.cell 3 (v := .int .i64 s.row) rfl
 have u4 := HB5.out.cell 4 (v := .int .i64 s.col) rfl
 have u5 := HB5.out.cell 5 (v := .bool s.wrap) rfl
 have u6 := HB5.out.cell 6 (v := .int .i64 s.f) rfl
 have u7 := HB5.out.cell 7 (v := .int .i64 s.g) rfl
 have u8 := HB5.out.cell 8 (v := .int .i64 s.b) rfl
 have HCK := Lib.hid (show clamp (s.Rn : Int) 30 = s.Rn ∧ clamp (s.Cn : Int) 100 = s.Cn from ⟨clamp_inS (by have := HSX.out.1; omega) (by have := HSX.out.1; omega), clamp_inS (by have := HSX.out.1; omega) (by have := HSX.out.1; omega)⟩)
 dsimp only [List.append]
 have HY := Lib.hid (show ∀ w', Bw w14 w' → (w'.cell? ⟨gs, 0, none⟩ = some (.int .i64 (s.Rn : Int)) ∧ w'.cell? ⟨gs, 1, none⟩ = some (.int .i64 (s.Cn : Int)) ∧ w'.cell? ⟨gs, 2, none⟩ = some (.slice s.A s.n s.c) ∧ w'.cell? ⟨gs, 3, none⟩ = some (.int .i64 s.row) ∧ w'.cell? ⟨gs, 4, none⟩ = some (.int .i64 s.col) ∧ w'.cell? ⟨gs, 5, none⟩ = some (.bool s.wrap) ∧ w'.cell? ⟨gs, 6, none⟩ = some (.int .i64 s.f) ∧ w'.cell? ⟨gs, 7, none⟩ = some (.int .i64 s.g) ∧ w'.cell? ⟨gs, 8, none⟩ = some (.int .i64 s.b) ∧ w'.cell? ⟨g6, 0, none⟩ = some (.int .i64 (s.Rn : Int)) ∧ w'.cell? ⟨g6, 1, none⟩ = some (.int .i64 (s.Cn : Int)) ∧ w'.cell? ⟨g6, 2, none⟩ = some (.slice A2 n2 c2) ∧ w'.cell? ⟨g6, 3, none⟩ = some (.int .i64 s.row) ∧ w'.cell? ⟨g6, 4, none⟩ = some (.int .i64 s.col) ∧ w'.cell? ⟨g8, 3, none⟩ = some (.int .i64 s.row) ∧ w'.cell? ⟨g8, 4, none⟩ = some (.int .i64 s.col) ∧ w'.cell? ⟨g8, 5, none⟩ = some (.bool s.wrap) ∧ w'.cell? ⟨g8, 6, none⟩ = some (.int .i64 s.f) ∧ w'.cell? ⟨g8, 7, none⟩ = some (.int .i64 s.g) ∧ w'.cell? ⟨g8, 8, none⟩ = some (.int .i64 s.b) ∧ Sb w' g4 ((newSc s.Rn s.Cn s.A s.n s.c).gr A1 n1 c1).vals.toArray 34) from fun w' hb => ⟨(H3.out.up hb).cell 0 rfl, (H3.out.up hb).cell 1 rfl, (H3.out.up hb).cell 2 rfl, (H3.out.up hb).cell 3 rfl, (H3.out.up hb).cell 4 rfl, (H3.out.up hb).cell 5 rfl, (H3.out.up hb).cell 6 rfl, (H3.out.up hb).cell 7 rfl, (H3.out.up hb).cell 8 rfl, (H6.out.up hb).cell 0 rfl, (H6.out.up hb).cell 1 rfl, (H6.out.up hb).cell 2 rfl, (H6.out.up hb).cell 3 rfl, (H6.out.up hb).cell 4 rfl, (HB5.out.up hb).cell 3 rfl, (HB5.out.up hb).cell 4 rfl, (HB5.out.up hb).cell 5 rfl, (HB5.out.up hb).cell 6 rfl, (HB5.out.up hb).cell 7 rfl, (HB5.out.up hb).cell 8 rfl, H4.out.up hb⟩)
 refine wp_region_held_drew (S := (fun w' => w'.cell? ⟨gs, 0, none⟩ = some (.int .i64 (s.Rn : Int)) ∧ w'.cell? ⟨gs, 1, none⟩ = some (.int .i64 (s.Cn : Int)) ∧ w'.cell? ⟨gs, 2, none⟩ = some (.slice s.A s.n s.c) ∧ w'.cell? ⟨gs, 3, none⟩ = some (.int .i64 s.row) ∧ w'.cell? ⟨gs, 4, none⟩ = some (.int .i64 s.col) ∧ w'.cell? ⟨gs, 5, none⟩ = some (.bool s.wrap) ∧ w'.cell? ⟨gs, 6, none⟩ = some (.int .i64 s.f) ∧ w'.cell? ⟨gs, 7, none⟩ = some (.int .i64 s.g) ∧ w'.cell? ⟨gs, 8, none⟩ = some (.int .i64 s.b) ∧ w'.cell? ⟨g6, 0, none⟩ = some (.int .i64 (s.Rn : Int)) ∧ w'.cell? ⟨g6, 1, none⟩ = some (.int .i64 (s.Cn : Int)) ∧ w'.cell? ⟨g6, 2, none⟩ = some (.slice A2 n2 c2) ∧ w'.cell? ⟨g6, 3, none⟩ = some (.int .i64 s.row) ∧ w'.cell? ⟨g6, 4, none⟩ = some (.int .i64 s.col) ∧ w'.cell? ⟨g8, 3, none⟩ = some (.int .i64 s.row) ∧ w'.cell? ⟨g8, 4, none⟩ = some (.int .i64 s.col) ∧ w'.cell? ⟨g8, 5, none⟩ = some (.bool s.wrap) ∧ w'.cell? ⟨g8, 6, none⟩ = some (.int .i64 s.f) ∧ w'.cell? ⟨g8, 7, none⟩ = some (.int .i64 s.g) ∧ w'.cell? ⟨g8, 8, none⟩ = some (.int .i64 s.b) ∧ Sb w' g4 ((newSc s.Rn s.Cn s.A s.n s.c).gr A1 n1 c1).vals.toArray 34)) (by kernel_rfl) ?_ (fun hHeld => ?_)
 ·(try dsimp only); (refine HY.out _ ?_; exact BWX)
 refine wpAnyH_take (i := 0) (v := .agg ((newSc s.Rn s.Cn s.A s.n s.c).gr A1 n1 c1).vals.toArray) rfl (by kernel_rfl) (by kernel_rfl) (by kernel_rfl) (fun _ _ _ h => h) (yieldsIf_load_mid (by rfl) 34 (.tmp 4) rfl g4 0 rfl ((newSc s.Rn s.Cn s.A s.n s.c).gr A1 n1 c1).vals _ (fun w' h => scRange h.2.2.2.2.2.2.2.2.2.2.2.2.2.2.2.2.2.2.2.2) Tryz.underlying34 rfl infoSc) (by assumption) ?_
 (try simp only [Act.put, zP1, zP2, zP3, zP4, zP5, zP6])
 refine tkQ 1 ?_
 refine tkQ 2 ?_
 refine tkQ 3 ?_
 (try simp only [Act.put, zP1, zP2, zP3, zP4, zP5, zP6])
 refine tkQ 4 ?_
 refine tkQ 5 ?_
 refine tkQ 6 ?_
 (try simp only [Act.put, zP1, zP2, zP3, zP4, zP5, zP6])
 refine wpAnyH_ready (rs := [7]) (by kernel_rfl) (by simp) ?_
 refine AllReadyH.cons rfl (fun K hK => ?_) ?_
 ·go_simp
  refine (snew_any s.Rn s.Cn s.Rn s.Cn _ HCK.out.1 HCK.out.2).mono ?_; rintro ee w15 ⟨A6, n6, c6, rfl, hr6, hn6, hc6, -, hb6⟩; have HR6 := Lib.hid hr6; have hb1415 : Bw w14 w15 := Bw.trans (show Bw w14 _ from BWX) hb6; clear hr6 hb6; go_wp2_with fail
  refine hK.out _ _ ?_ (fun hHeld => ?_)
  ·(try dsimp only); (refine HY.out _ ?_; exact BWX)
  clear hK K
  (try simp only [Act.put, zP1, zP2, zP3, zP4, zP5, zP6])
  refine wpAnyH_ready (rs := [8]) (by kernel_rfl) (by simp) ?_
  refine AllReadyH.cons rfl (fun K hK => ?_) ?_
  ·go_simp
   refine (rsameS_any (newSc s.Rn s.Cn s.A s.n s.c) A1 A6 n1 c1 n6 c6 (List.replicate (s.Rn * s.Cn) blk) _ (HRa.out.up (Bw.trans hb1415 BWX)) hn1 hc1 (HR6.out.up BWX) hn6 hc6).mono ?_; rintro ee w16 ⟨rfl, hb7⟩; have hb1416 : Bw w14 w16 := Bw.trans hb1415 (Bw.trans (show Bw w15 _ from BWX) hb7); clear hb7; go_wp2_with fail
   refine hK.out _ _ ?_ (fun hHeld => ?_)
   ·(try dsimp only); (refine HY.out _ ?_; exact BWX)
   clear hK K
   (try simp only [Act.put, zP1, zP2, zP3, zP4, zP5, zP6])
   refine tkQ 9 ?_
   refine tkQ 10 ?_
   refine tkQ 11 ?_
   (try simp only [Act.put, zP1, zP2, zP3, zP4, zP5, zP6])
   refine tkQ 12 ?_
   refine tkQ 13 ?_
   refine tkQ 14 ?_
   (try simp only [Act.put, zP1, zP2, zP3, zP4, zP5, zP6])
   refine tkQ 15 ?_
   refine tkQ 16 ?_
   refine tkQ 17 ?_
   (try simp only [Act.put, zP1, zP2, zP3, zP4, zP5, zP6])
   refine tkQ 18 ?_
   refine tkQ 19 ?_
   refine tkQ 20 ?_
   (try simp only [Act.put, zP1, zP2, zP3, zP4, zP5, zP6])
   refine tkQ 21 ?_
   refine tkQ 22 ?_
   refine tkQ 23 ?_
   (try simp only [Act.put, zP1, zP2, zP3, zP4, zP5, zP6])
   refine tkQ 24 ?_
   refine tkQ 25 ?_
   refine tkQ 26 ?_
   (try simp only [Act.put, zP1, zP2, zP3, zP4, zP5, zP6])
   refine tkQ 27 ?_
   refine tkQ 28 ?_
   refine tkQ 29 ?_
   (try simp only [Act.put, zP1, zP2, zP3, zP4, zP5, zP6])
   refine tkQ 30 ?_
   refine tkQ 31 ?_
   refine tkQ 32 ?_
   (try simp only [Act.put, zP1, zP2, zP3, zP4, zP5, zP6])
   refine tkQ 33 ?_
   refine tkQ 34 ?_
   refine tkQ 35 ?_
   (try simp only [Act.put, zP1, zP2, zP3, zP4, zP5, zP6])
   refine tkQ 36 ?_
   refine tkQ 37 ?_
   refine tkQ 38 ?_
   (try simp only [Act.put, zP1, zP2, zP3, zP4, zP5, zP6])
   refine tkQ 39 ?_
   refine tkQ 40 ?_
   refine tkQ 41 ?_
   (try simp only [Act.put, zP1, zP2, zP3, zP4, zP5, zP6])
   refine tkQ 42 ?_
   refine tkQ 43 ?_
   refine tkQ 44 ?_
   (try simp only [Act.put, zP1, zP2, zP3, zP4, zP5, zP6])
   refine tkQ 45 ?_
   refine tkQ 46 ?_
   refine tkQ 47 ?_
   (try simp only [Act.put, zP1, zP2, zP3, zP4, zP5, zP6])
   refine tkQ 48 ?_
   (try simp only [Act.put, zP1, zP2, zP3, zP4, zP5, zP6])
   refine wpAnyH_ready (rs := [49]) (by kernel_rfl) (by simp) ?_
   refine AllReadyH.cons rfl (fun K hK => ?_) ?_
   ·go_simp
    refine (rsameS_any (zeroS s.Rn s.Cn) A2 s.A n2 c2 s.n s.c cs _ (HRb.out.up (Bw.trans hb1416 BWX)) hn2 hc2 (HRs.out.up (Bw.trans hb1416 BWX)) knc kcm).mono ?_; rintro ee w17 ⟨rfl, hb8⟩; have hb1417 : Bw w14 w17 := Bw.trans hb1416 (Bw.trans (show Bw w16 _ from BWX) hb8); clear hb8; go_wp2_with fail
    refine hK.out _ _ ?_ (fun hHeld => ?_)
    ·(try dsimp only); (refine HY.out _ ?_; exact BWX)
    clear hK K
    (try simp only [Act.put, zP1, zP2, zP3, zP4, zP5, zP6])
    refine tkQ 50 ?_
    refine tkQ 51 ?_
    (try simp only [Act.put, zP1, zP2, zP3, zP4, zP5, zP6])
    refine tkQ 52 ?_
    refine tkQ 53 ?_
    refine tkQ 54 ?_
    (try simp only [Act.put, zP1, zP2, zP3, zP4, zP5, zP6])
    refine tkQ 55 ?_
    refine tkQ 56 ?_
    refine tkQ 57 ?_
    (try simp only [Act.put, zP1, zP2, zP3, zP4, zP5, zP6])
    refine tkQ 58 ?_
    refine tkQ 59 ?_
    refine tkQ 60 ?_
    (try simp only [Act.put, zP1, zP2, zP3, zP4, zP5, zP6])
    refine tkQ 61 ?_
    refine tkQ 62 ?_
    refine tkQ 63 ?_
    (try simp only [Act.put, zP1, zP2, zP3, zP4, zP5, zP6])
    refine tkQ 64 ?_
    (try simp only [Act.put, zP1, zP2, zP3, zP4, zP5, zP6])
    refine wpAnyH_ready (rs := [65]) (by kernel_rfl) (by simp) ?_
    refine AllReadyH.cons rfl (fun K hK => ?_) ?_
    ·go_simp
     refine hK.out _ _ ?_ (fun hHeld => ?_)
     ·(try dsimp only); (refine HY.out _ ?_; exact BWX)
     clear hK K
     (try simp only [Act.put, zP1, zP2, zP3, zP4, zP5, zP6])
     refine wpAnyH_done (by kernel_rfl) ?_ _
     go_wp2_with fail
     go_ret
     exact ⟨by first | rfl | simp, Bw.trans HBW.out (Bw.trans HB414.out (Bw.trans hb1417 BWX))⟩
    exact AllReadyH.nil
   exact AllReadyH.nil
  exact AllReadyH.nil
 exact AllReadyH.nil
end Go.Proofs.YtkflooljdopldaaGreat
