/- Parts of the proof, one after the other. -/
import Derived.Test.YtkflooljdopldaaGreatS35
import Derived.Test.YtkflooljdopldaaGreatS33
import Derived.Test.YtkflooljdopldaaGreatS27
import Derived.Test.YtkflooljdopldaaGreatS03
import Derived.Test.YtkflooljdopldaaGreatS28
import Derived.Deep.RegionHeld3
set_option linter.unusedSimpArgs false
set_option linter.unusedVariables false
/- The law ScreenMargins. -/
namespace Go.Proofs.YtkflooljdopldaaGreat
open Go.RowKit

theorem field_tx (t : Trm) (w : World) : (Instr.field 42 (.agg t.vals.toArray) 0).run Tryz.prog w = .ok (.agg t.s.vals.toArray) w := by
 cases t
 kernel_rfl
theorem wpList_fieldX {P : Program} {w : World} {ops : Array Oper} {rest : List Oper} {o : Oper} {a : Act} {Q : Exit → Act → World → Prop} (T : TypeId) (i : Nat) (x : Operand) (v r : Value) (ho : o.op = .field T x i) (hgd : o.guard = none)
  (hx : a.eval x = v) (hrun : (Instr.field T v i).run P w = .ok r w) (h : wpList P ops Q rest (a.put o.dst r) w) : wpList P ops Q (o :: rest) a w := by
 refine wpList_plain hgd fun K hK => ?_
 unfold Oper.wp
 unfold execOp
 simp only [ho, hx, Sem.run_bind, Sem.run_pure, hrun, Result.andThen_ok]
 exact hK _ _ h
theorem scroll_at {Rn Cn : Nat} {cs : List C4} {tp bt nn : Int} {d : C4} (h : gridB Rn Cn cs = true) (i : Nat) (hi : i < Rn * Cn) (ho : ((i / Cn : Nat) : Int) < tp ∨ bt < ((i / Cn : Nat) : Int)) : (scrollG Rn Cn cs tp bt nn d)[i]? = cs[i]? := by
 have hC : 0 < Cn := by have := (gridB_dim h).2.2.1; omega
 have hl : cs.length = Rn * Cn := by have h5 := (gridB_dim h).2.2.2.2; rw [← Int.natCast_mul] at h5; omega
 have hi2 : i / Cn * Cn + i % Cn = i := by rw [Nat.mul_comm]; exact Nat.div_add_mod i Cn
 have hm : i % Cn < Cn := Nat.mod_lt _ hC
 have hq : i / Cn < Rn := Nat.div_lt_of_lt_mul (by rw [Nat.mul_comm]; exact hi)
 unfold scrollG
 split
 ·rw [Int.toNat_natCast, Int.toNat_natCast, List.getElem?_eq_getElem (by rw [tab_len]; exact hi), tab_get]
  unfold scrollF
  rw [if_neg (by omega)]
  unfold atF
  rw [if_pos ⟨Int.natCast_nonneg _, Int.ofNat_lt.2 hq, Int.natCast_nonneg _, Int.ofNat_lt.2 hm⟩, Int.toNat_natCast, Int.toNat_natCast, hi2, List.getD_eq_getElem?_getD, List.getElem?_eq_getElem (by rw [hl]; exact hi)]
  rfl
 ·rfl
/-- Nothing has changed outside of the margins, and not more rows went away than lie within them. -/
def Mg (s s' : Scr) (cs cs' : List C4) (m : Nat) : Prop := ScX s' ∧ s'.Rn = s.Rn ∧ s'.Cn = s.Cn ∧ gridB s.Rn s.Cn cs' = true ∧ (m : Int) ≤ s.bot - s.top + 1 ∧ ∀ i, i < s.Rn * s.Cn → (((i / s.Cn : Nat) : Int) < s.top ∨ s.bot < ((i / s.Cn : Nat) : Int)) → cs'[i]? = cs[i]?
theorem lostN_mg {s : Scr} {nn : Int} (h : ScX s) : (lostN s nn : Int) ≤ s.bot - s.top + 1 := by
 obtain ⟨-, -, -, ⟨h1, h2, h3⟩, -, -⟩ := h
 unfold lostN; split <;> omega
theorem mg_feed {s : Scr} {cs : List C4} (h : ScX s) (hg : gridB s.Rn s.Cn cs = true) : Mg s (fdS s) cs (fdC s cs) (fdN s 0) := by
 have hm := h.2.2.2.1
 refine ⟨fdS_ok h, (fdS_nums s).1, (fdS_nums s).2.1, fdC_ok hg, ?_, fun i hi ho => ?_⟩
 ·unfold fdN; split
  ·exact lostN_mg h
  ·omega
 ·unfold fdC; split
  ·exact scroll_at hg i hi ho
  ·rfl
theorem bkS_ok {s : Scr} (h : ScX s) : ScX (bkS s) := by
 obtain ⟨h1, ⟨h2, h3, h4, h5⟩, h6⟩ := h
 unfold bkS; split
 ·exact ⟨h1, ⟨h2, h3, h4, h5⟩, h6⟩
 ·refine ⟨h1, ⟨?_, ?_, h4, h5⟩, h6⟩
  ·show (0 : Int) ≤ (if s.row - 1 < 0 then 0 else s.row - 1); split <;> omega
  ·show (if s.row - 1 < 0 then 0 else s.row - 1) < (s.Rn : Int); split <;> omega
theorem bkS_nums (s : Scr) : (bkS s).Rn = s.Rn ∧ (bkS s).Cn = s.Cn ∧ (bkS s).A = s.A := by unfold bkS; split <;> exact ⟨rfl, rfl, rfl⟩
theorem mg_back {s : Scr} {cs : List C4} (h : ScX s) (hg : gridB s.Rn s.Cn cs = true) : Mg s (bkS s) cs (bkC s cs) 0 := by
 have hm := h.2.2.2.1
 refine ⟨bkS_ok h, (bkS_nums s).1, (bkS_nums s).2.1, ?_, by omega, fun i hi ho => ?_⟩
 ·unfold bkC; split
  ·exact scrollG_ok hg
  ·exact hg
 ·unfold bkC; split
  ·exact scroll_at hg i hi ho
  ·rfl
theorem lmS_ok {s : Scr} (h : ScX s) : ScX (lmS s) := by
 unfold lmS; split
 ·obtain ⟨h1, h2, h3, h4, h5⟩ := h
  exact ⟨h1, mv_bd h2 h4, h3, h4, h5⟩
 ·exact h
theorem lmS_nums (s : Scr) : (lmS s).Rn = s.Rn ∧ (lmS s).Cn = s.Cn ∧ (lmS s).A = s.A := by unfold lmS; split <;> exact ⟨rfl, rfl, rfl⟩
theorem edS_nums (s : Scr) (cd : Int) : (edS s cd).Rn = s.Rn ∧ (edS s cd).Cn = s.Cn ∧ (edS s cd).A = s.A := by
 unfold edS; split
 ·exact lmS_nums s
 ·exact ⟨rfl, rfl, rfl⟩
theorem mg_edit {s : Scr} {cs : List C4} {cd n : Int} (h : ScX s) (hg : gridB s.Rn s.Cn cs = true) : Mg s (edS s cd) cs (edC s cs cd n) (edN s cd n) := by
 have hm := h.2.2.2.1
 refine ⟨?_, (edS_nums s cd).1, (edS_nums s cd).2.1, ?_, ?_, fun i hi ho => ?_⟩
 ·unfold edS; split
  ·exact lmS_ok h
  ·exact h
 ·unfold edC lmC
  repeat' split
  all_goals first | exact scrollG_ok hg | exact hg
 ·unfold edN; split
  ·exact lostN_mg h
  ·omega
 ·unfold edC
  split
  ·exact scroll_at hg i hi ho
  split
  ·exact scroll_at hg i hi ho
  unfold lmC
  split
  ·rename_i h3
   have h4 := of_decide_eq_true h3
   exact scroll_at hg i hi (by omega)
  ·rfl
/-- One of the law's operations. -/
def OpK (w : World) (kd nm : Int) (PA : Option Addr) (pn pc : Nat) (x : Int) : Prop :=
 (kd = 2 ∧ nm = 10 ∧ PA = none ∧ pn = 0 ∧ pc = 0) ∨ (kd = 3 ∧ nm = 77 ∧ PA = none ∧ pn = 0 ∧ pc = 0) ∨ (kd = 4 ∧ still4 nm ∧ pn = 1 ∧ pc = 1 ∧ ∃ b o, PA = some ⟨b, o, none⟩ ∧ w.cell? ⟨b, o, none⟩ = some (.int .i64 x))
theorem OpK.up {w w' : World} {kd nm x : Int} {PA : Option Addr} {pn pc : Nat} (h : OpK w kd nm PA pn pc x) (hb : Bw w w') : OpK w' kd nm PA pn pc x := by
 rcases h with h | h | ⟨h1, h2, h3, h4, b, o, h5, h6⟩
 ·exact .inl h
 ·exact .inr (.inl h)
 ·exact .inr (.inr ⟨h1, h2, h3, h4, b, o, h5, cell_up h6 hb⟩)
theorem sapply_op (kd nm x : Int) (PA : Option Addr) (pn pc : Nat) (s : Scr) (cs : List C4) (w : World) (hs : s.Ok w) (hr : Rg w s.A s.n cs) (hg : gridB s.Rn s.Cn cs = true) (hx0 : 0 ≤ x) (hx1 : x ≤ 9999) (h : OpK w kd nm PA pn pc x) :
  Calls Tryz.prog 10 #[.agg s.vals.toArray, .agg #[.int .i64 kd, .int .i64 nm, .int .i64 0, .slice PA pn pc]] w fun e w' => ∃ s' cs' m, Mg s s' cs cs' m ∧ ApP w s.A s' cs' m e w' := by
 rcases h with ⟨rfl, rfl, rfl, rfl, rfl⟩ | ⟨rfl, rfl, rfl, rfl, rfl⟩ | ⟨rfl, h2, rfl, rfl, b, o, rfl, h6⟩
 ·exact (sapply_10 s cs w hs hr).mono fun e w' h => ⟨_, _, _, mg_feed hs.num hg, h⟩
 ·exact (sapply_gen 3 77 0 none 0 0 27 s (bkS s) cs (bkC s cs) 0 (bkF s false) w hs hr (bkS_nums s).2.2 (.inr (.inr ⟨rfl, rfl⟩)) (fun g w1 h => cvescape_77 s false cs g w1 h hs.num)).mono fun e w' h => ⟨_, _, _, mg_back hs.num hg, h⟩
 ·exact (sapply_csi nm x b o 1 s (edS s nm) cs (edC s cs nm (if x < 1 then 1 else x)) (edN s nm (if x < 1 then 1 else x)) (edF s false nm) w hs hr (edS_nums s nm).2.2 hx0 hx1 h6 (fun g w1 h hc => cvsequence_any s false cs nm x _ b o 1 g w1 h hs.num h2 hx0 hx1 rfl hc)).mono fun e w' h => ⟨_, _, _, mg_edit hs.num hg, h⟩
/-- The law's operation k, in a literal's block. -/
def OpAt (w : World) (g k : Nat) (x : Int) : Prop := ∃ (kd nm : Int) (PA : Option Addr) (pn pc : Nat), w.cell? ⟨g, k * 4, none⟩ = some (.int .i64 kd) ∧ w.cell? ⟨g, k * 4 + 1, none⟩ = some (.int .i64 nm) ∧ w.cell? ⟨g, k * 4 + 2, none⟩ = some (.int .i64 0) ∧ w.cell? ⟨g, k * 4 + 3, none⟩ = some (.slice PA pn pc) ∧ OpK w kd nm PA pn pc x
theorem OpAt.up {w w' : World} {g k : Nat} {x : Int} (h : OpAt w g k x) (hb : Bw w w') : OpAt w' g k x := by
 obtain ⟨kd, nm, PA, pn, pc, h0, h1, h2, h3, h4⟩ := h
 exact ⟨kd, nm, PA, pn, pc, cell_up h0 hb, cell_up h1 hb, cell_up h2 hb, cell_up h3 hb, h4.up hb⟩

set_option maxRecDepth 100000 in
set_option maxHeartbeats 1000000 in
theorem margins18_any (A : Option Addr) (n c : Nat) (xs : List Int) (nn : Int) (w : World) (hr : RdI w A n xs) (hA : 0 < n → ∀ ad, A = some ad → ad.block < w.heap.size) (hn : n ≤ 9223372036854775807) :
  Calls Tryz.prog 4 #[.slice A n c, .int .i64 nn] w fun e w' => e = .returned (.bool true) ∧ Bw w w' := by
 have HR := Lib.hid hr
 have HA := Lib.hid hA
 clear hr hA
 go_enter Tryz.func4, Tryz.ntmps4
 go_upto_region 3 with (first
  | (go_at_call 7; refine (sane18_any _).mono ?_; rintro ee w1 ⟨rfl, hb1⟩; have HB1 := Lib.hid hb1; clear hb1)
  | fail)
 go_upto_region 4 with (first
  | (go_at_call 9; refine (mnew_any A n c _).mono ?_; rintro ee wn ⟨rfl, rfl⟩)
  | (go_at_call 8; refine (mterm_dk w1.heap.size A n c xs _ (Dk2.made (HR.out.up HA.out HB1.out) (fun h0 ad e => by have := HA.out h0 ad e; have := HB1.out.size; omega) hn)).mono ?_; rintro ee w3 ⟨t, rfl, ht, ⟨t1, t2, t3, t4⟩, -, -, hg3⟩; have HOK3 := Lib.hid ht.1; have hb13 : Bw w1 w3 := Bw.grown (Bw.alloc (Bw.refl _) _) hg3 (fun k hk => by cases hk; omega); clear ht hg3)
  | ((with_reducible refine wpList_fieldX 42 0 (.tmp 17) (.agg t.vals.toArray) (.agg t.s.vals.toArray) rfl rfl ?_ (field_tx t _) ?_); (focus rfl))
  | ((with_reducible refine wpList_store_sc t.s w3.heap.size (.tmp 5) (.tmp 18) rfl rfl ?_ ?_ ?_ ?_); (focus rfl); (focus rfl); (focus (exact ⟨_, heap_at (by simp), rfl⟩)); intro w4 hS4 hg4; have HS4 := Lib.hid hS4; have hb34 : Bw w3 w4 := Bw.grown (show Bw w3 _ from BWX) hg4 (fun j hj => by cases hj; omega); clear hS4 hg4)
  | fail)
 have HOK := Lib.hid (HOK3.out.up hb34)
 have HBW := Lib.hid (Bw.trans HB1.out (Bw.trans hb13 hb34))
 obtain ⟨s, hs⟩ : ∃ s, s = t.s := ⟨_, rfl⟩
 rw [← hs] at HOK HS4 t1 t2 t3 t4
 obtain ⟨gs, hgs⟩ : ∃ gs, gs = w3.heap.size := ⟨_, rfl⟩
 have hltg := HS4.out.lt
 rw [← hgs] at HS4 hltg ⊢
 have hgw : w.heap.size ≤ gs := by have := HB1.out.size; have := hb13.size; omega
 have hslt : ∀ ad, s.A = some ad → ad.block < gs := fun ad e => by rw [hgs]; exact HOK3.out.1.lt ad (hs ▸ e)
 have HSL := Lib.hid hslt
 clear HOK3 hb13 hb34 HB1 hs hgs hslt
 obtain ⟨⟨-, -, -, -, -, knc, kcm, cs, kr, kg⟩, -⟩ := HOK.out
 have HRS := Lib.hid kr
 have HGB := Lib.hid kg
 have HSX := Lib.hid HOK.out.num
 clear kr kg
 have hm0 := Int.emod_nonneg nn (show (9 : Int) ≠ 0 by omega)
 have hm1 := Int.emod_lt_of_pos nn (show (0 : Int) < 9 by omega)
 obtain ⟨x, hx⟩ : ∃ x, nn % 9 = x := ⟨_, rfl⟩
 have HX := Lib.hid hx
 have hx0 : 0 ≤ x := by omega
 have hx1 : x ≤ 9999 := by omega
 clear hx hm0 hm1
 go_upto_region 5 with (first
  | (go_at_call 12; refine (mmod_any _ _ _ (by omega) (by omega)).mono ?_; rintro ee ww ⟨rfl, rfl⟩; rw [HX.out])
  | fail)
 generalize hwa : w4.alloc _ = wa
 obtain ⟨ha, hba, hza⟩ := sb1 hwa
 generalize hwb : wa.alloc _ = wb
 obtain ⟨hb, hbb, hzb⟩ := sb1 hwb
 generalize hwc : wb.alloc _ = wc1
 obtain ⟨hc, hbc, hzc⟩ := sb1 hwc
 generalize hwd : wc1.alloc _ = wd
 obtain ⟨hd, hbd, hzd⟩ := sb1 hwd
 generalize hw5 : wd.alloc _ = w5
 obtain ⟨he, hbe, hze⟩ := sb1 hw5
 have HB45 := Lib.hid (Bw.trans hba (Bw.trans hbb (Bw.trans hbc (Bw.trans hbd hbe))))
 have hPa := (ha.up (Bw.trans hbb (Bw.trans hbc (Bw.trans hbd hbe)))).cell 0 (v := .int .i64 x) rfl
 have hPb := (hb.up (Bw.trans hbc (Bw.trans hbd hbe))).cell 0 (v := .int .i64 x) rfl
 have hPc := (hc.up (Bw.trans hbd hbe)).cell 0 (v := .int .i64 x) rfl
 have hPd := (hd.up hbe).cell 0 (v := .int .i64 x) rfl
 have ez : wd.heap.size = w4.heap.size + 1 + 1 + 1 + 1 := by omega
 rw [ez] at he
 rw [hza] at hPb
 rw [hzb, hza] at hPc
 rw [hzc, hzb, hza] at hPd
 have O0 := Lib.hid (show OpAt w5 (w4.heap.size + 1 + 1 + 1 + 1) 0 x from ⟨_, _, _, _, _, he.cell 0 rfl, he.cell 1 rfl, he.cell 2 rfl, he.cell 3 rfl, .inl ⟨rfl, rfl, rfl, rfl, rfl⟩⟩)
 have O1 := Lib.hid (show OpAt w5 (w4.heap.size + 1 + 1 + 1 + 1) 1 x from ⟨_, _, _, _, _, he.cell 4 rfl, he.cell 5 rfl, he.cell 6 rfl, he.cell 7 rfl, .inr (.inl ⟨rfl, rfl, rfl, rfl, rfl⟩)⟩)
 have O2 := Lib.hid (show OpAt w5 (w4.heap.size + 1 + 1 + 1 + 1) 2 x from ⟨_, _, _, _, _, he.cell 8 rfl, he.cell 9 rfl, he.cell 10 rfl, he.cell 11 rfl, .inr (.inr ⟨rfl, .inl rfl, rfl, rfl, _, _, rfl, hPa⟩)⟩)
 have O3 := Lib.hid (show OpAt w5 (w4.heap.size + 1 + 1 + 1 + 1) 3 x from ⟨_, _, _, _, _, he.cell 12 rfl, he.cell 13 rfl, he.cell 14 rfl, he.cell 15 rfl, .inr (.inr ⟨rfl, .inr (.inl rfl), rfl, rfl, _, _, rfl, hPb⟩)⟩)
 have O4 := Lib.hid (show OpAt w5 (w4.heap.size + 1 + 1 + 1 + 1) 4 x from ⟨_, _, _, _, _, he.cell 16 rfl, he.cell 17 rfl, he.cell 18 rfl, he.cell 19 rfl, .inr (.inr ⟨rfl, .inr (.inr (.inl rfl)), rfl, rfl, _, _, rfl, hPc⟩)⟩)
 have O5 := Lib.hid (show OpAt w5 (w4.heap.size + 1 + 1 + 1 + 1) 5 x from ⟨_, _, _, _, _, he.cell 20 rfl, he.cell 21 rfl, he.cell 22 rfl, he.cell 23 rfl, .inr (.inr ⟨rfl, .inr (.inr (.inr rfl)), rfl, rfl, _, _, rfl, hPd⟩)⟩)
 obtain ⟨go, hgo⟩ : ∃ go, go = w4.heap.size + 1 + 1 + 1 + 1 := ⟨_, rfl⟩
 have hlto : go < w5.heap.size := by rw [hgo]; exact he.lt
 simp only [← hgo] at O0 O1 O2 O3 O4 O5 ⊢
 have HS5 := Lib.hid (HS4.out.up HB45.out)
 have HR5 := Lib.hid (HRS.out.up HB45.out)
 have HOK5 := Lib.hid (HOK.out.up HB45.out)
 have HBW5 := Lib.hid (Bw.trans HBW.out HB45.out)
 clear hwa ha hba hza hwb hb hbb hzb hwc hc hbc hzc hwd hd hbd hzd hw5 he hbe hze hPa hPb hPc hPd ez hgo HS4 HRS HOK HBW HB45 hltg
 go_wp2_with fail
 go_loopw [39] (fun i wr => ∃ k : Nat, i = .int .i64 (k : Int) ∧ k ≤ 6 ∧ Bw w5 wr) (fun i _ => 6 - (intOf i).toNat)
 case atStart => exact ⟨0, rfl, by omega, Bw.refl _⟩
 case round =>
  obtain ⟨wz, hwz⟩ : ∃ wz : World, wz = wr := ⟨_, rfl⟩
  subst hwz
  obtain ⟨k, rfl, hk, hbz⟩ := hrel
  have HBZ := Lib.hid hbz
  by_cases hlt : k < 6
  ·have hOA : OpAt wz go k x := by
    rcases (show k = 0 ∨ k = 1 ∨ k = 2 ∨ k = 3 ∨ k = 4 ∨ k = 5 by omega) with rfl | rfl | rfl | rfl | rfl | rfl
    ·exact O0.out.up hbz
    ·exact O1.out.up hbz
    ·exact O2.out.up hbz
    ·exact O3.out.up hbz
    ·exact O4.out.up hbz
    ·exact O5.out.up hbz
   obtain ⟨kd, nm, PA, pn, pc, h0, h1, h2, h3, hok⟩ := hOA
   have e1 : (0 : Int) ≤ k := by omega
   have e2 : (k : Int) < 6 := by omega
   have hgz : go < wz.heap.size := Nat.lt_of_lt_of_le hlto hbz.size
   clear hbz
   go_upto_region 7 with (fail)
   generalize hwx : wz.alloc (.cells #[.int .i64 kd, .int .i64 nm, .int .i64 0, .slice PA pn pc] 49) = wx
   obtain ⟨hbx, hbwx, hzx⟩ := sb1 hwx
   have HB5X := Lib.hid (Bw.trans HBZ.out hbwx)
   have y0 := hbx.cell 0 (v := .int .i64 kd) rfl
   have y1 := hbx.cell 1 (v := .int .i64 nm) rfl
   have y2 := hbx.cell 2 (v := .int .i64 0) rfl
   have y3 := hbx.cell 3 (v := .slice PA pn pc) rfl
   have HOKX := Lib.hid (hok.up hbwx)
   have HSX' := Lib.hid (HS5.out.up HB5X.out)
   have hltz := hbx.lt
   clear hwx hbx hzx h0 h1 h2 h3 hok hbwx
   go_upto_region 8 with (first
    | ((with_reducible refine wpList_load_sc s gs (.tmp 5) rfl rfl ?_ ?_ ?_); (focus rfl); (focus (exact HSX'.out)))
    | (go_at_call 10; refine (sapply_op kd nm x PA pn pc s cs _ (HOK5.out.up (Bw.trans HB5X.out BWX)) (HR5.out.up (Bw.trans HB5X.out BWX)) HGB.out hx0 hx1 (HOKX.out.up BWX)).mono ?_; rintro ee w6 ⟨s', cs', m, hmg, A1, n1, c1, L1, k1, rfl, hr1, hn1, hc1, -, hb1⟩; have HMG := Lib.hid hmg; have HR1 := Lib.hid hr1; have hbx6 : Bw wx w6 := Bw.trans (show Bw wx _ from BWX) hb1; clear hmg hr1 hb1)
    | ((with_reducible refine wpList_store_sc (s'.gr A1 n1 c1) w6.heap.size (.tmp 8) (.tmp 47) rfl rfl ?_ ?_ ?_ ?_); (focus rfl); (focus rfl); (focus (exact ⟨_, heap_at (by simp), rfl⟩)); intro w7 hS7 hg7; have HS7 := Lib.hid hS7; have hb67 : Bw w6 w7 := Bw.grown (show Bw w6 _ from BWX) hg7 (fun j hj => by cases hj; omega); clear hS7 hg7)
    | fail)
   obtain ⟨ga, hga⟩ : ∃ ga, ga = w6.heap.size := ⟨_, rfl⟩
   have hlta := HS7.out.lt
   rw [← hga] at HS7 hlta ⊢
   have HOK7 := Lib.hid (Scr.Ok.of (s := s'.gr A1 n1 c1) HMG.out.1 (HR1.out.up hb67) hn1 hc1 (by show gridB s'.Rn s'.Cn cs' = true; rw [HMG.out.2.1, HMG.out.2.2.1]; exact HMG.out.2.2.2.1))
   have hlen : n1 = s.n := by
    have h1 := HR1.out.1
    have h2 := HR5.out.1
    have h3 := (gridB_dim HMG.out.2.2.2.1).2.2.2.2
    have h4 := (gridB_dim HGB.out).2.2.2.2
    omega
   subst hlen
   have HR7 := Lib.hid (HR1.out.up hb67)
   have HB57 := Lib.hid (Bw.trans HB5X.out (Bw.trans hbx6 hb67))
   have HSS := Lib.hid (HS5.out.up HB57.out)
   have hlts := HSS.out.lt
   have x2 := HSS.out.cell 2 (v := .slice s.A s.n s.c) rfl
   have x9 := HSS.out.cell 9 (v := .int .i64 s.top) rfl
   have x10 := HSS.out.cell 10 (v := .int .i64 s.bot) rfl
   have a2 := HS7.out.cell 2 (v := .slice A1 s.n c1) rfl
   have hmle : (m : Int) ≤ s.bot - s.top + 1 := HMG.out.2.2.2.2.1
   have hb0 : 0 ≤ s.top := HSX.out.2.2.2.1.1
   have hb1 : s.top ≤ s.bot := HSX.out.2.2.2.1.2.1
   have hb2 : s.bot < 30 := by have h1 := HSX.out.2.2.2.1.2.2; have h2 := HSX.out.1.2.1; omega
   clear hga y0 y1 y2 y3 HSX' hbx6 hb67 HR1 HOKX
   go_cut [75] (fun v w' => v = .bool false ∧ Bw w7 w')
   case first =>
    go_wp2_with (first
     | ((with_reducible refine wpList_load_sc (s'.gr A1 s.n c1) ga (.tmp 8) rfl rfl ?_ ?_ ?_); (focus rfl); (focus (exact HS7.out)))
     | (go_at_call 11; refine (svalid_ok (s'.gr A1 s.n c1) _ (HOK7.out.up BWX)).mono ?_; rintro ee w8 ⟨rfl, hb8⟩; have hb78 : Bw w7 w8 := Bw.trans (show Bw w7 _ from BWX) hb8; clear hb8; have x2 := cell_up x2 hb78; have x9 := cell_up x9 hb78; have x10 := cell_up x10 hb78; have a2 := cell_up a2 hb78)
     | fail)
    go_meet
    case rel => exact ⟨by first | rfl | (congr 1; simp; omega), BWX⟩
   case rest =>
   obtain ⟨rfl, hbc⟩ := hcut
   obtain ⟨w9, hw9⟩ : ∃ w9 : World, w9 = wc := ⟨_, rfl⟩
   subst hw9
   have HB59 := Lib.hid (Bw.trans HB57.out hbc)
   have HS9 := Lib.hid (HSS.out.up hbc)
   have HA9 := Lib.hid (HS7.out.up hbc)
   have HR9 := Lib.hid (HR7.out.up hbc)
   have HRS9 := Lib.hid (HR5.out.up HB59.out)
   have hlt9 := HS9.out.lt
   have hlta9 := HA9.out.lt
   clear hbc x2 x9 x10 a2 HS7 HSS HR7 HB57 hlts hlta HOK7
   have a2 := HA9.out.cell 2 (v := .slice A1 s.n c1) rfl
   go_wp2_with fail
   go_loopw [80] (fun i wr => ∃ j : Nat, i = .int .i64 (j : Int) ∧ j ≤ s.n ∧ Bw w9 wr) (fun i _ => s.n - (intOf i).toNat)
   case atStart => exact ⟨0, rfl, by omega, BWX⟩
   case round =>
    obtain ⟨wy, hwy⟩ : ∃ wy : World, wy = wr := ⟨_, rfl⟩
    subst hwy
    obtain ⟨j, rfl, hj, hby⟩ := hrel
    have HBY := Lib.hid hby
    by_cases hlt2 : j < s.n
    ·obtain ⟨g1, o1, e3, hx1'⟩ := (HR9.out.up hby).2 (by omega)
     obtain ⟨g2, o2, e4, hx2'⟩ := (HRS9.out.up hby).2 (by omega)
     have hj1 : j < cs'.length := by rw [HR9.out.1]; exact hlt2
     have hj2 : j < cs.length := by rw [HRS9.out.1]; exact hlt2
     have h1 := hx1' j hj1
     have h2 := hx2' j hj2
     have hmg := HMG.out.2.2.2.2.2 j (by rw [← HOK5.out.1.2.2.2.2.1]; exact hlt2)
     rw [List.getElem?_eq_getElem hj1, List.getElem?_eq_getElem hj2] at hmg
     obtain ⟨⟨d1, d2, d3, d4⟩, hd⟩ : ∃ d, d = cs[j] := ⟨_, rfl⟩
     obtain ⟨⟨f1, f2, f3, f4⟩, hf⟩ : ∃ d, d = cs'[j] := ⟨_, rfl⟩
     rw [← hd] at h2 hmg
     rw [← hf] at h1 hmg
     obtain ⟨b0, b1, b2, b3⟩ := h2
     obtain ⟨a0, a1, a2', a3⟩ := h1
     dsimp only at a0 a1 a2' a3 b0 b1 b2 b3
     have HBC := Lib.hid (And.intro b0 (And.intro b1 (And.intro b2 b3)))
     have HMJ := Lib.hid hmg
     have e0 : (0 : Int) ≤ j := by omega
     have e5 : (j : Int) < s.n := by omega
     have hzy := HBY.out.size
     have hltsy := HS9.out.up HBY.out
     have xx2 := hltsy.cell 2 (v := .slice s.A s.n s.c) rfl
     rw [e4] at xx2
     have HX2 := Lib.hid xx2
     subst e3
     clear e4 xx2 hx1' hx2' hd hf hmg b0 b1 b2 b3 hj1 hj2 hby
     go_upto_region 13 with (fail)
     generalize hwv : wy.alloc (.cells #[.int .i64 f1, .int .i64 f2, .int .i64 f3, .int .i64 f4] 53) = wv
     obtain ⟨hbv, hbwv, hzv⟩ := sb1 hwv
     have HBV := Lib.hid hbv
     have HBWV := Lib.hid hbwv
     have HSV := Lib.hid (hltsy.up hbwv)
     have x1 := HSV.out.cell 1 (v := .int .i64 (s.Cn : Int)) rfl
     have hC1 : (1 : Int) ≤ s.Cn := by omega
     have hC2 : (s.Cn : Int) ≤ 9 := by omega
     have hj45 : (j : Int) ≤ 3000 := by have h5 := HOK5.out.1.2.2.2.2.1; have h6 := Nat.mul_le_mul t2 t4; omega
     have HTD := Lib.hid (show (j : Int).tdiv (s.Cn : Int) = ((j / s.Cn : Nat) : Int) from rfl)
     have hjc := Nat.div_le_self j s.Cn
     have HTE := Lib.hid (show wrap64 ((j : Int) / (s.Cn : Int)) = ((j / s.Cn : Nat) : Int) by rw [← Int.natCast_ediv]; generalize j / s.Cn = q at hjc ⊢; exact IntWalk.wrap64_in _ ⟨by omega, by omega⟩)
     clear hjc
     have hltg1 := HSV.out.lt
     clear hwv hbv hbwv hzv a0 a1 a2' a3 hltsy
     go_cut [12] (fun v w' => v = .int .i64 ((j / s.Cn : Nat) : Int) ∧ wv = w')
     case first =>
      go_wp2_with fail
      go_meet
      case rel => exact ⟨congrArg (Value.int .i64) (by first | exact HTE.out | exact HTD.out | (rw [HTD.out]; done) | (rw [HTD.out, IntWalk.i64_in _ (by omega)]) | (rw [IntWalk.i64_in _ (by rw [HTD.out]; omega)]; exact HTD.out)), rfl⟩
     case rest =>
     obtain ⟨rfl, rfl⟩ := hcut
     obtain ⟨r, hr⟩ : ∃ r : Nat, r = j / s.Cn := ⟨_, rfl⟩
     rw [← hr] at HMJ ⊢
     clear hr x1 HTD HTE hC1 hC2 hj45
     go_upto_region 14 with (fail)
     have HY := Lib.hid (show ∀ w', Bw wv w' → (w'.cell? ⟨wy.heap.size, 0, none⟩ = some (.int .i64 f1) ∧ w'.cell? ⟨wy.heap.size, 1, none⟩ = some (.int .i64 f2) ∧ w'.cell? ⟨wy.heap.size, 2, none⟩ = some (.int .i64 f3) ∧ w'.cell? ⟨wy.heap.size, 3, none⟩ = some (.int .i64 f4) ∧ w'.cell? ⟨gs, 9, none⟩ = some (.int .i64 s.top) ∧ w'.cell? ⟨gs, 10, none⟩ = some (.int .i64 s.bot) ∧ w'.cell? ⟨gs, 2, none⟩ = some (.slice (some ⟨g2, o2, none⟩) s.n s.c) ∧ w'.cell? ⟨g2, o2 + j * 4, none⟩ = some (.int .i64 d1) ∧ w'.cell? ⟨g2, o2 + j * 4 + 1, none⟩ = some (.int .i64 d2) ∧ w'.cell? ⟨g2, o2 + j * 4 + 2, none⟩ = some (.int .i64 d3) ∧ w'.cell? ⟨g2, o2 + j * 4 + 3, none⟩ = some (.int .i64 d4)) from fun w' hb => ⟨(HBV.out.up hb).cell 0 rfl, (HBV.out.up hb).cell 1 rfl, (HBV.out.up hb).cell 2 rfl, (HBV.out.up hb).cell 3 rfl, (HSV.out.up hb).cell 9 rfl, (HSV.out.up hb).cell 10 rfl, cell_up (cell_up HX2.out HBWV.out) hb, cell_up (cell_up HBC.out.1 HBWV.out) hb, cell_up (cell_up HBC.out.2.1 HBWV.out) hb, cell_up (cell_up HBC.out.2.2.1 HBWV.out) hb, cell_up (cell_up HBC.out.2.2.2 HBWV.out) hb⟩)
     have hways : (r : Int) < s.top ∨ (s.top ≤ (r : Int) ∧ s.bot < (r : Int)) ∨ (s.top ≤ (r : Int) ∧ (r : Int) ≤ s.bot) := by omega
     rcases hways with c1 | ⟨c1, c2⟩ | ⟨c1, c2⟩
     ·have hq := HMJ.out (.inl c1)
      simp only [Option.some.injEq, Prod.mk.injEq] at hq
      obtain ⟨rfl, rfl, rfl, rfl⟩ := hq
      refine wp_region_held_drew (S := (fun w' => w'.cell? ⟨wy.heap.size, 0, none⟩ = some (.int .i64 f1) ∧ w'.cell? ⟨wy.heap.size, 1, none⟩ = some (.int .i64 f2) ∧ w'.cell? ⟨wy.heap.size, 2, none⟩ = some (.int .i64 f3) ∧ w'.cell? ⟨wy.heap.size, 3, none⟩ = some (.int .i64 f4) ∧ w'.cell? ⟨gs, 9, none⟩ = some (.int .i64 s.top) ∧ w'.cell? ⟨gs, 10, none⟩ = some (.int .i64 s.bot) ∧ w'.cell? ⟨gs, 2, none⟩ = some (.slice (some ⟨g2, o2, none⟩) s.n s.c) ∧ w'.cell? ⟨g2, o2 + j * 4, none⟩ = some (.int .i64 f1) ∧ w'.cell? ⟨g2, o2 + j * 4 + 1, none⟩ = some (.int .i64 f2) ∧ w'.cell? ⟨g2, o2 + j * 4 + 2, none⟩ = some (.int .i64 f3) ∧ w'.cell? ⟨g2, o2 + j * 4 + 3, none⟩ = some (.int .i64 f4))) (by kernel_rfl) ?_ (fun hHeld => ?_)
      ·(try dsimp only); (refine HY.out _ ?_; exact BWX)
      refine tkQ 0 ?_
      refine tkQ 1 ?_
      refine tkQ 2 ?_
      (try simp only [Act.put, zP1, zP2, zP3, zP4, zP5, zP6])
      refine tkQ 3 ?_
      (try simp only [Act.put, zP1, zP2, zP3, zP4, zP5, zP6])
      refine wpAnyH_take (i := 4) (v := .bool true) rfl (by kernel_rfl) (by kernel_rfl) (by kernel_rfl) (fun _ _ _ h => h) (Or.inl ⟨by rfl, ?ht4⟩) (by assumption) ?_; case ht4 => (intro w hSw; (try dsimp only at hSw); go_simp; (try first | rfl | omega | (simp; omega)))
      (try simp only [Act.put, zP1, zP2, zP3, zP4, zP5, zP6])
      refine tkQ 5 ?_
      (try simp only [Act.put, zP1, zP2, zP3, zP4, zP5, zP6])
      refine wpAnyH_take (i := 6) (v := undef) rfl (by kernel_rfl) (by kernel_rfl) (by kernel_rfl) (fun _ _ _ h => h) (Or.inr ⟨by rfl, rfl⟩) (by assumption) ?_
      (try simp only [Act.put, zP1, zP2, zP3, zP4, zP5, zP6])
      refine wpAnyH_take (i := 7) (v := undef) rfl (by kernel_rfl) (by kernel_rfl) (by kernel_rfl) (fun _ _ _ h => h) (Or.inr ⟨by rfl, rfl⟩) (by assumption) ?_
      (try simp only [Act.put, zP1, zP2, zP3, zP4, zP5, zP6])
      refine wpAnyH_take (i := 8) (v := undef) rfl (by kernel_rfl) (by kernel_rfl) (by kernel_rfl) (fun _ _ _ h => h) (Or.inr ⟨by rfl, rfl⟩) (by assumption) ?_
      (try simp only [Act.put, zP1, zP2, zP3, zP4, zP5, zP6])
      refine wpAnyH_take (i := 9) (v := undef) rfl (by kernel_rfl) (by kernel_rfl) (by kernel_rfl) (fun _ _ _ h => h) (Or.inr ⟨by rfl, rfl⟩) (by assumption) ?_
      (try simp only [Act.put, zP1, zP2, zP3, zP4, zP5, zP6])
      refine wpAnyH_take (i := 10) (v := undef) rfl (by kernel_rfl) (by kernel_rfl) (by kernel_rfl) (fun _ _ _ h => h) (Or.inr ⟨by rfl, rfl⟩) (by assumption) ?_
      (try simp only [Act.put, zP1, zP2, zP3, zP4, zP5, zP6])
      refine tkQ 11 ?_
      (try simp only [Act.put, zP1, zP2, zP3, zP4, zP5, zP6])
      refine tkQ 12 ?_
      refine tkQ 13 ?_
      refine tkQ 14 ?_
      (try simp only [Act.put, zP1, zP2, zP3, zP4, zP5, zP6])
      refine tkQ 15 ?_
      refine tkQ 16 ?_
      refine tkQ 17 ?_
      (try simp only [Act.put, zP1, zP2, zP3, zP4, zP5, zP6])
      refine tkQ 18 ?_
      refine tkQ 19 ?_
      refine tkQ 20 ?_
      (try simp only [Act.put, zP1, zP2, zP3, zP4, zP5, zP6])
      refine tkQ 21 ?_
      (try simp only [Act.put, zP1, zP2, zP3, zP4, zP5, zP6])
      refine wpAnyH_done (by kernel_rfl) ?_ _
      go_wp2_with fail
      go_roundw
      case rel => exact ⟨j + 1, by go_num, by omega, Bw.trans HBY.out (Bw.trans HBWV.out BWX)⟩
      case measure => simp [intOf]; omega
     ·have hq := HMJ.out (.inr c2)
      simp only [Option.some.injEq, Prod.mk.injEq] at hq
      obtain ⟨rfl, rfl, rfl, rfl⟩ := hq
      refine wp_region_held_drew (S := (fun w' => w'.cell? ⟨wy.heap.size, 0, none⟩ = some (.int .i64 f1) ∧ w'.cell? ⟨wy.heap.size, 1, none⟩ = some (.int .i64 f2) ∧ w'.cell? ⟨wy.heap.size, 2, none⟩ = some (.int .i64 f3) ∧ w'.cell? ⟨wy.heap.size, 3, none⟩ = some (.int .i64 f4) ∧ w'.cell? ⟨gs, 9, none⟩ = some (.int .i64 s.top) ∧ w'.cell? ⟨gs, 10, none⟩ = some (.int .i64 s.bot) ∧ w'.cell? ⟨gs, 2, none⟩ = some (.slice (some ⟨g2, o2, none⟩) s.n s.c) ∧ w'.cell? ⟨g2, o2 + j * 4, none⟩ = some (.int .i64 f1) ∧ w'.cell? ⟨g2, o2 + j * 4 + 1, none⟩ = some (.int .i64 f2) ∧ w'.cell? ⟨g2, o2 + j * 4 + 2, none⟩ = some (.int .i64 f3) ∧ w'.cell? ⟨g2, o2 + j * 4 + 3, none⟩ = some (.int .i64 f4))) (by kernel_rfl) ?_ (fun hHeld => ?_)
      ·(try dsimp only); (refine HY.out _ ?_; exact BWX)
      refine tkQ 0 ?_
      refine tkQ 1 ?_
      (try simp only [Act.put, zP1, zP2, zP3, zP4, zP5, zP6])
      refine tkQ 2 ?_
      refine tkQ 3 ?_
      (try simp only [Act.put, zP1, zP2, zP3, zP4, zP5, zP6])
      refine wpAnyH_take (i := 4) (v := .bool false) rfl (by kernel_rfl) (by kernel_rfl) (by kernel_rfl) (fun _ _ _ h => h) (Or.inl ⟨by rfl, ?ht4⟩) (by assumption) ?_; case ht4 => (intro w hSw; (try dsimp only at hSw); go_simp; (try first | rfl | omega | (simp; omega)))
      (try simp only [Act.put, zP1, zP2, zP3, zP4, zP5, zP6])
      refine tkQ 5 ?_
      (try simp only [Act.put, zP1, zP2, zP3, zP4, zP5, zP6])
      refine tkQ 6 ?_
      refine tkQ 7 ?_
      refine tkQ 8 ?_
      (try simp only [Act.put, zP1, zP2, zP3, zP4, zP5, zP6])
      refine tkQ 9 ?_
      (try simp only [Act.put, zP1, zP2, zP3, zP4, zP5, zP6])
      refine wpAnyH_take (i := 10) (v := .bool true) rfl (by kernel_rfl) (by kernel_rfl) (by kernel_rfl) (fun _ _ _ h => h) (Or.inl ⟨by rfl, ?ht10⟩) (by assumption) ?_; case ht10 => (intro w hSw; (try dsimp only at hSw); go_simp; (try first | rfl | omega | (simp; omega)))
      (try simp only [Act.put, zP1, zP2, zP3, zP4, zP5, zP6])
      refine tkQ 11 ?_
      refine tkQ 12 ?_
      (try simp only [Act.put, zP1, zP2, zP3, zP4, zP5, zP6])
      refine tkQ 13 ?_
      refine tkQ 14 ?_
      refine tkQ 15 ?_
      (try simp only [Act.put, zP1, zP2, zP3, zP4, zP5, zP6])
      refine tkQ 16 ?_
      refine tkQ 17 ?_
      refine tkQ 18 ?_
      (try simp only [Act.put, zP1, zP2, zP3, zP4, zP5, zP6])
      refine tkQ 19 ?_
      refine tkQ 20 ?_
      refine tkQ 21 ?_
      (try simp only [Act.put, zP1, zP2, zP3, zP4, zP5, zP6])
      refine wpAnyH_done (by kernel_rfl) ?_ _
      go_wp2_with fail
      go_roundw
      case rel => exact ⟨j + 1, by go_num, by omega, Bw.trans HBY.out (Bw.trans HBWV.out BWX)⟩
      case measure => simp [intOf]; omega
     ·clear HMJ
      refine wp_region_held_drew (S := (fun w' => w'.cell? ⟨wy.heap.size, 0, none⟩ = some (.int .i64 f1) ∧ w'.cell? ⟨wy.heap.size, 1, none⟩ = some (.int .i64 f2) ∧ w'.cell? ⟨wy.heap.size, 2, none⟩ = some (.int .i64 f3) ∧ w'.cell? ⟨wy.heap.size, 3, none⟩ = some (.int .i64 f4) ∧ w'.cell? ⟨gs, 9, none⟩ = some (.int .i64 s.top) ∧ w'.cell? ⟨gs, 10, none⟩ = some (.int .i64 s.bot) ∧ w'.cell? ⟨gs, 2, none⟩ = some (.slice (some ⟨g2, o2, none⟩) s.n s.c) ∧ w'.cell? ⟨g2, o2 + j * 4, none⟩ = some (.int .i64 d1) ∧ w'.cell? ⟨g2, o2 + j * 4 + 1, none⟩ = some (.int .i64 d2) ∧ w'.cell? ⟨g2, o2 + j * 4 + 2, none⟩ = some (.int .i64 d3) ∧ w'.cell? ⟨g2, o2 + j * 4 + 3, none⟩ = some (.int .i64 d4))) (by kernel_rfl) ?_ (fun hHeld => ?_)
      ·(try dsimp only); (refine HY.out _ ?_; exact BWX)
      refine tkQ 0 ?_
      refine tkQ 1 ?_
      refine tkQ 2 ?_
      (try simp only [Act.put, zP1, zP2, zP3, zP4, zP5, zP6])
      refine tkQ 3 ?_
      (try simp only [Act.put, zP1, zP2, zP3, zP4, zP5, zP6])
      refine wpAnyH_take (i := 4) (v := .bool false) rfl (by kernel_rfl) (by kernel_rfl) (by kernel_rfl) (fun _ _ _ h => h) (Or.inl ⟨by rfl, ?ht4⟩) (by assumption) ?_; case ht4 => (intro w hSw; (try dsimp only at hSw); go_simp; (try first | rfl | omega | (simp; omega)))
      (try simp only [Act.put, zP1, zP2, zP3, zP4, zP5, zP6])
      refine tkQ 5 ?_
      refine tkQ 6 ?_
      (try simp only [Act.put, zP1, zP2, zP3, zP4, zP5, zP6])
      refine tkQ 7 ?_
      refine tkQ 8 ?_
      refine tkQ 9 ?_
      (try simp only [Act.put, zP1, zP2, zP3, zP4, zP5, zP6])
      refine wpAnyH_take (i := 10) (v := .bool false) rfl (by kernel_rfl) (by kernel_rfl) (by kernel_rfl) (fun _ _ _ h => h) (Or.inl ⟨by rfl, ?ht10⟩) (by assumption) ?_; case ht10 => (intro w hSw; (try dsimp only at hSw); go_simp; (try first | rfl | omega | (simp; omega)))
      (try simp only [Act.put, zP1, zP2, zP3, zP4, zP5, zP6])
      refine tkQ 11 ?_
      refine tkQ 12 ?_
      (try simp only [Act.put, zP1, zP2, zP3, zP4, zP5, zP6])
      refine wpAnyH_take (i := 13) (v := undef) rfl (by kernel_rfl) (by kernel_rfl) (by kernel_rfl) (fun _ _ _ h => h) (Or.inr ⟨by rfl, rfl⟩) (by assumption) ?_
      (try simp only [Act.put, zP1, zP2, zP3, zP4, zP5, zP6])
      refine wpAnyH_take (i := 14) (v := undef) rfl (by kernel_rfl) (by kernel_rfl) (by kernel_rfl) (fun _ _ _ h => h) (Or.inr ⟨by rfl, rfl⟩) (by assumption) ?_
      (try simp only [Act.put, zP1, zP2, zP3, zP4, zP5, zP6])
      refine wpAnyH_take (i := 15) (v := undef) rfl (by kernel_rfl) (by kernel_rfl) (by kernel_rfl) (fun _ _ _ h => h) (Or.inr ⟨by rfl, rfl⟩) (by assumption) ?_
      (try simp only [Act.put, zP1, zP2, zP3, zP4, zP5, zP6])
      refine wpAnyH_take (i := 16) (v := undef) rfl (by kernel_rfl) (by kernel_rfl) (by kernel_rfl) (fun _ _ _ h => h) (Or.inr ⟨by rfl, rfl⟩) (by assumption) ?_
      (try simp only [Act.put, zP1, zP2, zP3, zP4, zP5, zP6])
      refine wpAnyH_take (i := 17) (v := undef) rfl (by kernel_rfl) (by kernel_rfl) (by kernel_rfl) (fun _ _ _ h => h) (Or.inr ⟨by rfl, rfl⟩) (by assumption) ?_
      (try simp only [Act.put, zP1, zP2, zP3, zP4, zP5, zP6])
      refine wpAnyH_take (i := 18) (v := undef) rfl (by kernel_rfl) (by kernel_rfl) (by kernel_rfl) (fun _ _ _ h => h) (Or.inr ⟨by rfl, rfl⟩) (by assumption) ?_
      (try simp only [Act.put, zP1, zP2, zP3, zP4, zP5, zP6])
      refine wpAnyH_take (i := 19) (v := undef) rfl (by kernel_rfl) (by kernel_rfl) (by kernel_rfl) (fun _ _ _ h => h) (Or.inr ⟨by rfl, rfl⟩) (by assumption) ?_
      (try simp only [Act.put, zP1, zP2, zP3, zP4, zP5, zP6])
      refine wpAnyH_take (i := 20) (v := undef) rfl (by kernel_rfl) (by kernel_rfl) (by kernel_rfl) (fun _ _ _ h => h) (Or.inr ⟨by rfl, rfl⟩) (by assumption) ?_
      (try simp only [Act.put, zP1, zP2, zP3, zP4, zP5, zP6])
      refine tkQ 21 ?_
      (try simp only [Act.put, zP1, zP2, zP3, zP4, zP5, zP6])
      refine wpAnyH_done (by kernel_rfl) ?_ _
      go_wp2_with fail
      go_roundw
      case rel => exact ⟨j + 1, by go_num, by omega, Bw.trans HBY.out (Bw.trans HBWV.out BWX)⟩
      case measure => simp [intOf]; omega
    ·obtain rfl : j = s.n := by omega
     go_wp2_with fail
     go_roundw
     case rel => exact ⟨k + 1, by go_num, by omega, Bw.trans HB59.out HBY.out⟩
     case measure => simp [intOf]; omega
  ·obtain rfl : k = 6 := by omega
   go_wp2_with fail
   go_ret
   exact ⟨rfl, Bw.trans HBW5.out HBZ.out⟩
end Go.Proofs.YtkflooljdopldaaGreat
