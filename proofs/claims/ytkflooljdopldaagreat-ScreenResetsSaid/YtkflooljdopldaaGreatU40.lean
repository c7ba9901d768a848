/- Parts of the proof, one after the other. -/
import Derived.Test.YtkflooljdopldaaGreatU39
import Derived.Test.YtkflooljdopldaaGreatU09
import Derived.Test.YtkflooljdopldaaGreatU21
import Derived.Test.YtkflooljdopldaaGreatU15
import Derived.Test.YtkflooljdopldaaGreatU25
import Derived.Deep.RegionHeld3
set_option linter.unusedSimpArgs false
set_option linter.unusedVariables false
/- The program's grids: tables, the cells of a row filled in place. -/
namespace Go.Proofs.YtkflooljdopldaaGreat
open Go.RowKit

theorem tab_len (Rn Cn : Nat) (F : Nat → Nat → C4) : (tab Rn Cn F).length = Rn * Cn := tabK_len _ _ _
theorem tab_get {Rn Cn : Nat} (F : Nat → Nat → C4) (i : Nat) (hi : i < (tab Rn Cn F).length) : (tab Rn Cn F)[i] = F (i / Cn) (i % Cn) := by
 simp [tab, tabK]
theorem tab_ext {Rn Cn : Nat} {F G : Nat → Nat → C4} (hC : 0 < Cn) (h : ∀ r k, r < Rn → k < Cn → F r k = G r k) : tab Rn Cn F = tab Rn Cn G := by
 refine List.ext_getElem (by rw [tab_len, tab_len]) (fun i h1 h2 => ?_)
 rw [tab_get, tab_get]
 rw [tab_len] at h1
 exact h _ _ (Nat.div_lt_of_lt_mul (by rw [Nat.mul_comm]; exact h1)) (Nat.mod_lt _ hC)
theorem tab_same {Rn Cn : Nat} {cs : List C4} {F : Nat → Nat → C4} (d : C4) (hC : 0 < Cn) (hl : cs.length = Rn * Cn) (h : ∀ r k, r < Rn → k < Cn → F r k = atF Rn Cn cs r k d) : tab Rn Cn F = cs := by
 refine List.ext_getElem (by rw [tab_len, hl]) (fun i h1 h2 => ?_)
 rw [tab_get]
 rw [tab_len] at h1
 have hr : i / Cn < Rn := Nat.div_lt_of_lt_mul (by rw [Nat.mul_comm]; exact h1)
 have hk : i % Cn < Cn := Nat.mod_lt _ hC
 rw [h _ _ hr hk, atF_in hr hk hl]
 congr 1
 rw [Nat.mul_comm]
 exact Nat.div_add_mod i Cn
theorem idx_parts {Cn r k : Nat} (hk : k < Cn) : (r * Cn + k) / Cn = r ∧ (r * Cn + k) % Cn = k := by
 constructor
 ·rw [Nat.mul_comm, Nat.mul_add_div (by omega), Nat.div_eq_of_lt hk, Nat.add_zero]
 ·rw [Nat.mul_comm, Nat.mul_add_mod, Nat.mod_eq_of_lt hk]
theorem tab_set {Rn Cn r k : Nat} (F : Nat → Nat → C4) (c : C4) (hk : k < Cn) : (tab Rn Cn F).set (r * Cn + k) c = tab Rn Cn (fun r' k' => if r' = r ∧ k' = k then c else F r' k') := by
 refine List.ext_getElem (by rw [List.length_set, tab_len, tab_len]) (fun i h1 h2 => ?_)
 rw [List.getElem_set, tab_get, tab_get]
 by_cases he : r * Cn + k = i
 ·subst he
  rw [if_pos rfl, if_pos (idx_parts hk)]
 ·rw [if_neg he, if_neg]
  rintro ⟨h3, h4⟩
  exact he (by rw [← h3, ← h4, Nat.mul_comm]; exact Nat.div_add_mod i Cn)
theorem fill_step {Rn Cn rn k : Nat} {cs : List C4} {fr : Int} {d : C4} (hk : k < Cn) (hf : fr ≤ k) : (tab Rn Cn (fillF Rn Cn cs rn fr k d)).set (rn * Cn + k) d = tab Rn Cn (fillF Rn Cn cs rn fr ((k + 1 : Nat) : Int) d) := by
 rw [tab_set _ _ hk]
 refine tab_ext (by omega) (fun r' k' _ _ => ?_)
 unfold fillF
 by_cases h1 : r' = rn ∧ k' = k
 ·rw [if_pos h1, if_pos (by omega)]
 ·rw [if_neg h1]
  by_cases h2 : (r' : Int) = rn ∧ fr ≤ k' ∧ (k' : Int) < k
  ·rw [if_pos h2, if_pos (by omega)]
  ·rw [if_neg h2, if_neg (by omega)]

set_option maxRecDepth 100000 in
set_option maxHeartbeats 4000000 in
theorem gfill1_go (Rn Cn : Nat) (cs : List C4) (sp : List Value) (gp cp br bg bf bt bc : Nat) (row fr tt d1 d2 d3 d4 : Int) (v2 : Value) (w : World) (hR1 : 1 ≤ Rn) (hR2 : Rn ≤ 30) (hC1 : 1 ≤ Cn) (hC2 : Cn ≤ 100) (hl : cs.length = Rn * Cn) (hW : Wc w gp cs sp) (hcp : Rn * Cn ≤ cp) (hcp2 : cp ≤ 9223372036854775807)
  (y0 : w.cell? ⟨br, 0, none⟩ = some (.int .i64 row)) (y1 : w.cell? ⟨bg, 0, none⟩ = some (.int .i64 (Rn : Int))) (y2 : w.cell? ⟨bg, 1, none⟩ = some (.int .i64 (Cn : Int))) (y3 : w.cell? ⟨bf, 0, none⟩ = some (.int .i64 fr)) (y4 : w.cell? ⟨bt, 0, none⟩ = some (.int .i64 tt))
  (y5 : w.cell? ⟨bc, 0, none⟩ = some (.int .i64 d1)) (y6 : w.cell? ⟨bc, 1, none⟩ = some (.int .i64 d2)) (y7 : w.cell? ⟨bc, 2, none⟩ = some (.int .i64 d3)) (y8 : w.cell? ⟨bc, 3, none⟩ = some (.int .i64 d4)) (hne : br ≠ gp ∧ bg ≠ gp ∧ bf ≠ gp ∧ bt ≠ gp ∧ bc ≠ gp) :
  Calls Tryz.prog 93 #[.slice (some ⟨gp, 0, none⟩) (Rn * Cn) cp, .pointer (some ⟨br, 0, none⟩), .pointer (some ⟨bg, 0, none⟩), .pointer (some ⟨bf, 0, none⟩), .pointer (some ⟨bt, 0, none⟩), .pointer (some ⟨bc, 0, none⟩)] w fun e w' => (∃ v, e = .returned v) ∧ Wc w' gp (tab Rn Cn (fillF Rn Cn cs row fr tt (d1, d2, d3, d4))) sp ∧ w.grownBy w' (some gp) := by
 obtain ⟨n, hn⟩ : ∃ n, n = Rn * Cn := ⟨_, rfl⟩
 have HN := Lib.hid hn
 rw [← hn] at hl hcp ⊢
 clear hn
 have HL := Lib.hid hl
 have HW := Lib.hid hW
 clear hl hW
 obtain ⟨e1, e2, e3, e4, e5⟩ := hne
 have hz : row < 0 ∨ (0 ≤ row ∧ (Rn : Int) ≤ row) ∨ (0 ≤ row ∧ row < Rn) := by omega
 rcases hz with h | ⟨h1, h2⟩ | ⟨h1, h2⟩
 iterate 2
  ·have HE := Lib.hid (tab_same (F := fillF Rn Cn cs row fr tt (d1, d2, d3, d4)) (d1, d2, d3, d4) hC1 (HL.out.trans HN.out) (fun r k hr hk => by unfold fillF; rw [if_neg (by omega)]))
   go_enter Tryz.func93, Tryz.ntmps93
   go_wp2_with fail
   refine bodyPost_ret (by simp [results, Tryz.results93, go_sem]; rfl) rfl ?_
   exact ⟨⟨_, rfl⟩, by rw [HE.out]; exact HW.out, grown_refl _ _⟩
 obtain ⟨rn, rfl⟩ : ∃ rn : Nat, row = rn := ⟨row.toNat, by omega⟩
 obtain ⟨p, hp⟩ : ∃ p : Nat, rn * Cn = p := ⟨_, rfl⟩
 have hpi : (rn : Int) * (Cn : Int) = (p : Int) := by rw [← hp]; simp
 have hpb : p + Cn ≤ n := by rw [← hp, HN.out]; have := Nat.mul_le_mul_right Cn (show rn + 1 ≤ Rn by omega); rw [Nat.add_mul] at this; omega
 have HP := Lib.hid hp
 clear hp
 have hn3 : n ≤ 3000 := by rw [HN.out]; exact Nat.le_trans (Nat.mul_le_mul hR2 hC2) (by omega)
 obtain ⟨k0, hk0⟩ : ∃ k0 : Nat, (if fr < 0 then 0 else fr) = (k0 : Int) := by
  split
  ·exact ⟨0, rfl⟩
  ·exact ⟨fr.toNat, by omega⟩
 go_enter Tryz.func93, Tryz.ntmps93
 go_wp2_with fail
 have hk0f : fr ≤ (k0 : Int) ∧ ((k0 : Int) = 0 ∨ (k0 : Int) = fr) := by split at hk0 <;> omega
 obtain ⟨hf1, hf2⟩ := hk0f
 have HF2 := Lib.hid hf2
 clear hf2
 go_loopw [7] (fun i wr => ∃ k : Nat, i = .int .i64 k ∧ k0 ≤ k ∧ (k = k0 ∨ (k : Int) ≤ tt) ∧ (k = k0 ∨ k ≤ Cn) ∧ Wc wr gp (tab Rn Cn (fillF Rn Cn cs rn fr k (d1, d2, d3, d4))) sp ∧ w.grownBy wr (some gp)) (fun i _ => Cn - (intOf i).toNat)
 case atStart =>
  refine ⟨k0, rfl, Nat.le_refl _, .inl rfl, .inl rfl, ?_, grown_refl _ _⟩
  rw [tab_same (cs := cs) (d1, d2, d3, d4) hC1 (HL.out.trans HN.out) (fun r k hr hk => by unfold fillF; rw [if_neg (by have := HF2.out; omega)])]
  exact HW.out
 case round =>
  rename_i wr
  obtain ⟨k, rfl, hk1, hk2, hk3, hWr, hgr⟩ := hrel
  have HWr := Lib.hid hWr
  have HGr := Lib.hid hgr
  have HK2 := Lib.hid hk2
  have HK3 := Lib.hid hk3
  have z0 := cell_far y0 hgr (by intro e; exact e1 (Option.some.inj e))
  have z1 := cell_far y1 hgr (by intro e; exact e2 (Option.some.inj e))
  have z2 := cell_far y2 hgr (by intro e; exact e2 (Option.some.inj e))
  have z3 := cell_far y3 hgr (by intro e; exact e3 (Option.some.inj e))
  have z4 := cell_far y4 hgr (by intro e; exact e4 (Option.some.inj e))
  have z5 := cell_far y5 hgr (by intro e; exact e5 (Option.some.inj e))
  have z6 := cell_far y6 hgr (by intro e; exact e5 (Option.some.inj e))
  have z7 := cell_far y7 hgr (by intro e; exact e5 (Option.some.inj e))
  have z8 := cell_far y8 hgr (by intro e; exact e5 (Option.some.inj e))
  clear y0 y1 y2 y3 y4 y5 y6 y7 y8 hWr hgr hk2 hk3
  by_cases hlt : (k : Int) < tt ∧ (k : Int) < Cn
  ·obtain ⟨hl1, hl2⟩ := hlt
   have hkn : p + k < n := by omega
   have hkl : p + k < (tab Rn Cn (fillF Rn Cn cs rn fr k (d1, d2, d3, d4))).length := by rw [tab_len, ← HN.out]; exact hkn
   have hce := HWr.out.cells (p + k) hkl
   obtain ⟨a1, a2, a3, a4⟩ := hce
   have b1 := HWr.out.free ((p + k) * 4)
   have b2 := HWr.out.free ((p + k) * 4 + 1)
   have b3 := HWr.out.free ((p + k) * 4 + 2)
   have b4 := HWr.out.free ((p + k) * 4 + 3)
   have q1 : (0 : Int) ≤ (p : Int) + (k : Int) := by omega
   have q2 : (p : Int) + (k : Int) < (n : Int) := by omega
   go_wp2_with fail
   go_roundw
   case rel =>
    refine ⟨k + 1, by go_num, by omega, .inr (by omega), .inr (by omega), ?_, ?_⟩
    ·have hst := HWr.out.store (p + k) hkl (d1, d2, d3, d4)
     have hfs := fill_step (Rn := Rn) (cs := cs) (rn := rn) (fr := fr) (d := (d1, d2, d3, d4)) (show k < Cn by omega) (show fr ≤ (k : Int) by omega)
     rw [HP.out] at hfs
     rw [hfs] at hst
     exact hst
    ·exact grown_set (grown_set (grown_set (grown_set HGr.out _ _) _ _) _ _) _ _
   case measure => simp [intOf]; omega
  ·have hE : tab Rn Cn (fillF Rn Cn cs rn fr k (d1, d2, d3, d4)) = tab Rn Cn (fillF Rn Cn cs rn fr tt (d1, d2, d3, d4)) := tab_ext hC1 (fun r' k' hr' hk' => by
    have h9 := HK2.out
    have h8 := HK3.out
    have h7 := HF2.out
    unfold fillF
    by_cases hc : (r' : Int) = rn ∧ fr ≤ k' ∧ (k' : Int) < tt
    ·rw [if_pos hc, if_pos (by omega)]
    ·rw [if_neg hc, if_neg (by omega)])
   have HE := Lib.hid hE
   clear hE
   have hw : (tt < Cn ∧ tt ≤ (k : Int)) ∨ (tt = Cn ∧ (Cn : Int) ≤ k) ∨ ((Cn : Int) < tt ∧ (Cn : Int) ≤ k) := by omega
   rcases hw with ⟨hw, hw2⟩ | ⟨rfl, hw2⟩ | ⟨hw, hw2⟩
   iterate 3
    ·go_wp2_with fail
     refine bodyPost_end (by simp [results, Tryz.results93, go_sem]; rfl) rfl ?_
     exact ⟨⟨_, rfl⟩, by rw [← HE.out]; exact HWr.out, HGr.out⟩
end Go.Proofs.YtkflooljdopldaaGreat

/- The program's grids: change with Fill's closure; Fill. -/
namespace Go.Proofs.YtkflooljdopldaaGreat
open Go.RowKit

theorem Ce.far {w w' : World} {g o : Nat} {c : C4} {row : Option Nat} (h : Ce w g o c) (hg : w.grownBy w' row) (hne : some g ≠ row) : Ce w' g o c := ⟨cell_far h.1 hg hne, cell_far h.2.1 hg hne, cell_far h.2.2.1 hg hne, cell_far h.2.2.2 hg hne⟩
theorem Rg.far {w w' : World} {A : Option Addr} {n : Nat} {cs : List C4} {row : Option Nat} (h : Rg w A n cs) (hg : w.grownBy w' row) (hne : ∀ ad, A = some ad → some ad.block ≠ row) : Rg w' A n cs := by
 refine ⟨h.1, fun h0 => ?_⟩
 obtain ⟨g, o, e, hx⟩ := h.2 h0
 exact ⟨g, o, e, fun i hi => (hx i hi).far hg (by have := hne ⟨g, o, none⟩ e; exact this)⟩
/-- A grid's cells. -/
def grV (R C : Int) (A : Option Addr) (n c : Nat) : Array Value := #[.int .i64 R, .int .i64 C, .slice A n c]
theorem infoGr : (Tryz.prog.info? 26).map (·.size) = some 3 := by kernel_rfl
theorem grV_one (R C : Int) (A : Option Addr) (n c : Nat) : (grV R C A n c).all (·.oneCell') = true := all_oneCell_toArray (fun v hv => by
 simp only [List.mem_cons, List.not_mem_nil, or_false] at hv
 rcases hv with rfl | rfl | rfl <;> rfl)
theorem wpList_store_gr {ops : Array Oper} {rest : List Oper} {o : Oper} {a : Act} {w : World} {Q : Exit → Act → World → Prop} (R C : Int) (A : Option Addr) (n c : Nat) (g : Nat) (x y : Operand) (ho : o.op = .store 26 x y) (hgd : o.guard = none)
  (hx : a.eval x = .pointer (some ⟨g, 0, none⟩)) (hy : a.eval y = .agg (grV R C A n c)) (hg : ∃ old, Sb w g old 26 ∧ old.size = 3)
  (h : ∀ w', Sb w' g (grV R C A n c) 26 → w.grownBy w' (some g) → wpList Tryz.prog ops Q rest (a.put o.dst undef) w') : wpList Tryz.prog ops Q (o :: rest) a w :=
 wpList_store_cs 26 (grV R C A n c) g x y infoGr (grV_one R C A n c) ho hgd hx hy hg h
theorem results_gr {fn : Func} {p : Tmp} (h : fn.results = #[.cell p 26]) (tmps : Array Value) (w : World) (g : Nat) (R C : Int) (A : Option Addr) (n c : Nat) (hp : tmps.getD p undef = .pointer (some ⟨g, 0, none⟩)) (hg : Sb w g (grV R C A n c) 26) :
  (results fn tmps).run Tryz.prog w = .ok (.agg #[.int .i64 R, .int .i64 C, .slice A n c]) w := results_cell_row h tmps w g 26 (grV R C A n c) (0, 0) _ hp hg Tryz.underlying26 rfl infoGr

set_option maxRecDepth 100000 in
set_option maxHeartbeats 8000000 in
theorem gchangefill_ok (R C : Int) (A : Option Addr) (n c : Nat) (cs : List C4) (row fr tt d1 d2 d3 d4 : Int) (br bg bf bt bc : Nat) (w : World) (hr : Rg w A n cs) (hn : n ≤ c) (hn3 : n ≤ 4398046511103) (hc : c ≤ 9223372036854775807) (y0 : w.cell? ⟨br, 0, none⟩ = some (.int .i64 row)) (y1 : w.cell? ⟨bg, 0, none⟩ = some (.int .i64 R)) (y2 : w.cell? ⟨bg, 1, none⟩ = some (.int .i64 C)) (y3 : w.cell? ⟨bf, 0, none⟩ = some (.int .i64 fr)) (y4 : w.cell? ⟨bt, 0, none⟩ = some (.int .i64 tt)) (y5 : w.cell? ⟨bc, 0, none⟩ = some (.int .i64 d1)) (y6 : w.cell? ⟨bc, 1, none⟩ = some (.int .i64 d2)) (y7 : w.cell? ⟨bc, 2, none⟩ = some (.int .i64 d3)) (y8 : w.cell? ⟨bc, 3, none⟩ = some (.int .i64 d4)) :
  Calls Tryz.prog 69 #[.agg #[.int .i64 R, .int .i64 C, .slice A n c], .agg #[.int .i64 d1, .int .i64 d2, .int .i64 d3, .int .i64 d4], .func (.func 93) #[] #[.pointer (some ⟨br, 0, none⟩), .pointer (some ⟨bg, 0, none⟩), .pointer (some ⟨bf, 0, none⟩), .pointer (some ⟨bt, 0, none⟩), .pointer (some ⟨bc, 0, none⟩)]] w (GrN w R C (fillG R C cs row fr tt (d1, d2, d3, d4))) := by
 have HR := Lib.hid hr
 have HY := Lib.hid (And.intro y0 (And.intro y1 (And.intro y2 (And.intro y3 (And.intro y4 (And.intro y5 (And.intro y6 (And.intro y7 y8))))))))
 clear hr y0 y1 y2 y3 y4 y5 y6 y7 y8
 cases hv : gridB R C cs
 ·have HV := Lib.hid hv
  have HE := Lib.hid (show fillG R C cs row fr tt (d1, d2, d3, d4) = cs from if_neg (by rw [hv]; simp))
  clear hv
  go_enter Tryz.func69, Tryz.ntmps69
  go_upto_region 1 with (fail)
  generalize hw1 : ((w.alloc (.cells #[.int .i64 R, .int .i64 C, .slice A n c] 26)).alloc _).alloc _ = w1
  obtain ⟨hb0, hb1, hb2, hbw, hz⟩ := sb3 hw1
  have HB0 := Lib.hid hb0
  have HB1 := Lib.hid (show Sb w1 (w.heap.size + 1) #[.int .i64 d1, .int .i64 d2, .int .i64 d3, .int .i64 d4] 53 from hb1)
  have HB2 := Lib.hid (show ∃ old, Sb w1 (w.heap.size + 2) old 26 ∧ old.size = 3 from ⟨_, hb2, rfl⟩)
  have hz1 : w.heap.size + 2 < w1.heap.size := by omega
  clear hw1 hb0 hb1 hb2 hz
  have x0 := HB0.out.cell 0 (v := .int .i64 R) rfl
  have x1 := HB0.out.cell 1 (v := .int .i64 C) rfl
  have x2 := HB0.out.cell 2 (v := .slice A n c) rfl
  go_upto_region 3 with (first
   | (go_at_call 31; refine (ggvalid_any R C A n c cs _ (by exact HR.out.up BWX) hn hc).mono ?_; rintro ee wv ⟨rfl, hbv⟩; rw [HV.out]; clear x0 x1 x2; have x2 := (HB0.out.up hbv).cell 2 (v := .slice A n c) rfl; have f2 := (HB0.out.up hbv).free 2; have c0 := (HB1.out.up hbv).cell 0 (v := .int .i64 d1) rfl; have c1 := (HB1.out.up hbv).cell 1 (v := .int .i64 d2) rfl; have c2 := (HB1.out.up hbv).cell 2 (v := .int .i64 d3) rfl; have c3 := (HB1.out.up hbv).cell 3 (v := .int .i64 d4) rfl; have hb1k := hbv; have hzv := hbv.size)
   | (go_at_call 67; refine (gcell_any d1 d2 d3 d4 _).mono ?_; rintro ee wu ⟨rfl, hbu⟩; rw [HCV.out]; clear x2 f2 c0 c1 c2 c3; have hb1k := Bw.trans hbv hbu; have hzu := hbu.size; have x2 := (HB0.out.up hb1k).cell 2 (v := .slice A n c) rfl; have f2 := (HB0.out.up hb1k).free 2)
   | (go_at_call 30; refine (gclone_any A n c cs _ (by exact HR.out.up BWX) hn hn3 hc).mono ?_; rintro ee wk ⟨vk, rfl, hown, hbk⟩; have hzk := hbk.size; have hb1q := Bw.trans hb1k hbk; clear x2 f2; have x2 := (HB0.out.up hb1q).cell 2 (v := .slice A n c) rfl; have f2 := (HB0.out.up hb1q).free 2; obtain ⟨Ak, ck, rfl, hkc, hkm⟩ := own_form hown; have HOWN := Lib.hid (own_mono hown (show w.heap.size + 3 ≤ _ by omega)); clear hown)
   | fail)
  have hbq := hb1q
  have HB0k := Lib.hid (HB0.out.up hbq)
  have HB2k := Lib.hid (Exists.elim HB2.out (fun old h => (⟨old, h.1.up hbq, h.2⟩ : ∃ old, Sb wk (w.heap.size + 2) old 26 ∧ old.size = 3)))
  have hbwk : Bw w wk := Bw.trans hbw hbq
  have hzk3 : w.heap.size + 2 < wk.heap.size := by have := hbq.size; omega
  clear x2 f2
  generalize hw3 : World.setCell wk ⟨w.heap.size, 2, none⟩ (.slice Ak n ck) = w3
  have HS3 := Lib.hid (show Sb w3 w.heap.size (grV R C Ak n ck) 26 from by rw [← hw3]; exact HB0k.out.set 2 _ rfl)
  have hg3 : wk.grownBy w3 (some w.heap.size) := by rw [← hw3]; exact grown_set (grown_refl wk _) _ _
  have HO3 := Lib.hid (show w3.ownsRow (w.heap.size + 3) 53 4 (.slice Ak n ck) n (flat cs) from by rw [← hw3]; exact own_set_below HOWN.out (by omega) _)
  have HB23 := Lib.hid (Exists.elim HB2k.out (fun old h => (⟨old, h.1.far hg3 (by intro e; have := Option.some.inj e; omega), h.2⟩ : ∃ old, Sb w3 (w.heap.size + 2) old 26 ∧ old.size = 3)))
  have hbw3 : Bw w w3 := Bw.grown hbwk hg3 (fun k hk => by cases hk; omega)
  have hz3 : w.heap.size + 2 < w3.heap.size := by have := hg3.size; omega
  have HG3k := Lib.hid hg3
  clear hw3 hg3 HOWN HB0k HB2k hb1q hbq
  have z0 := HS3.out.cell 0 (v := .int .i64 R) rfl
  have z1 := HS3.out.cell 1 (v := .int .i64 C) rfl
  have z2 := HS3.out.cell 2 (v := .slice Ak n ck) rfl
  go_wp2_with (first
   | ((with_reducible refine wpList_store_gr R C Ak n ck (w.heap.size + 2) (.tmp 6) (.tmp 23) rfl rfl ?_ ?_ ?_ ?_); (focus rfl); (focus rfl); (focus (exact HB23.out)); intro w4 hS4 hg4; have HS4 := Lib.hid hS4; have HG4 := Lib.hid hg4; clear hS4 hg4)
   | fail)
  refine bodyPost_ret (results_gr rfl _ _ (w.heap.size + 2) R C Ak n ck (by rfl) HS4.out) rfl ?_
  have hO4 := HO3.out.kept HG4.out (.inr (fun e => by have := (HO3.out.lt _ e).1; omega))
  exact ⟨Ak, n, ck, rfl, by rw [HE.out]; exact Rg.of_own hO4, hkc, hkm, (fun ad e => by have := own_new hO4 ad e; omega), Bw.grown hbw3 HG4.out (fun k hk => by cases hk; omega)⟩
 ·cases hcv : cellB (d1, d2, d3, d4)
  ·have HV := Lib.hid hv
   have HCV := Lib.hid hcv
   have HE := Lib.hid (show fillG R C cs row fr tt (d1, d2, d3, d4) = cs from if_neg (by rw [hcv]; simp))
   clear hv hcv
   go_enter Tryz.func69, Tryz.ntmps69
   go_upto_region 1 with (fail)
   generalize hw1 : ((w.alloc (.cells #[.int .i64 R, .int .i64 C, .slice A n c] 26)).alloc _).alloc _ = w1
   obtain ⟨hb0, hb1, hb2, hbw, hz⟩ := sb3 hw1
   have HB0 := Lib.hid hb0
   have HB1 := Lib.hid (show Sb w1 (w.heap.size + 1) #[.int .i64 d1, .int .i64 d2, .int .i64 d3, .int .i64 d4] 53 from hb1)
   have HB2 := Lib.hid (show ∃ old, Sb w1 (w.heap.size + 2) old 26 ∧ old.size = 3 from ⟨_, hb2, rfl⟩)
   have hz1 : w.heap.size + 2 < w1.heap.size := by omega
   clear hw1 hb0 hb1 hb2 hz
   have x0 := HB0.out.cell 0 (v := .int .i64 R) rfl
   have x1 := HB0.out.cell 1 (v := .int .i64 C) rfl
   have x2 := HB0.out.cell 2 (v := .slice A n c) rfl
   go_upto_region 3 with (first
    | (go_at_call 31; refine (ggvalid_any R C A n c cs _ (by exact HR.out.up BWX) hn hc).mono ?_; rintro ee wv ⟨rfl, hbv⟩; rw [HV.out]; clear x0 x1 x2; have x2 := (HB0.out.up hbv).cell 2 (v := .slice A n c) rfl; have f2 := (HB0.out.up hbv).free 2; have c0 := (HB1.out.up hbv).cell 0 (v := .int .i64 d1) rfl; have c1 := (HB1.out.up hbv).cell 1 (v := .int .i64 d2) rfl; have c2 := (HB1.out.up hbv).cell 2 (v := .int .i64 d3) rfl; have c3 := (HB1.out.up hbv).cell 3 (v := .int .i64 d4) rfl; have hb1k := hbv; have hzv := hbv.size)
    | (go_at_call 67; refine (gcell_any d1 d2 d3 d4 _).mono ?_; rintro ee wu ⟨rfl, hbu⟩; rw [HCV.out]; clear x2 f2 c0 c1 c2 c3; have hb1k := Bw.trans hbv hbu; have hzu := hbu.size; have x2 := (HB0.out.up hb1k).cell 2 (v := .slice A n c) rfl; have f2 := (HB0.out.up hb1k).free 2)
    | (go_at_call 30; refine (gclone_any A n c cs _ (by exact HR.out.up BWX) hn hn3 hc).mono ?_; rintro ee wk ⟨vk, rfl, hown, hbk⟩; have hzk := hbk.size; have hb1q := Bw.trans hb1k hbk; clear x2 f2; have x2 := (HB0.out.up hb1q).cell 2 (v := .slice A n c) rfl; have f2 := (HB0.out.up hb1q).free 2; obtain ⟨Ak, ck, rfl, hkc, hkm⟩ := own_form hown; have HOWN := Lib.hid (own_mono hown (show w.heap.size + 3 ≤ _ by omega)); clear hown)
    | fail)
   have hbq := hb1q
   have HB0k := Lib.hid (HB0.out.up hbq)
   have HB2k := Lib.hid (Exists.elim HB2.out (fun old h => (⟨old, h.1.up hbq, h.2⟩ : ∃ old, Sb wk (w.heap.size + 2) old 26 ∧ old.size = 3)))
   have hbwk : Bw w wk := Bw.trans hbw hbq
   have hzk3 : w.heap.size + 2 < wk.heap.size := by have := hbq.size; omega
   clear x2 f2
   generalize hw3 : World.setCell wk ⟨w.heap.size, 2, none⟩ (.slice Ak n ck) = w3
   have HS3 := Lib.hid (show Sb w3 w.heap.size (grV R C Ak n ck) 26 from by rw [← hw3]; exact HB0k.out.set 2 _ rfl)
   have hg3 : wk.grownBy w3 (some w.heap.size) := by rw [← hw3]; exact grown_set (grown_refl wk _) _ _
   have HO3 := Lib.hid (show w3.ownsRow (w.heap.size + 3) 53 4 (.slice Ak n ck) n (flat cs) from by rw [← hw3]; exact own_set_below HOWN.out (by omega) _)
   have HB23 := Lib.hid (Exists.elim HB2k.out (fun old h => (⟨old, h.1.far hg3 (by intro e; have := Option.some.inj e; omega), h.2⟩ : ∃ old, Sb w3 (w.heap.size + 2) old 26 ∧ old.size = 3)))
   have hbw3 : Bw w w3 := Bw.grown hbwk hg3 (fun k hk => by cases hk; omega)
   have hz3 : w.heap.size + 2 < w3.heap.size := by have := hg3.size; omega
   have HG3k := Lib.hid hg3
   clear hw3 hg3 HOWN HB0k HB2k hb1q hbq
   have z0 := HS3.out.cell 0 (v := .int .i64 R) rfl
   have z1 := HS3.out.cell 1 (v := .int .i64 C) rfl
   have z2 := HS3.out.cell 2 (v := .slice Ak n ck) rfl
   go_wp2_with (first
    | ((with_reducible refine wpList_store_gr R C Ak n ck (w.heap.size + 2) (.tmp 6) (.tmp 23) rfl rfl ?_ ?_ ?_ ?_); (focus rfl); (focus rfl); (focus (exact HB23.out)); intro w4 hS4 hg4; have HS4 := Lib.hid hS4; have HG4 := Lib.hid hg4; clear hS4 hg4)
    | fail)
   refine bodyPost_ret (results_gr rfl _ _ (w.heap.size + 2) R C Ak n ck (by rfl) HS4.out) rfl ?_
   have hO4 := HO3.out.kept HG4.out (.inr (fun e => by have := (HO3.out.lt _ e).1; omega))
   exact ⟨Ak, n, ck, rfl, by rw [HE.out]; exact Rg.of_own hO4, hkc, hkm, (fun ad e => by have := own_new hO4 ad e; omega), Bw.grown hbw3 HG4.out (fun k hk => by cases hk; omega)⟩
  ·have HE := Lib.hid (show fillG R C cs row fr tt (d1, d2, d3, d4) = _ from if_pos ⟨hv, hcv⟩)
   obtain ⟨Rn, Cn, rfl, rfl, h1, h2, h3, h4, hl, -⟩ := gridB_out hv
   simp only [Int.toNat_natCast] at HE
   have HV := Lib.hid hv
   have HCV := Lib.hid hcv
   have HR1 := Lib.hid h1
   have HR2 := Lib.hid h2
   have HC1 := Lib.hid h3
   have HC2 := Lib.hid h4
   have HLN := Lib.hid hl
   clear hv hcv hl
   go_enter Tryz.func69, Tryz.ntmps69
   go_upto_region 1 with (fail)
   generalize hw1 : ((w.alloc (.cells #[.int .i64 (Rn : Int), .int .i64 (Cn : Int), .slice A n c] 26)).alloc _).alloc _ = w1
   obtain ⟨hb0, hb1, hb2, hbw, hz⟩ := sb3 hw1
   have HB0 := Lib.hid hb0
   have HB1 := Lib.hid (show Sb w1 (w.heap.size + 1) #[.int .i64 d1, .int .i64 d2, .int .i64 d3, .int .i64 d4] 53 from hb1)
   have HB2 := Lib.hid (show ∃ old, Sb w1 (w.heap.size + 2) old 26 ∧ old.size = 3 from ⟨_, hb2, rfl⟩)
   have hz1 : w.heap.size + 2 < w1.heap.size := by omega
   clear hw1 hb0 hb1 hb2 hz
   have x0 := HB0.out.cell 0 (v := .int .i64 (Rn : Int)) rfl
   have x1 := HB0.out.cell 1 (v := .int .i64 (Cn : Int)) rfl
   have x2 := HB0.out.cell 2 (v := .slice A n c) rfl
   go_upto_region 3 with (first
    | (go_at_call 31; refine (ggvalid_any (Rn : Int) (Cn : Int) A n c cs _ (by exact HR.out.up BWX) hn hc).mono ?_; rintro ee wv ⟨rfl, hbv⟩; rw [HV.out]; clear x0 x1 x2; have x2 := (HB0.out.up hbv).cell 2 (v := .slice A n c) rfl; have f2 := (HB0.out.up hbv).free 2; have c0 := (HB1.out.up hbv).cell 0 (v := .int .i64 d1) rfl; have c1 := (HB1.out.up hbv).cell 1 (v := .int .i64 d2) rfl; have c2 := (HB1.out.up hbv).cell 2 (v := .int .i64 d3) rfl; have c3 := (HB1.out.up hbv).cell 3 (v := .int .i64 d4) rfl; have hb1k := hbv; have hzv := hbv.size)
    | (go_at_call 67; refine (gcell_any d1 d2 d3 d4 _).mono ?_; rintro ee wu ⟨rfl, hbu⟩; rw [HCV.out]; clear x2 f2 c0 c1 c2 c3; have hb1k := Bw.trans hbv hbu; have hzu := hbu.size; have x2 := (HB0.out.up hb1k).cell 2 (v := .slice A n c) rfl; have f2 := (HB0.out.up hb1k).free 2)
    | (go_at_call 30; refine (gclone_any A n c cs _ (by exact HR.out.up BWX) hn hn3 hc).mono ?_; rintro ee wk ⟨vk, rfl, hown, hbk⟩; have hzk := hbk.size; have hb1q := Bw.trans hb1k hbk; clear x2 f2; have x2 := (HB0.out.up hb1q).cell 2 (v := .slice A n c) rfl; have f2 := (HB0.out.up hb1q).free 2; obtain ⟨Ak, ck, rfl, hkc, hkm⟩ := own_form hown; have HOWN := Lib.hid (own_mono hown (show w.heap.size + 3 ≤ _ by omega)); clear hown)
    | fail)
   have hbq := hb1q
   have HB0k := Lib.hid (HB0.out.up hbq)
   have HB2k := Lib.hid (Exists.elim HB2.out (fun old h => (⟨old, h.1.up hbq, h.2⟩ : ∃ old, Sb wk (w.heap.size + 2) old 26 ∧ old.size = 3)))
   have hbwk : Bw w wk := Bw.trans hbw hbq
   have hzk3 : w.heap.size + 2 < wk.heap.size := by have := hbq.size; omega
   clear x2 f2
   generalize hw3 : World.setCell wk ⟨w.heap.size, 2, none⟩ (.slice Ak n ck) = w3
   have HS3 := Lib.hid (show Sb w3 w.heap.size (grV (Rn : Int) (Cn : Int) Ak n ck) 26 from by rw [← hw3]; exact HB0k.out.set 2 _ rfl)
   have hg3 : wk.grownBy w3 (some w.heap.size) := by rw [← hw3]; exact grown_set (grown_refl wk _) _ _
   have HO3 := Lib.hid (show w3.ownsRow (w.heap.size + 3) 53 4 (.slice Ak n ck) n (flat cs) from by rw [← hw3]; exact own_set_below HOWN.out (by omega) _)
   have HB23 := Lib.hid (Exists.elim HB2k.out (fun old h => (⟨old, h.1.far hg3 (by intro e; have := Option.some.inj e; omega), h.2⟩ : ∃ old, Sb w3 (w.heap.size + 2) old 26 ∧ old.size = 3)))
   have hbw3 : Bw w w3 := Bw.grown hbwk hg3 (fun k hk => by cases hk; omega)
   have hz3 : w.heap.size + 2 < w3.heap.size := by have := hg3.size; omega
   have HG3k := Lib.hid hg3
   clear hw3 hg3 HOWN HB0k HB2k hb1q hbq
   have hlen : n = Rn * Cn := HR.out.1.symm.trans HLN.out
   have hpos : 0 < n := by rw [hlen]; exact Nat.mul_pos (by omega) (by omega)
   obtain ⟨gp, sp, rfl, hgp, hWc⟩ := Wc.of_own HO3.out hpos
   have HW := Lib.hid hWc
   obtain ⟨a0, a1, a2, a3, a4, a5, a6, a7, a8⟩ := HY.out
   have l0 := lt_of_cell a0
   have l1 := lt_of_cell a1
   have l3 := lt_of_cell a3
   have l4 := lt_of_cell a4
   have l5 := lt_of_cell a5
   dsimp only at l0 l1 l3 l4 l5
   clear a0 a1 a2 a3 a4 a5 a6 a7 a8 hWc
   have HLE := Lib.hid hlen
   clear hlen
   have z2 := HS3.out.cell 2 (v := .slice (some ⟨gp, 0, none⟩) n ck) rfl
   go_upto_region 5 with (first
    | (go_at_call 93; rw [HLE.out]; refine (gfill1_go Rn Cn cs sp gp ck br bg bf bt bc row fr tt d1 d2 d3 d4 (.slice none 0 0) w3 HR1.out HR2.out HC1.out HC2.out HLN.out HW.out (by rw [← HLE.out]; exact hkc) hkm (cell_up HY.out.1 hbw3) (cell_up HY.out.2.1 hbw3) (cell_up HY.out.2.2.1 hbw3) (cell_up HY.out.2.2.2.1 hbw3) (cell_up HY.out.2.2.2.2.1 hbw3) (cell_up HY.out.2.2.2.2.2.1 hbw3) (cell_up HY.out.2.2.2.2.2.2.1 hbw3) (cell_up HY.out.2.2.2.2.2.2.2.1 hbw3) (cell_up HY.out.2.2.2.2.2.2.2.2 hbw3) ⟨by omega, by omega, by omega, by omega, by omega⟩).mono ?_; rintro ee w5 ⟨⟨rv, rfl⟩, hW5, hg5⟩; have HW5 := Lib.hid hW5; have HG5 := Lib.hid hg5; clear hW5 hg5)
    | fail)
   have hg5 := HG5.out
   have hgb : ∀ k, k < w.heap.size + 3 → some k ≠ some gp := fun k hk e => by have := Option.some.inj e; omega
   have HS5 := Lib.hid (HS3.out.far hg5 (hgb _ (by omega)))
   have HB25 := Lib.hid (Exists.elim HB23.out (fun old h => (⟨old, h.1.far hg5 (hgb _ (by omega)), h.2⟩ : ∃ old, Sb w5 (w.heap.size + 2) old 26 ∧ old.size = 3)))
   have hbw5 : Bw w w5 := Bw.grown hbw3 hg5 (fun k hk => by cases hk; omega)
   clear z2
   have z0 := HS5.out.cell 0 (v := .int .i64 (Rn : Int)) rfl
   have z1 := HS5.out.cell 1 (v := .int .i64 (Cn : Int)) rfl
   have z2 := HS5.out.cell 2 (v := .slice (some ⟨gp, 0, none⟩) n ck) rfl
   go_wp2_with (first
    | ((with_reducible refine wpList_store_gr (Rn : Int) (Cn : Int) (some ⟨gp, 0, none⟩) n ck (w.heap.size + 2) (.tmp 6) (.tmp 23) rfl rfl ?_ ?_ ?_ ?_); (focus rfl); (focus rfl); (focus (exact HB25.out)); intro w6 hS6 hg6; have HS6 := Lib.hid hS6; have HG6 := Lib.hid hg6; clear hS6 hg6)
    | fail)
   refine bodyPost_ret (results_gr rfl _ _ (w.heap.size + 2) (Rn : Int) (Cn : Int) (some ⟨gp, 0, none⟩) n ck (by rfl) HS6.out) rfl ?_
   have hW6 : Wc w6 gp _ sp := (HG6.out.block gp HW5.out.lt (by intro e; have := Option.some.inj e; omega)).trans HW5.out
   have hrg := hW6.rg
   rw [tab_len, ← HLE.out] at hrg
   exact ⟨some ⟨gp, 0, none⟩, n, ck, rfl, by rw [HE.out]; exact hrg, hkc, hkm, (fun ad e => by cases e; dsimp only; omega), Bw.grown hbw5 HG6.out (fun k hk => by cases hk; omega)⟩
end Go.Proofs.YtkflooljdopldaaGreat

/- A canvas: lose. -/
namespace Go.Proofs.YtkflooljdopldaaGreat
open Go.RowKit

theorem cvgrown_own {w w1 w2 : World} {r : Option Nat} {e : TypeId} {s n : Nat} {v : Value} {xs : List Value} (h : w.grownBy w1 r) (ho : w1.ownsRow w.heap.size e s v n xs) (hg : w1.grownBy w2 v.ownBlock) : w.grownBy w2 r :=
 ⟨hg.os.trans h.os, hg.tape.trans h.tape, hg.output.trans h.output, Nat.le_trans h.size hg.size, fun k hk hne => (hg.block k (Nat.lt_of_lt_of_le hk h.size) (fun e => by have := (ho.lt k e.symm).1; omega)).trans (h.block k hk hne)⟩

set_option maxRecDepth 100000 in
set_option maxHeartbeats 4000000 in
theorem cvlose_any (s : Scr) (fr : Bool) (cs : List C4) (nn : Int) (g : Nat) (w : World) (h : Sb w g (cvV s none 0 0 fr) 75) (hr : Rg w s.A s.n cs) (hn : s.n ≤ s.c) (hn3 : s.n ≤ 4398046511103) (hc : s.c ≤ 9223372036854775807) (hne : ∀ ad, s.A = some ad → some ad.block ≠ some g) (hn0 : 0 ≤ nn) (hn1 : nn ≤ 1000000) :
  Calls Tryz.prog 35 #[.pointer (some ⟨g, 0, none⟩), .int .i64 nn] w fun e w' => ∃ L k, CvP w g s L nn.toNat k fr e w' := by
 obtain ⟨j0, hj, hj0, hj1, hj2⟩ := info_parts infoL
 have HR := Lib.hid hr
 have HNE := Lib.hid hne
 have HS0 := Lib.hid h
 have hlt := h.lt
 clear hr hne h
 go_enter Tryz.func35, Tryz.ntmps35
 go_wp2_with fail
 go_loopw [6] (fun i wr => ∃ (q : Nat) (L : Option Addr) (k : Nat) (vs : List Value), i = .int .i64 q ∧ (q : Int) ≤ nn ∧ Sb wr g (cvV s L q k fr) 75 ∧ wr.ownsRow w.heap.size 24 1 (.slice L q k) q vs ∧ w.grownBy wr (some g)) (fun i _ => (nn - intOf i).toNat)
 case atStart => exact ⟨0, none, 0, [], rfl, hn0, HS0.out, World.ownsRow_nil _ _ _ _, grown_refl _ _⟩
 case round =>
  obtain ⟨q, L, k, vs, rfl, hq, hS, hown, hg⟩ := hrel
  have HB := Lib.hid hS
  have HO := Lib.hid hown
  have HG := Lib.hid hg
  have hzr := hg.size
  have hbo : (Value.slice L q k).ownBlock ≠ some g := fun e => by have := (hown.lt g e).1; omega
  have HBO := Lib.hid hbo
  by_cases hlt2 : (q : Int) < nn
  ·have HRr := Lib.hid (HR.out.far hg HNE.out)
   have hltr := hS.lt
   (have x0 := HB.out.cell 0 (v := .int .i64 (s.Rn : Int)) rfl; have x1 := HB.out.cell 1 (v := .int .i64 (s.Cn : Int)) rfl; have x2 := HB.out.cell 2 (v := .slice s.A s.n s.c) rfl)
   have x19 := HB.out.cell 19 (v := .slice L q k) rfl
   clear hS hown hg hbo
   go_upto_region 3 with (fail)
   have HY := Lib.hid (show ∀ w', Bw wr w' → (w'.cell? ⟨g, 0, none⟩ = some (.int .i64 (s.Rn : Int)) ∧ w'.cell? ⟨g, 1, none⟩ = some (.int .i64 (s.Cn : Int)) ∧ w'.cell? ⟨g, 2, none⟩ = some (.slice s.A s.n s.c)) from fun w' hb => ⟨(HB.out.up hb).cell 0 rfl, (HB.out.up hb).cell 1 rfl, (HB.out.up hb).cell 2 rfl⟩)
   have HYs := Lib.hid (show ∀ (w' : World) (v : Value), (w'.cell? ⟨g, 0, none⟩ = some (.int .i64 (s.Rn : Int)) ∧ w'.cell? ⟨g, 1, none⟩ = some (.int .i64 (s.Cn : Int)) ∧ w'.cell? ⟨g, 2, none⟩ = some (.slice s.A s.n s.c)) → ((w'.setCell ⟨g, 19, none⟩ v).cell? ⟨g, 0, none⟩ = some (.int .i64 (s.Rn : Int)) ∧ (w'.setCell ⟨g, 19, none⟩ v).cell? ⟨g, 1, none⟩ = some (.int .i64 (s.Cn : Int)) ∧ (w'.setCell ⟨g, 19, none⟩ v).cell? ⟨g, 2, none⟩ = some (.slice s.A s.n s.c)) from fun w' v h => ⟨cell_ne h.1 (by omega), cell_ne h.2.1 (by omega), cell_ne h.2.2 (by omega)⟩)
   refine wp_region_held_drew (S := (fun w' => w'.cell? ⟨g, 0, none⟩ = some (.int .i64 (s.Rn : Int)) ∧ w'.cell? ⟨g, 1, none⟩ = some (.int .i64 (s.Cn : Int)) ∧ w'.cell? ⟨g, 2, none⟩ = some (.slice s.A s.n s.c))) (by kernel_rfl) ?_ (fun hHeld => ?_)
   ·(try dsimp only); (first | exact HK7.out | exact HYs.out _ _ HK7.out | (refine HY.out _ ?_; exact BWX))
   refine tkQ 0 ?_
   refine tkQ 1 ?_
   refine tkQ 2 ?_
   (try simp only [Act.put, zP1, zP2, zP3, zP4, zP5, zP6])
   refine tkQ 3 ?_
   refine tkQ 5 ?_
   refine tkQ 6 ?_
   (try simp only [Act.put, zP1, zP2, zP3, zP4, zP5, zP6])
   refine tkQ 7 ?_
   refine tkQ 8 ?_
   refine tkQ 9 ?_
   (try simp only [Act.put, zP1, zP2, zP3, zP4, zP5, zP6])
   refine tkQ 10 ?_
   (try simp only [Act.put, zP1, zP2, zP3, zP4, zP5, zP6])
   refine wpAnyH_ready (rs := [4, 11]) (by kernel_rfl) (by simp) ?_
   refine AllReadyH.cons rfl (fun K hK => ?_) ?_
   ·go_simp
    refine hK.out _ _ ?_ (fun hHeld => ?_)
    ·(try dsimp only); (first | exact HK7.out | exact HYs.out _ _ HK7.out | (refine HY.out _ ?_; exact BWX))
    clear hK K
    (try simp only [Act.put, zP1, zP2, zP3, zP4, zP5, zP6])
    refine wpAnyH_ready (rs := [11]) (by kernel_rfl) (by simp) ?_
    refine AllReadyH.cons rfl (fun K hK => ?_) ?_
    ·go_simp
     refine (grow_any s.Rn s.Cn s.A s.n s.c cs q _ (HRr.out.up BWX) hn hn3 hc).mono ?_; rintro ee w2 ⟨Ar, nr, cr, rfl, -, -, -, -, hb2⟩; have hbw2 : Bw wr w2 := Bw.trans (show Bw wr _ from BWX) hb2; have HO2 := Lib.hid (HO.out.bw hbw2); have HB2 := Lib.hid (HB.out.up hbw2); have hz2 := hbw2.size; have hltw2 := HB2.out.lt; have y19 := HB2.out.cell 19 (v := .slice L q k) rfl; clear hb2; go_wp2_with fail
     refine hK.out _ _ ?_ (fun hHeld => ?_)
     ·(try dsimp only); (first | exact HK7.out | exact HYs.out _ _ HK7.out | (refine HY.out _ ?_; exact BWX))
     clear hK K
     (try simp only [Act.put, zP1, zP2, zP3, zP4, zP5, zP6])
     refine wpAnyH_ready (rs := [12]) (by kernel_rfl) (by simp) ?_
     refine AllReadyH.cons rfl (fun K hK => ?_) ?_
     ·go_simp
      refine hK.out _ _ ?_ (fun hHeld => ?_)
      ·(try dsimp only); (first | exact HK7.out | exact HYs.out _ _ HK7.out | (refine HY.out _ ?_; exact BWX))
      clear hK K
      (try simp only [Act.put, zP1, zP2, zP3, zP4, zP5, zP6])
      refine wpAnyH_ready (rs := [13]) (by kernel_rfl) (by simp) ?_
      refine AllReadyH.cons rfl (fun K hK => ?_) ?_
      ·refine step_append_srcG (by rfl) (.tmp 13) (.tmp 21) 40 rfl w.heap.size 24 j0 (.slice none 0 0) 1 24 Tryz.underlying40 hj hj0 hj1 hj2 rfl (by decide) (.slice L q k) q vs (by rfl) (by exact HO.out.bw BWX) (some ⟨_, 0, none⟩) 1 1 [.slice Ar nr cr] (by rfl) rfl (fun e => by cases e) (fun ad e => by cases e; exact cell_one_new _ _ _) (by simp; rfl) (by unfold maxLen; omega) (by omega) (by simp only [szA, szS, szD, szN]; omega) ?_; intro v7 w7 hown7 hg7; obtain ⟨A7, c7, rfl, hc7, hc7m⟩ := own_form hown7; have HO7 := Lib.hid hown7; have HG7 := Lib.hid hg7; have HB7 := Lib.hid ((HB.out.up (show Bw wr _ from BWX)).far HG7.out (Ne.symm HBO.out)); have z19 := HB7.out.free 19; have y7 := HB7.out.cell 19 (v := .slice L q k) rfl; have hgr7 : w.grownBy w7 (some g) := cvgrown_own (HG.out.trans (grown_bw (show Bw wr _ from BWX) _)) (show World.ownsRow _ w.heap.size 24 1 (.slice L q k) q vs by exact HO.out.bw BWX) HG7.out; have HK7 := Lib.hid (And.intro (cell_far hHeld.1 hg7 (Ne.symm HBO.out)) (And.intro (cell_far hHeld.2.1 hg7 (Ne.symm HBO.out)) (cell_far hHeld.2.2 hg7 (Ne.symm HBO.out)))); clear hown7 hg7
       refine hK.out _ _ ?_ (fun hHeld => ?_)
       ·(try dsimp only); (first | exact HK7.out | exact HYs.out _ _ HK7.out | (refine HY.out _ ?_; exact BWX))
       clear hK K
       (try simp only [Act.put, zP1, zP2, zP3, zP4, zP5, zP6])
       refine tkQ 14 ?_
       refine tkQ 15 ?_
       (try simp only [Act.put, zP1, zP2, zP3, zP4, zP5, zP6])
       refine wpAnyH_ready (rs := [16]) (by kernel_rfl) (by simp) ?_
       refine AllReadyH.cons rfl (fun K hK => ?_) ?_
       ·go_simp
        refine hK.out _ _ ?_ (fun hHeld => ?_)
        ·(try dsimp only); (first | exact HK7.out | exact HYs.out _ _ HK7.out | (refine HY.out _ ?_; exact BWX))
        clear hK K
        (try simp only [Act.put, zP1, zP2, zP3, zP4, zP5, zP6])
        refine wpAnyH_done (by kernel_rfl) ?_ _
        go_wp2_with fail
        go_roundw
        case rel => exact ⟨q + 1, A7, c7, _, by go_num, by omega, HB7.out.set 19 _ rfl, own_set_below HO7.out (by omega) _, grown_set hgr7 19 _⟩
        case measure => simp [intOf]; omega
       exact AllReadyH.nil
      exact AllReadyH.nil
     exact AllReadyH.nil
    exact AllReadyH.nil
   refine AllReadyH.cons rfl (fun K hK => ?_) ?_
   ·go_simp
    refine (grow_any s.Rn s.Cn s.A s.n s.c cs q _ (HRr.out.up BWX) hn hn3 hc).mono ?_; rintro ee w2 ⟨Ar, nr, cr, rfl, -, -, -, -, hb2⟩; have hbw2 : Bw wr w2 := Bw.trans (show Bw wr _ from BWX) hb2; have HO2 := Lib.hid (HO.out.bw hbw2); have HB2 := Lib.hid (HB.out.up hbw2); have hz2 := hbw2.size; have hltw2 := HB2.out.lt; have y19 := HB2.out.cell 19 (v := .slice L q k) rfl; clear hb2; go_wp2_with fail
    refine hK.out _ _ ?_ (fun hHeld => ?_)
    ·(try dsimp only); (first | exact HK7.out | exact HYs.out _ _ HK7.out | (refine HY.out _ ?_; exact BWX))
    clear hK K
    (try simp only [Act.put, zP1, zP2, zP3, zP4, zP5, zP6])
    refine wpAnyH_ready (rs := [4, 12]) (by kernel_rfl) (by simp) ?_
    refine AllReadyH.cons rfl (fun K hK => ?_) ?_
    ·go_simp
     refine hK.out _ _ ?_ (fun hHeld => ?_)
     ·(try dsimp only); (first | exact HK7.out | exact HYs.out _ _ HK7.out | (refine HY.out _ ?_; exact BWX))
     clear hK K
     (try simp only [Act.put, zP1, zP2, zP3, zP4, zP5, zP6])
     refine wpAnyH_ready (rs := [12]) (by kernel_rfl) (by simp) ?_
     refine AllReadyH.cons rfl (fun K hK => ?_) ?_
     ·go_simp
      refine hK.out _ _ ?_ (fun hHeld => ?_)
      ·(try dsimp only); (first | exact HK7.out | exact HYs.out _ _ HK7.out | (refine HY.out _ ?_; exact BWX))
      clear hK K
      (try simp only [Act.put, zP1, zP2, zP3, zP4, zP5, zP6])
      refine wpAnyH_ready (rs := [13]) (by kernel_rfl) (by simp) ?_
      refine AllReadyH.cons rfl (fun K hK => ?_) ?_
      ·refine step_append_srcG (by rfl) (.tmp 13) (.tmp 21) 40 rfl w.heap.size 24 j0 (.slice none 0 0) 1 24 Tryz.underlying40 hj hj0 hj1 hj2 rfl (by decide) (.slice L q k) q vs (by rfl) (by exact HO.out.bw BWX) (some ⟨_, 0, none⟩) 1 1 [.slice Ar nr cr] (by rfl) rfl (fun e => by cases e) (fun ad e => by cases e; exact cell_one_new _ _ _) (by simp; rfl) (by unfold maxLen; omega) (by omega) (by simp only [szA, szS, szD, szN]; omega) ?_; intro v7 w7 hown7 hg7; obtain ⟨A7, c7, rfl, hc7, hc7m⟩ := own_form hown7; have HO7 := Lib.hid hown7; have HG7 := Lib.hid hg7; have HB7 := Lib.hid ((HB.out.up (show Bw wr _ from BWX)).far HG7.out (Ne.symm HBO.out)); have z19 := HB7.out.free 19; have y7 := HB7.out.cell 19 (v := .slice L q k) rfl; have hgr7 : w.grownBy w7 (some g) := cvgrown_own (HG.out.trans (grown_bw (show Bw wr _ from BWX) _)) (show World.ownsRow _ w.heap.size 24 1 (.slice L q k) q vs by exact HO.out.bw BWX) HG7.out; have HK7 := Lib.hid (And.intro (cell_far hHeld.1 hg7 (Ne.symm HBO.out)) (And.intro (cell_far hHeld.2.1 hg7 (Ne.symm HBO.out)) (cell_far hHeld.2.2 hg7 (Ne.symm HBO.out)))); clear hown7 hg7
       refine hK.out _ _ ?_ (fun hHeld => ?_)
       ·(try dsimp only); (first | exact HK7.out | exact HYs.out _ _ HK7.out | (refine HY.out _ ?_; exact BWX))
       clear hK K
       (try simp only [Act.put, zP1, zP2, zP3, zP4, zP5, zP6])
       refine tkQ 14 ?_
       refine tkQ 15 ?_
       (try simp only [Act.put, zP1, zP2, zP3, zP4, zP5, zP6])
       refine wpAnyH_ready (rs := [16]) (by kernel_rfl) (by simp) ?_
       refine AllReadyH.cons rfl (fun K hK => ?_) ?_
       ·go_simp
        refine hK.out _ _ ?_ (fun hHeld => ?_)
        ·(try dsimp only); (first | exact HK7.out | exact HYs.out _ _ HK7.out | (refine HY.out _ ?_; exact BWX))
        clear hK K
        (try simp only [Act.put, zP1, zP2, zP3, zP4, zP5, zP6])
        refine wpAnyH_done (by kernel_rfl) ?_ _
        go_wp2_with fail
        go_roundw
        case rel => exact ⟨q + 1, A7, c7, _, by go_num, by omega, HB7.out.set 19 _ rfl, own_set_below HO7.out (by omega) _, grown_set hgr7 19 _⟩
        case measure => simp [intOf]; omega
       exact AllReadyH.nil
      exact AllReadyH.nil
     exact AllReadyH.nil
    refine AllReadyH.cons rfl (fun K hK => ?_) ?_
    ·go_simp
     refine hK.out _ _ ?_ (fun hHeld => ?_)
     ·(try dsimp only); (first | exact HK7.out | exact HYs.out _ _ HK7.out | (refine HY.out _ ?_; exact BWX))
     clear hK K
     (try simp only [Act.put, zP1, zP2, zP3, zP4, zP5, zP6])
     refine wpAnyH_ready (rs := [4]) (by kernel_rfl) (by simp) ?_
     refine AllReadyH.cons rfl (fun K hK => ?_) ?_
     ·go_simp
      refine hK.out _ _ ?_ (fun hHeld => ?_)
      ·(try dsimp only); (first | exact HK7.out | exact HYs.out _ _ HK7.out | (refine HY.out _ ?_; exact BWX))
      clear hK K
      (try simp only [Act.put, zP1, zP2, zP3, zP4, zP5, zP6])
      refine wpAnyH_ready (rs := [13]) (by kernel_rfl) (by simp) ?_
      refine AllReadyH.cons rfl (fun K hK => ?_) ?_
      ·refine step_append_srcG (by rfl) (.tmp 13) (.tmp 21) 40 rfl w.heap.size 24 j0 (.slice none 0 0) 1 24 Tryz.underlying40 hj hj0 hj1 hj2 rfl (by decide) (.slice L q k) q vs (by rfl) (by exact HO.out.bw BWX) (some ⟨_, 0, none⟩) 1 1 [.slice Ar nr cr] (by rfl) rfl (fun e => by cases e) (fun ad e => by cases e; exact cell_one_new _ _ _) (by simp; rfl) (by unfold maxLen; omega) (by omega) (by simp only [szA, szS, szD, szN]; omega) ?_; intro v7 w7 hown7 hg7; obtain ⟨A7, c7, rfl, hc7, hc7m⟩ := own_form hown7; have HO7 := Lib.hid hown7; have HG7 := Lib.hid hg7; have HB7 := Lib.hid ((HB.out.up (show Bw wr _ from BWX)).far HG7.out (Ne.symm HBO.out)); have z19 := HB7.out.free 19; have y7 := HB7.out.cell 19 (v := .slice L q k) rfl; have hgr7 : w.grownBy w7 (some g) := cvgrown_own (HG.out.trans (grown_bw (show Bw wr _ from BWX) _)) (show World.ownsRow _ w.heap.size 24 1 (.slice L q k) q vs by exact HO.out.bw BWX) HG7.out; have HK7 := Lib.hid (And.intro (cell_far hHeld.1 hg7 (Ne.symm HBO.out)) (And.intro (cell_far hHeld.2.1 hg7 (Ne.symm HBO.out)) (cell_far hHeld.2.2 hg7 (Ne.symm HBO.out)))); clear hown7 hg7
       refine hK.out _ _ ?_ (fun hHeld => ?_)
       ·(try dsimp only); (first | exact HK7.out | exact HYs.out _ _ HK7.out | (refine HY.out _ ?_; exact BWX))
       clear hK K
       (try simp only [Act.put, zP1, zP2, zP3, zP4, zP5, zP6])
       refine tkQ 14 ?_
       (try simp only [Act.put, zP1, zP2, zP3, zP4, zP5, zP6])
       refine tkQ 15 ?_
       (try simp only [Act.put, zP1, zP2, zP3, zP4, zP5, zP6])
       refine wpAnyH_ready (rs := [16]) (by kernel_rfl) (by simp) ?_
       refine AllReadyH.cons rfl (fun K hK => ?_) ?_
       ·go_simp
        refine hK.out _ _ ?_ (fun hHeld => ?_)
        ·(try dsimp only); (first | exact HK7.out | exact HYs.out _ _ HK7.out | (refine HY.out _ ?_; exact BWX))
        clear hK K
        (try simp only [Act.put, zP1, zP2, zP3, zP4, zP5, zP6])
        refine wpAnyH_done (by kernel_rfl) ?_ _
        go_wp2_with fail
        go_roundw
        case rel => exact ⟨q + 1, A7, c7, _, by go_num, by omega, HB7.out.set 19 _ rfl, own_set_below HO7.out (by omega) _, grown_set hgr7 19 _⟩
        case measure => simp [intOf]; omega
       exact AllReadyH.nil
      exact AllReadyH.nil
     exact AllReadyH.nil
    exact AllReadyH.nil
   exact AllReadyH.nil
  ·obtain rfl : nn = q := by omega
   go_wp2_with fail
   go_end0
   exact ⟨L, k, rfl, HB.out, HG.out⟩
end Go.Proofs.YtkflooljdopldaaGreat
