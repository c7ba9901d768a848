/- Parts of the proof, one after the other. -/
import Derived.Test.YtkflooljdopldaaGreatU43
import Derived.Test.YtkflooljdopldaaGreatU40
import Derived.Test.YtkflooljdopldaaGreatU45
import Derived.Test.YtkflooljdopldaaGreatU47
import Derived.Deep.RegionHeld3
import Derived.Deep.MidRow
set_option linter.unusedSimpArgs false
set_option linter.unusedVariables false
/- Resize: the cells that it makes (plain); copies within drawn regions. -/
namespace Go.Proofs.YtkflooljdopldaaGreat
open Go.RowKit

/-- A cell of a grid in another size. -/
def resF (Rn Cn : Nat) (cs : List C4) (r k : Nat) : C4 := atF Rn Cn cs r k blk
def rsR (R C : Int) (cs : List C4) (rows : Int) : Int := if gridB R C cs = true then clamp rows 30 else R
def rsC (R C : Int) (cs : List C4) (cols : Int) : Int := if gridB R C cs = true then clamp cols 100 else C
def rsG (R C : Int) (cs : List C4) (rows cols : Int) : List C4 := if gridB R C cs = true then tab (clamp rows 30).toNat (clamp cols 100).toNat (resF R.toNat C.toNat cs) else cs
def rowsTo (R' C' m : Nat) (F : Nat → Nat → C4) : List C4 := tab R' C' (fun r k => if r < m then F r k else blk)
def cpyC (dst : List C4) (k : Nat) (src : List C4) (p q : Nat) : List C4 := dst.take k ++ (src.drop p).take q ++ dst.drop (k + q)
theorem rowsTo_len (R' C' m : Nat) (F : Nat → Nat → C4) : (rowsTo R' C' m F).length = R' * C' := tab_len _ _ _
theorem rowsTo_at (R' C' m : Nat) (F : Nat → Nat → C4) (i : Nat) : (rowsTo R' C' m F)[i]? = if i < R' * C' then some (if i / C' < m then F (i / C') (i % C') else blk) else none := by
 by_cases h : i < R' * C'
 ·rw [if_pos h, List.getElem?_eq_getElem (by rw [rowsTo_len]; exact h)]
  simp [rowsTo, tab, tabK]
 ·rw [if_neg h, List.getElem?_eq_none (by rw [rowsTo_len]; omega)]
theorem rowsTo_zero (R' C' : Nat) (F : Nat → Nat → C4) : rowsTo R' C' 0 F = List.replicate (R' * C') blk := by
 refine List.ext_getElem? (fun i => ?_)
 rw [rowsTo_at, List.getElem?_replicate]
 simp
theorem rowsTo_all {Rn Cn R' C' M : Nat} {cs : List C4} (hC : 0 < C') (hM : Rn ≤ M ∨ R' ≤ M) : rowsTo R' C' M (resF Rn Cn cs) = tab R' C' (resF Rn Cn cs) := by
 refine tab_ext hC (fun r k hr hk => ?_)
 by_cases h : r < M
 ·rw [if_pos h]
 ·rw [if_neg h]
  unfold resF
  rw [atF_out (by omega)]
theorem cpyC_at {dst src : List C4} {k p q : Nat} (h1 : k + q ≤ dst.length) (h2 : p + q ≤ src.length) (i : Nat) : (cpyC dst k src p q)[i]? = if i < k then dst[i]? else if i < k + q then src[p + (i - k)]? else dst[i]? := by
 have e1 : (dst.take k).length = k := by rw [List.length_take]; omega
 have e2 : ((src.drop p).take q).length = q := by rw [List.length_take, List.length_drop]; omega
 have e3 : (dst.take k ++ (src.drop p).take q).length = k + q := by rw [List.length_append, e1, e2]
 unfold cpyC
 by_cases c1 : i < k
 ·rw [if_pos c1, List.getElem?_append_left (by rw [e3]; omega), List.getElem?_append_left (by rw [e1]; omega), List.getElem?_take, if_pos c1]
 ·rw [if_neg c1]
  by_cases c2 : i < k + q
  ·rw [if_pos c2, List.getElem?_append_left (by rw [e3]; omega), List.getElem?_append_right (by rw [e1]; omega), e1, List.getElem?_take, if_pos (by omega), List.getElem?_drop]
  ·rw [if_neg c2, List.getElem?_append_right (by rw [e3]; omega), e3, List.getElem?_drop]
   congr 1
   omega
theorem rowsTo_step {Rn Cn R' C' m : Nat} {cs : List C4} (hC : 0 < C') (hm : m < R') (hm2 : m < Rn) (hl : cs.length = Rn * Cn) :
  cpyC (rowsTo R' C' m (resF Rn Cn cs)) (m * C') cs (m * Cn) (min Cn C') = rowsTo R' C' (m + 1) (resF Rn Cn cs) := by
 have hq1 : (m + 1) * C' ≤ R' * C' := Nat.mul_le_mul_right _ hm
 have hq2 : (m + 1) * Cn ≤ Rn * Cn := Nat.mul_le_mul_right _ hm2
 rw [Nat.add_mul, Nat.one_mul] at hq1 hq2
 refine List.ext_getElem? (fun i => ?_)
 rw [cpyC_at (by rw [rowsTo_len]; omega) (by rw [hl]; omega), rowsTo_at, rowsTo_at]
 have hr : i / C' < m ↔ i < m * C' := Nat.div_lt_iff_lt_mul hC
 have hr1 : i / C' < m + 1 ↔ i < (m + 1) * C' := Nat.div_lt_iff_lt_mul hC
 rw [Nat.add_mul, Nat.one_mul] at hr1
 have hi : C' * (i / C') + i % C' = i := Nat.div_add_mod i C'
 have hk : i % C' < C' := Nat.mod_lt _ hC
 have e2 : C' * m = m * C' := Nat.mul_comm _ _
 by_cases c1 : i < m * C'
 ·rw [if_pos c1, if_pos (show i < R' * C' by omega), if_pos (hr.mpr c1), if_pos (show i < R' * C' by omega), if_pos (hr1.mpr (by omega))]
 ·rw [if_neg c1]
  by_cases c2 : i < m * C' + min Cn C'
  ·have e : i / C' = m := by have := hr1.mpr (by omega); have := fun h => c1 (hr.mp h); omega
   rw [if_pos c2, if_pos (by omega), if_pos (by omega), List.getElem?_eq_getElem (by rw [hl]; omega)]
   rw [e] at hi ⊢
   unfold resF
   rw [atF_in hm2 (by omega) hl]
   congr 2
   omega
  ·rw [if_neg c2]
   by_cases c4 : i < R' * C'
   ·rw [if_pos c4, if_pos c4, if_neg (fun h => c1 (hr.mp h))]
    by_cases c3 : i / C' < m + 1
    ·have e : i / C' = m := by have := fun h => c1 (hr.mp h); omega
     rw [e] at hi ⊢
     rw [if_pos (by omega)]
     unfold resF
     rw [atF_out (by omega)]
    ·rw [if_neg c3]
   ·rw [if_neg c4, if_neg c4]
theorem Wc.copied {w' : World} {g : Nat} {cs src : List C4} {sp : List Value} {k p q : Nat} (h1 : k + q ≤ cs.length) (h2 : p + q ≤ src.length)
  (h : w'.heap[g]? = some (.cells ((flat cs ++ sp).toArray.toList.take (k * 4) ++ flat ((src.drop p).take q) ++ (flat cs ++ sp).toArray.toList.drop (k * 4 + (flat ((src.drop p).take q)).length)).toArray 53 (0, 0))) : Wc w' g (cpyC cs k src p q) sp := by
 have hq : ((src.drop p).take q).length = q := by simp only [List.length_take, List.length_drop]; omega
 unfold Wc
 rw [h, flat_len, hq]
 have e : flat (cpyC cs k src p q) = (flat cs).take (k * 4) ++ flat ((src.drop p).take q) ++ (flat cs).drop ((k + q) * 4) := by
  unfold cpyC
  rw [flat_app, flat_app, flat_take cs k, flat_drop cs (k + q)]
 rw [e]
 simp only [List.toList_toArray]
 rw [List.take_append_of_le_length (by rw [flat_len]; omega), show k * 4 + q * 4 = (k + q) * 4 by omega, List.drop_append_of_le_length (by rw [flat_len]; omega)]
 simp
theorem wp_copyS {P : Program} {o : Oper} {a : Act} {w : World} {K : Act → World → Prop} {Q : Exit → Act → World → Prop} (d s : Operand) (dT sT : TypeId)
  (ho : o.op = .call { callee := .builtin .copy, args := #[d, s], argTypes := #[dT, sT] }) (elem : TypeId) (sz : Nat) (hu : P.underlying dT = some (.slice elem)) (hsz : (P.info? elem).map (·.size) = some sz)
  (g off dLen dCap : Nat) (ad : Addr) (sLen sCap : Nat) (hd : a.eval d = .slice (some ⟨g, off, none⟩) dLen dCap) (hs : a.eval s = .slice (some ad) sLen sCap)
  (cur : Array Value) (t : TypeId) (hg : w.heap[g]? = some (.cells cur t (0, 0))) (cs : List Value) (hn : cs.length = Nat.min sLen dLen * sz)
  (hsrc : ∀ j v, cs[j]? = some v → w.cell? (ad.add j) = some v) (hfit : off + cs.length ≤ cur.size) (h1 : ∀ v ∈ cs, v.oneCell' = true)
  (h : ∀ w', w'.heap[g]? = some (.cells (cur.toList.take off ++ cs ++ cur.toList.drop (off + cs.length)).toArray t (0, 0)) → w.grownBy w' (some g) → K (a.put o.dst (goInt (Nat.min sLen dLen))) w') : Oper.wp P o a w K Q := by
 have hrun := run_copy_rowS (P := P) w dT sT o.type elem g off dLen dCap ad sLen sCap cur t cs sz hu hsz hg hn hsrc hfit h1
 unfold Oper.wp
 unfold execOp
 simp only [ho, resolve, invoke, builtin, Sem.run_bind, Sem.run_pure, Result.andThen_ok, List.map_toArray, List.map_cons, List.map_nil, hd, hs, hrun]
 exact h _ (setRow_heap w g _ _ t _ hg) ⟨rfl, rfl, rfl, by simp [World.setRow], fun k hk hne => setRow_other w g k _ (fun e => hne (by rw [e]))⟩
end Go.Proofs.YtkflooljdopldaaGreat

/- The program's Resize. -/
namespace Go.Proofs.YtkflooljdopldaaGreat
open Go.RowKit

theorem Rg.lt0 {w : World} {A : Option Addr} {n : Nat} {cs : List C4} (h : Rg w A n cs) (h0 : 0 < cs.length) : ∀ ad, A = some ad → ad.block < w.heap.size := fun ad e => by
 obtain ⟨g, o, e2, hx⟩ := h.2 (by have := h.1; omega)
 rw [e2] at e
 cases e
 simpa using lt_of_cell (hx 0 h0).1
set_option maxRecDepth 100000 in
set_option maxHeartbeats 8000000 in
theorem gresize_no (R C : Int) (A : Option Addr) (n c : Nat) (cs : List C4) (rows cols : Int) (w : World) (hr : Rg w A n cs) (hn : n ≤ c) (hn3 : n ≤ 4398046511103) (hc : c ≤ 9223372036854775807) (hv : gridB R C cs = false) :
  Calls Tryz.prog 38 #[.agg #[.int .i64 R, .int .i64 C, .slice A n c], .int .i64 rows, .int .i64 cols] w (GrN w R C cs) := by
 have HR := Lib.hid hr
 have HV := Lib.hid hv
 clear hr hv
 go_enter Tryz.func38, Tryz.ntmps38
 go_upto_region 1 with (fail)
 generalize hw1 : (w.alloc (.cells #[.int .i64 R, .int .i64 C, .slice A n c] 26)).alloc _ = w1
 obtain ⟨hb0, hb1, hbw, hz⟩ := sb2 hw1
 have HB0 := Lib.hid hb0
 have HB1 := Lib.hid (show ∃ old, Sb w1 (w.heap.size + 1) old 26 ∧ old.size = 3 from ⟨_, hb1, rfl⟩)
 have hz1 : w.heap.size + 1 < w1.heap.size := by omega
 clear hw1 hb0 hb1 hz
 have x0 := HB0.out.cell 0 (v := .int .i64 R) rfl
 have x1 := HB0.out.cell 1 (v := .int .i64 C) rfl
 have x2 := HB0.out.cell 2 (v := .slice A n c) rfl
 go_upto_region 3 with (first
  | (go_at_call 31; refine (ggvalid_any R C A n c cs _ (by exact HR.out.up BWX) hn hc).mono ?_; rintro ee wv ⟨rfl, hbv⟩; rw [HV.out]; clear x0 x1 x2; have x2 := (HB0.out.up hbv).cell 2 (v := .slice A n c) rfl; have f2 := (HB0.out.up hbv).free 2; have hb1k := hbv; have hzv := hbv.size)
  | (go_at_call 30; refine (gclone_any A n c cs _ (by exact HR.out.up BWX) hn hn3 hc).mono ?_; rintro ee wk ⟨vk, rfl, hown, hbk⟩; have hzk := hbk.size; have hb1q := Bw.trans hb1k hbk; clear x2 f2; have x2 := (HB0.out.up hb1q).cell 2 (v := .slice A n c) rfl; have f2 := (HB0.out.up hb1q).free 2; obtain ⟨Ak, ck, rfl, hkc, hkm⟩ := own_form hown; have HOWN := Lib.hid (own_mono hown (show w.heap.size + 2 ≤ _ by omega)); clear hown)
  | fail)
 have hbq := hb1q
 have HB0k := Lib.hid (HB0.out.up hbq)
 have HB1k := Lib.hid (Exists.elim HB1.out (fun old h => (⟨old, h.1.up hbq, h.2⟩ : ∃ old, Sb wk (w.heap.size + 1) old 26 ∧ old.size = 3)))
 have hbwk : Bw w wk := Bw.trans hbw hbq
 have hzk3 : w.heap.size + 1 < wk.heap.size := by have := hbq.size; omega
 clear x2 f2
 generalize hw3 : World.setCell wk ⟨w.heap.size, 2, none⟩ (.slice Ak n ck) = w3
 have HS3 := Lib.hid (show Sb w3 w.heap.size (grV R C Ak n ck) 26 from by rw [← hw3]; exact HB0k.out.set 2 _ rfl)
 have hg3 : wk.grownBy w3 (some w.heap.size) := by rw [← hw3]; exact grown_set (grown_refl wk _) _ _
 have HO3 := Lib.hid (show w3.ownsRow (w.heap.size + 2) 53 4 (.slice Ak n ck) n (flat cs) from by rw [← hw3]; exact own_set_below HOWN.out (by omega) _)
 have HB13 := Lib.hid (Exists.elim HB1k.out (fun old h => (⟨old, h.1.far hg3 (by intro e; have := Option.some.inj e; omega), h.2⟩ : ∃ old, Sb w3 (w.heap.size + 1) old 26 ∧ old.size = 3)))
 have hbw3 : Bw w w3 := Bw.grown hbwk hg3 (fun k hk => by cases hk; omega)
 have hz3 : w.heap.size + 1 < w3.heap.size := by have := hg3.size; omega
 clear hw3 hg3 HOWN HB0k HB1k hb1q hbq
 have z0 := HS3.out.cell 0 (v := .int .i64 R) rfl
 have z1 := HS3.out.cell 1 (v := .int .i64 C) rfl
 have z2 := HS3.out.cell 2 (v := .slice Ak n ck) rfl
 go_wp2_with (first
  | ((with_reducible refine wpList_store_gr R C Ak n ck (w.heap.size + 1) (.tmp 6) (.tmp 16) rfl rfl ?_ ?_ ?_ ?_); (focus rfl); (focus rfl); (focus (exact HB13.out)); intro w4 hS4 hg4; have HS4 := Lib.hid hS4; have HG4 := Lib.hid hg4; clear hS4 hg4)
  | fail)
 refine bodyPost_ret (results_gr rfl _ _ (w.heap.size + 1) R C Ak n ck (by rfl) HS4.out) rfl ?_
 have hO4 := HO3.out.kept HG4.out (.inr (fun e => by have := (HO3.out.lt _ e).1; omega))
 exact ⟨Ak, n, ck, rfl, Rg.of_own hO4, hkc, hkm, (fun ad e => by have := own_new hO4 ad e; omega), Bw.grown hbw3 HG4.out (fun k hk => by cases hk; omega)⟩

/-- The grid R' x C' in box g7, its m first rows copied. -/
def RzR (w : World) (Rn Cn : Nat) (A : Option Addr) (n c : Nat) (cs : List C4) (g7 gp R' C' n2 c2 m : Nat) (sp : List Value) (wr : World) : Prop :=
 Sb wr w.heap.size (grV Rn Cn A n c) 26 ∧ Sb wr g7 (grV R' C' (some ⟨gp, 0, none⟩) n2 c2) 26 ∧ (∃ old, Sb wr (w.heap.size + 1) old 26 ∧ old.size = 3) ∧ Wc wr gp (rowsTo R' C' m (resF Rn Cn cs)) sp ∧ Rg wr A n cs ∧ Bw w wr

set_option maxRecDepth 100000 in
set_option maxHeartbeats 8000000 in
theorem gresize_go (Rn Cn : Nat) (A : Option Addr) (n c : Nat) (cs : List C4) (rows cols : Int) (w : World) (hr : Rg w A n cs) (hn : n ≤ c) (hc : c ≤ 9223372036854775807) (hR1 : 1 ≤ Rn) (hR2 : Rn ≤ 30) (hC1 : 1 ≤ Cn) (hC2 : Cn ≤ 100) (hl : cs.length = Rn * Cn) (hv : gridB Rn Cn cs = true) :
  Calls Tryz.prog 38 #[.agg #[.int .i64 (Rn : Int), .int .i64 (Cn : Int), .slice A n c], .int .i64 rows, .int .i64 cols] w (GrN w (clamp rows 30) (clamp cols 100) (tab (clamp rows 30).toNat (clamp cols 100).toNat (resF Rn Cn cs))) := by
 have HR := Lib.hid hr
 have HV := Lib.hid hv
 have HL := Lib.hid hl
 have hcl : 0 < cs.length := by rw [hl]; exact Nat.mul_pos (by omega) (by omega)
 have hAlt := hr.lt0 hcl
 have hnl := hr.1
 have HNL := Lib.hid hnl
 obtain ⟨gs, os, rfl, -⟩ := hr.2 (by omega)
 have hgs : gs < w.heap.size := hAlt _ rfl
 have h1 := clamp_bd rows 30 (by omega)
 have h2 := clamp_bd cols 100 (by omega)
 have HN := Lib.hid (gnew16_own rows cols)
 obtain ⟨R', hR⟩ : ∃ R' : Nat, clamp rows 30 = R' := ⟨(clamp rows 30).toNat, by omega⟩
 obtain ⟨C', hC⟩ : ∃ C' : Nat, clamp cols 100 = C' := ⟨(clamp cols 100).toNat, by omega⟩
 rw [hR] at h1 HN ⊢
 rw [hC] at h2 HN ⊢
 simp only [Int.toNat_natCast]
 clear hR hC hr hv hl hnl hAlt
 obtain ⟨h1, h3⟩ := h1
 obtain ⟨h2, h4⟩ := h2
 obtain ⟨M, hM⟩ : ∃ M : Nat, ((R' : Int) ≤ Rn ∧ M = R') ∨ ((Rn : Int) < R' ∧ M = Rn) := by
  rcases Decidable.em ((Rn : Int) < (R' : Int)) with h | h
  ·exact ⟨Rn, .inr ⟨h, rfl⟩⟩
  ·exact ⟨R', .inl ⟨by omega, rfl⟩⟩
 have hM1 : M ≤ R' := by omega
 have hM2 : M ≤ Rn := by omega
 have HM := Lib.hid hM
 clear hM
 go_enter Tryz.func38, Tryz.ntmps38
 go_upto_region 1 with (fail)
 generalize hw1 : (w.alloc (.cells #[.int .i64 (Rn : Int), .int .i64 (Cn : Int), .slice (some ⟨gs, os, none⟩) n c] 26)).alloc _ = w1
 obtain ⟨hb0, hb1, hbw, hz⟩ := sb2 hw1
 have HB0 := Lib.hid hb0
 have HB1 := Lib.hid (show ∃ old, Sb w1 (w.heap.size + 1) old 26 ∧ old.size = 3 from ⟨_, hb1, rfl⟩)
 have hz1 : w.heap.size + 1 < w1.heap.size := by omega
 clear hw1 hb0 hb1 hz
 have x0 := HB0.out.cell 0 (v := .int .i64 (Rn : Int)) rfl
 have x1 := HB0.out.cell 1 (v := .int .i64 (Cn : Int)) rfl
 have x2 := HB0.out.cell 2 (v := .slice (some ⟨gs, os, none⟩) n c) rfl
 go_upto_region 5 with (first
  | (go_at_call 31; refine (ggvalid_any (Rn : Int) (Cn : Int) _ n c cs _ (by exact HR.out.up BWX) hn hc).mono ?_; rintro ee wv ⟨rfl, hbv⟩; rw [HV.out]; clear x0 x1 x2; have hzv := hbv.size)
  | (go_at_call 34; refine (HN.out _).mono ?_; rintro ee w2 ⟨A2, n2, c2, rfl, hown, hn2, hc2, hb2⟩; have hzb2 := hb2.size; have HOWN := Lib.hid hown; clear hown)
  | ((with_reducible refine wpList_store_gr (R' : Int) (C' : Int) A2 n2 c2 w2.heap.size (.tmp 7) (.tmp 19) rfl rfl ?_ ?_ ?_ ?_); (focus rfl); (focus rfl); (focus (exact ⟨_, heap_at rfl, rfl⟩)); intro w3 hS3 hg3; have HS3 := Lib.hid hS3; have HG3 := Lib.hid hg3; clear hS3 hg3)
  | fail)
 have hg3 := HG3.out
 have hb13 : Bw w1 w2 := Bw.trans hbv (by simpa using hb2)
 have hbw2 : Bw w w2 := Bw.trans hbw hb13
 have hb23 : Bw w2 w3 := Bw.grown (show Bw w2 (w2.alloc _) from BWX) hg3 (fun k hk => by cases hk; omega)
 have hw1v : w1.heap.size ≤ wv.heap.size := hzv
 have hown := HOWN.out
 have hlen := hown.1
 rw [flat_len] at hlen
 have hn2' : n2 = R' * C' := by
  have e : (List.replicate ((R' : Int) * (C' : Int)).toNat blk).length = R' * C' := by
   rw [List.length_replicate]
   have : ((R' : Int) * (C' : Int)) = ((R' * C' : Nat) : Int) := by simp
   rw [this]
   rfl
  rw [e] at hlen
  omega
 have hpos : 1 ≤ R' * C' := Nat.mul_pos (by omega) (by omega)
 obtain ⟨gp, sp, rfl, hgp1, hwc⟩ := Wc.of_own hown (by omega)
 have hgp2 := hwc.lt
 have hrep : (List.replicate ((R' : Int) * (C' : Int)).toNat blk) = rowsTo R' C' 0 (resF Rn Cn cs) := by
  rw [rowsTo_zero]
  have : ((R' : Int) * (C' : Int)) = ((R' * C' : Nat) : Int) := by simp
  rw [this]
  rfl
 rw [hrep] at hwc
 have hgpz : w.heap.size + 1 < gp := by first | omega | (simp at hgp1; omega)
 have HST := Lib.hid (show RzR w Rn Cn (some ⟨gs, os, none⟩) n c cs w2.heap.size gp R' C' n2 c2 0 sp w3 from ⟨HB0.out.up (Bw.trans hb13 hb23), HS3.out, Exists.elim HB1.out (fun old h => ⟨old, h.1.up (Bw.trans hb13 hb23), h.2⟩), hwc.up hb23, HR.out.up (Bw.trans hbw2 hb23), Bw.trans hbw2 hb23⟩)
 have hgpg : gp < w2.heap.size := hgp2
 have HN2 := Lib.hid hn2'
 obtain ⟨g7, hg7⟩ : ∃ g7, w2.heap.size = g7 := ⟨_, rfl⟩
 rw [hg7] at HST hgpg
 simp only [hg7]
 have y0 := HST.out.2.1.cell 0 (v := .int .i64 R') rfl
 have z0 := HST.out.1.cell 0 (v := .int .i64 (Rn : Int)) rfl
 clear hn2' hrep hwc hgp1 hgp2 hown hlen hb13 hbw2 hb23 hg3 HS3 HG3 HOWN HB0 HB1 HR hg7 hbv hb2 hzb2 hw1v hzv hz1
 dsimp only [Act.put]
 go_cut [24, 25] (fun s24 s25 w' => s24 = .int .i64 M ∧ s25 = .int .i64 0 ∧ w3 = w')
 case first =>
  go_wp2_with fail
  all_goals
   go_meet
   case rel => exact ⟨congrArg (Value.int .i64) (by have h9 := HM.out; omega), rfl, rfl⟩
 case rest =>
 obtain ⟨rfl, rfl, rfl⟩ := hcut
 clear y0 z0
 go_wp2_with fail
 go_loopw [25] (fun i wr => ∃ k : Nat, i = .int .i64 k ∧ k ≤ M ∧ RzR w Rn Cn (some ⟨gs, os, none⟩) n c cs g7 gp R' C' n2 c2 k sp wr) (fun i _ => M - (intOf i).toNat)
 case atStart => exact ⟨0, rfl, by omega, HST.out⟩
 case round =>
  rename_i wr
  obtain ⟨k, rfl, hk, hS0, hS7, hold, hW, hRg, hbwr⟩ := hrel
  have HS0 := Lib.hid hS0
  have HS7 := Lib.hid hS7
  have HOLD := Lib.hid hold
  have HWC := Lib.hid hW
  have HRG := Lib.hid hRg
  have HBW := Lib.hid hbwr
  clear hS0 hS7 hold hW hRg hbwr
  by_cases hlt : k < M
  ·have hkM : (k : Int) < M := by omega
   obtain ⟨p, hp⟩ : ∃ p : Nat, k * C' = p := ⟨_, rfl⟩
   obtain ⟨p2, hp2⟩ : ∃ p2 : Nat, p + C' = p2 := ⟨_, rfl⟩
   obtain ⟨s, hs⟩ : ∃ s : Nat, k * Cn = s := ⟨_, rfl⟩
   obtain ⟨s2, hs2⟩ : ∃ s2 : Nat, s + Cn = s2 := ⟨_, rfl⟩
   have hpi : (k : Int) * (C' : Int) = (p : Int) := by rw [← hp]; simp
   have hpj : ((k : Int) + 1) * (C' : Int) = (p2 : Int) := by rw [Int.add_mul, hpi, ← hp2]; simp
   have hsi : (k : Int) * (Cn : Int) = (s : Int) := by rw [← hs]; simp
   have hsj : ((k : Int) + 1) * (Cn : Int) = (s2 : Int) := by rw [Int.add_mul, hsi, ← hs2]; simp
   have hp2n : p2 ≤ n2 := by
    have := Nat.mul_le_mul_right C' (show k + 1 ≤ R' by omega)
    rw [HN2.out, ← hp2, ← hp]
    rw [Nat.add_mul, Nat.one_mul] at this
    exact this
   have hs2n : s2 ≤ n := by
    have := Nat.mul_le_mul_right Cn (show k + 1 ≤ Rn by omega)
    rw [← HNL.out, HL.out, ← hs2, ← hs]
    rw [Nat.add_mul, Nat.one_mul] at this
    exact this
   have hpm : p2 ≤ 3000 := by
    have := Nat.mul_le_mul (show k + 1 ≤ 30 by omega) (show C' ≤ 100 by omega)
    rw [Nat.add_mul, Nat.one_mul] at this
    omega
   have hsm : s2 ≤ 3000 := by
    have := Nat.mul_le_mul (show k + 1 ≤ 30 by omega) (show Cn ≤ 100 by omega)
    rw [Nat.add_mul, Nat.one_mul] at this
    omega
   have hpd : p2 - p = C' := by omega
   have hsd : s2 - s = Cn := by omega
   have hb1 : (0 : Int) ≤ (p : Int) := by omega
   have hb2 : (p : Int) ≤ (p2 : Int) := by omega
   have hb3 : (p2 : Int) ≤ (c2 : Int) := by omega
   have hd1 : (0 : Int) ≤ (s : Int) := by omega
   have hd2 : (s : Int) ≤ (s2 : Int) := by omega
   have hd3 : (s2 : Int) ≤ (c : Int) := by omega
   have hcq : ¬ c2 = p := by omega
   have hcq2 : ¬ c = s := by omega
   have hw1 : IntKind.i64.wrap ((k : Int) + 1) = (k : Int) + 1 := IntWalk.i64_in _ (by omega)
   have hw2 : IntKind.i64.wrap (p : Int) = (p : Int) := IntWalk.i64_in _ (by omega)
   have hw3 : IntKind.i64.wrap (p2 : Int) = (p2 : Int) := IntWalk.i64_in _ (by omega)
   have hw4 : IntKind.i64.wrap (s : Int) = (s : Int) := IntWalk.i64_in _ (by omega)
   have hw5 : IntKind.i64.wrap (s2 : Int) = (s2 : Int) := IntWalk.i64_in _ (by omega)
   have hgn : gp ≠ gs := by omega
   have hlens : (rowsTo R' C' k (resF Rn Cn cs)).length = n2 := by rw [rowsTo_len, HN2.out]
   have F1 : (flat ((cs.drop s).take (min Cn C'))).length = Nat.min Cn C' * 4 := by
    have h1 := HNL.out
    rw [flat_len, List.length_take, List.length_drop]
    have e : min (min Cn C') (cs.length - s) = Nat.min Cn C' := by show _ = min Cn C'; omega
    rw [e]
   have F2 : ∀ w', Bw wr w' → ∀ j v, (flat ((cs.drop s).take (min Cn C')))[j]? = some v → w'.cell? ((⟨gs, os + s * 4, none⟩ : Addr).add j) = some v := fun w' hb j v hv => ((HRG.out.up hb).sub s (min Cn C') (by omega)).news j v hv
   have F3 : p * 4 + (flat ((cs.drop s).take (min Cn C'))).length ≤ (flat (rowsTo R' C' k (resF Rn Cn cs)) ++ sp).toArray.size := by
    have h1 := HNL.out
    rw [flat_len, List.length_take, List.length_drop, List.size_toArray, List.length_append, flat_len, hlens]
    omega
   have HF := Lib.hid (And.intro F1 (And.intro F2 F3))
   have HLAW := Lib.hid (show cpyC (rowsTo R' C' k (resF Rn Cn cs)) p cs s (min Cn C') = rowsTo R' C' (k + 1) (resF Rn Cn cs) from by rw [← hp, ← hs]; exact rowsTo_step (by omega) (by omega) (by omega) HL.out)
   have HP := Lib.hid (And.intro hp (And.intro hp2 (And.intro hs (And.intro hs2 hlens))))
   clear F1 F2 F3 hp hp2 hs hs2 hlens
   have HY := Lib.hid (show ∀ w', Bw wr w' → (w'.cell? ⟨g7, 2, none⟩ = some (.slice (some ⟨gp, 0, none⟩) n2 c2) ∧ w'.cell? ⟨g7, 1, none⟩ = some (.int .i64 (C' : Int)) ∧ w'.cell? ⟨w.heap.size, 2, none⟩ = some (.slice (some ⟨gs, os, none⟩) n c) ∧ w'.cell? ⟨w.heap.size, 1, none⟩ = some (.int .i64 (Cn : Int))) from fun w' hb => ⟨(HS7.out.up hb).cell 2 rfl, (HS7.out.up hb).cell 1 rfl, (HS0.out.up hb).cell 2 rfl, (HS0.out.up hb).cell 1 rfl⟩)
   have HYg := Lib.hid (show ∀ w', wr.grownBy w' (some gp) → (w'.cell? ⟨g7, 2, none⟩ = some (.slice (some ⟨gp, 0, none⟩) n2 c2) ∧ w'.cell? ⟨g7, 1, none⟩ = some (.int .i64 (C' : Int)) ∧ w'.cell? ⟨w.heap.size, 2, none⟩ = some (.slice (some ⟨gs, os, none⟩) n c) ∧ w'.cell? ⟨w.heap.size, 1, none⟩ = some (.int .i64 (Cn : Int))) from fun w' hb => ⟨(HS7.out.far hb (by intro e; have := Option.some.inj e; omega)).cell 2 rfl, (HS7.out.far hb (by intro e; have := Option.some.inj e; omega)).cell 1 rfl, (HS0.out.far hb (by intro e; have := Option.some.inj e; omega)).cell 2 rfl, (HS0.out.far hb (by intro e; have := Option.some.inj e; omega)).cell 1 rfl⟩)
   go_upto_region 8 with (fail)
   refine wp_region_held_drew (S := (fun w' => w'.cell? ⟨g7, 2, none⟩ = some (.slice (some ⟨gp, 0, none⟩) n2 c2) ∧ w'.cell? ⟨g7, 1, none⟩ = some (.int .i64 (C' : Int)) ∧ w'.cell? ⟨w.heap.size, 2, none⟩ = some (.slice (some ⟨gs, os, none⟩) n c) ∧ w'.cell? ⟨w.heap.size, 1, none⟩ = some (.int .i64 (Cn : Int)))) (by kernel_rfl) ?_ (fun hHeld => ?_)
   ·(try dsimp only); (first | (exact HYg.out _ ((grown_bw (Bw.drew (Bw.refl wr)) (some gp)).trans HG4.out)) | (refine HY.out _ ?_; (repeat (first | with_reducible (first | assumption | exact Bw.refl _ | refine Bw.alloc ?_ _ | refine Bw.more ?_ _ _ | refine Bw.drew ?_ | refine Bw.drewN ?_ _) | ((with_reducible refine Bw.set2 ?_ ?_ _); (focus exact SZX)) | with_reducible refine Bw.trans ?_ (by assumption))); done))
   refine tkQ 0 ?_
   refine tkQ 1 ?_
   refine tkQ 2 ?_
   (try simp only [Act.put, zP1, zP2, zP3, zP4, zP5, zP6])
   refine tkQ 3 ?_
   refine tkQ 4 ?_
   refine tkQ 5 ?_
   (try simp only [Act.put, zP1, zP2, zP3, zP4, zP5, zP6])
   refine tkQ 6 ?_
   refine tkQ 7 ?_
   refine tkQ 8 ?_
   (try simp only [Act.put, zP1, zP2, zP3, zP4, zP5, zP6])
   refine tkQ 9 ?_
   refine tkQ 10 ?_
   refine tkQ 11 ?_
   (try simp only [Act.put, zP1, zP2, zP3, zP4, zP5, zP6])
   refine tkQ 12 ?_
   refine tkQ 13 ?_
   refine tkQ 14 ?_
   (try simp only [Act.put, zP1, zP2, zP3, zP4, zP5, zP6])
   refine tkQ 15 ?_
   refine tkQ 16 ?_
   refine tkQ 17 ?_
   (try simp only [Act.put, zP1, zP2, zP3, zP4, zP5, zP6])
   refine tkQ 18 ?_
   refine tkQ 19 ?_
   refine tkQ 20 ?_
   (try simp only [Act.put, zP1, zP2, zP3, zP4, zP5, zP6])
   refine tkQ 21 ?_
   refine tkQ 22 ?_
   refine tkQ 23 ?_
   (try simp only [Act.put, zP1, zP2, zP3, zP4, zP5, zP6])
   refine wpAnyH_ready (rs := [24]) (by kernel_rfl) (by simp) ?_
   refine AllReadyH.cons rfl (fun K hK => ?_) ?_
   ·(refine (if_pos (by kernel_rfl)).mpr ?_); (refine wp_copyS (.tmp 39) (.tmp 51) 24 24 rfl 53 4 Tryz.underlying24 infoCs gp (p * 4) C' (c2 - p) ⟨gs, os + s * 4, none⟩ Cn (c - s) rfl rfl (flat (rowsTo R' C' k (resF Rn Cn cs)) ++ sp).toArray 53 (HWC.out.up (Bw.drew (Bw.refl wr))) (flat ((cs.drop s).take (min Cn C'))) HF.out.1 (HF.out.2.1 _ (Bw.drew (Bw.refl wr))) HF.out.2.2 (flat_one _) ?_); intro w4 hcell hg4; have HC4 := Lib.hid hcell; have HG4 := Lib.hid hg4; clear hcell hg4
    refine hK.out _ _ ?_ (fun hHeld => ?_)
    ·(try dsimp only); (first | (exact HYg.out _ ((grown_bw (Bw.drew (Bw.refl wr)) (some gp)).trans HG4.out)) | (refine HY.out _ ?_; (repeat (first | with_reducible (first | assumption | exact Bw.refl _ | refine Bw.alloc ?_ _ | refine Bw.more ?_ _ _ | refine Bw.drew ?_ | refine Bw.drewN ?_ _) | ((with_reducible refine Bw.set2 ?_ ?_ _); (focus exact SZX)) | with_reducible refine Bw.trans ?_ (by assumption))); done))
    clear hK K
    (try simp only [Act.put, zP1, zP2, zP3, zP4, zP5, zP6])
    refine wpAnyH_done (by kernel_rfl) ?_ _
    go_wp2_with fail
    go_roundw
    case rel =>
     have hgg := (grown_bw (show Bw wr wr.drew from BWX) (some gp)).trans HG4.out
     obtain ⟨q1, q2, q3, q4, q5⟩ := HP.out
     have hq := HNL.out
     have hq2 := HN2.out
     refine ⟨k + 1, by go_num, by omega, HS0.out.far hgg (by intro e; have := Option.some.inj e; omega), HS7.out.far hgg (by intro e; have := Option.some.inj e; omega), Exists.elim HOLD.out (fun old h => ⟨old, h.1.far hgg (by intro e; have := Option.some.inj e; omega), h.2⟩), ?_, HRG.out.far hgg (fun ad e e2 => by cases e; exact hgn (Option.some.inj e2).symm), Bw.grown HBW.out hgg (fun j hj => by cases hj; omega)⟩
     rw [← HLAW.out]
     exact Wc.copied (by rw [q5]; omega) (by omega) HC4.out
    case measure => simp [intOf]; omega
   exact AllReadyH.nil
  ·have hkM : ¬ (k : Int) < M := by omega
   obtain rfl : k = M := by omega
   have hall : rowsTo R' C' k (resF Rn Cn cs) = tab R' C' (resF Rn Cn cs) := rowsTo_all (by omega) (by have := HM.out; omega)
   have HALL := Lib.hid hall
   clear hall
   have y0 := HS7.out.cell 0 (v := .int .i64 R') rfl
   have y1 := HS7.out.cell 1 (v := .int .i64 C') rfl
   have y2 := HS7.out.cell 2 (v := .slice (some ⟨gp, 0, none⟩) n2 c2) rfl
   have hbz := HBW.out.size
   go_wp2_with (first
    | ((with_reducible refine wpList_store_gr (R' : Int) (C' : Int) (some ⟨gp, 0, none⟩) n2 c2 (w.heap.size + 1) (.tmp 6) (.tmp 54) rfl rfl ?_ ?_ ?_ ?_); (focus rfl); (focus rfl); (focus (exact HOLD.out)); intro w4 hS4 hg4; have HS4 := Lib.hid hS4; have HG4 := Lib.hid hg4; clear hS4 hg4)
    | fail)
   refine bodyPost_ret (results_gr rfl _ _ (w.heap.size + 1) R' C' (some ⟨gp, 0, none⟩) n2 c2 (by rfl) HS4.out) rfl ?_
   have hrg := HWC.out.rg
   rw [HALL.out, tab_len, ← HN2.out] at hrg
   exact ⟨_, n2, c2, rfl, hrg.far HG4.out (fun ad e e2 => by cases e; have := Option.some.inj e2; simp at this; omega), hn2, hc2, (fun ad e => by cases e; show w.heap.size ≤ gp; omega), Bw.grown HBW.out HG4.out (fun j hj => by cases hj; omega)⟩

/-- The program's Resize, at whatever arguments. -/
theorem gresize_any (R C : Int) (A : Option Addr) (n c : Nat) (cs : List C4) (rows cols : Int) (w : World) (hr : Rg w A n cs) (hn : n ≤ c) (hn3 : n ≤ 4398046511103) (hc : c ≤ 9223372036854775807) :
  Calls Tryz.prog 38 #[.agg #[.int .i64 R, .int .i64 C, .slice A n c], .int .i64 rows, .int .i64 cols] w (GrN w (rsR R C cs rows) (rsC R C cs cols) (rsG R C cs rows cols)) := by
 cases hv : gridB R C cs
 ·rw [show rsR R C cs rows = R by unfold rsR; rw [hv]; simp, show rsC R C cs cols = C by unfold rsC; rw [hv]; simp, show rsG R C cs rows cols = cs by unfold rsG; rw [hv]; simp]
  exact gresize_no R C A n c cs rows cols w hr hn hn3 hc hv
 ·rw [show rsR R C cs rows = clamp rows 30 by unfold rsR; rw [if_pos hv], show rsC R C cs cols = clamp cols 100 by unfold rsC; rw [if_pos hv], show rsG R C cs rows cols = tab (clamp rows 30).toNat (clamp cols 100).toNat (resF R.toNat C.toNat cs) by unfold rsG; rw [if_pos hv]]
  obtain ⟨Rn, Cn, rfl, rfl, h1, h2, h3, h4, h5, -⟩ := gridB_out hv
  exact gresize_go Rn Cn A n c cs rows cols w hr hn hc h1 h2 h3 h4 h5 hv
end Go.Proofs.YtkflooljdopldaaGreat

/- Screens: the program's Resize to the same size. -/
namespace Go.Proofs.YtkflooljdopldaaGreat
open Go.RowKit

theorem rs_same {Rn Cn : Nat} {cs : List C4} (h : gridB Rn Cn cs = true) : rsR Rn Cn cs Rn = Rn ∧ rsC Rn Cn cs Cn = Cn ∧ rsG Rn Cn cs Rn Cn = cs := by
 obtain ⟨h1, h2, h3, h4, h5⟩ := gridB_dim h
 have e1 : clamp (Rn : Int) 30 = Rn := clamp_inS h1 h2
 have e2 : clamp (Cn : Int) 100 = Cn := clamp_inS h3 h4
 refine ⟨by unfold rsR; rw [if_pos h, e1], by unfold rsC; rw [if_pos h, e2], ?_⟩
 unfold rsG
 rw [if_pos h, e1, e2, Int.toNat_natCast, Int.toNat_natCast]
 refine tab_same blk (by omega) (by rw [← Int.natCast_mul] at h5; omega) (fun r k hr hk => ?_)
 unfold resF
 first | rfl | (rw [if_pos ⟨hr, hk⟩]) | (unfold atF; rw [if_pos ⟨hr, hk⟩, if_pos ⟨by omega, by omega, by omega, by omega⟩]; simp)
/-- What Resize to the same size makes of a screen. -/
def smS (s : Scr) : Scr := { s with wrap := false, top := 0, bot := (s.Rn : Int) - 1, swrap := false }
set_option maxRecDepth 100000 in
set_option maxHeartbeats 1000000 in
theorem sresize_same (s : Scr) (cs : List C4) (w : World) (hs : s.Ok w) (hr : Rg w s.A s.n cs) (hg : gridB s.Rn s.Cn cs = true) :
  Calls Tryz.prog 14 #[.agg s.vals.toArray, .int .i64 (s.Rn : Int), .int .i64 (s.Cn : Int)] w (ApP w s.A (smS s) cs 0) := by
 have HOK := Lib.hid hs
 have HR := Lib.hid hr
 have HS := Lib.hid (rs_same hg)
 have HN := Lib.hid (show s.n ≤ s.c ∧ s.c ≤ 9223372036854775807 ∧ s.n ≤ 3000 from by
  obtain ⟨⟨h1, h2, h3, h4, h5, h6, h7, -⟩, -⟩ := hs
  exact ⟨h6, h7, by rw [h5]; have := Nat.mul_le_mul h2 h4; omega⟩)
 obtain ⟨hR1, hR2, hC1, hC2, -⟩ := gridB_dim hg
 have hrow0 := hs.num.2.1.1
 have hrow1 := hs.num.2.1.2.1
 have hcol0 := hs.num.2.1.2.2.1
 have hcol1 := hs.num.2.1.2.2.2
 have hsr0 := hs.num.2.2.2.2.1.1
 have hsr1 := hs.num.2.2.2.2.1.2.1
 have hsc0 := hs.num.2.2.2.2.1.2.2.1
 have hsc1 := hs.num.2.2.2.2.1.2.2.2
 have HK1 := Lib.hid (show clamp (s.Rn : Int) 30 = s.Rn ∧ clamp (s.Cn : Int) 100 = s.Cn from ⟨clamp_inS hR1 hR2, clamp_inS hC1 hC2⟩)
 clear hs hr hg
 go_enter Tryz.func14, Tryz.ntmps14
 go_upto_region 1 with (fail)
 generalize hwa : w.alloc (.cells s.vals.toArray 34) = wa
 obtain ⟨ha0, hbwa, hza⟩ := sb1 hwa
 generalize hw1 : wa.alloc _ = w1
 obtain ⟨hc0, hbwc, hzc⟩ := sb1 hw1
 rw [hza] at hc0
 have HA := Lib.hid (ha0.up hbwc)
 have HT := Lib.hid (show ∃ old, Sb w1 (w.heap.size + 1) old 34 ∧ old.size = 19 from ⟨_, hc0, rfl⟩)
 have hbw := Bw.trans hbwa hbwc
 have hz1 : w.heap.size + 1 < w1.heap.size := by omega
 clear hwa ha0 hbwa hza hw1 hc0 hbwc hzc
 go_upto_region 4 with (first
  | ((with_reducible refine wpList_load_sc s w.heap.size (.tmp 3) rfl rfl ?_ ?_ ?_); (focus rfl); (focus (exact HA.out)))
  | (go_at_call 11; refine (svalid_ok s _ (HOK.out.up (Bw.trans hbw BWX))).mono ?_; rintro ee w2 ⟨rfl, hb2⟩; have hbw2 : Bw w1 w2 := Bw.trans (show Bw w1 _ from BWX) hb2; clear hb2)
  | fail)
 have hz2 := hbw2.size
 go_upto_region 5 with (first
  | ((with_reducible refine wpList_load_sc s w.heap.size (.tmp 3) rfl rfl ?_ ?_ ?_); (focus rfl); (focus (exact HA.out.up hbw2)))
  | ((with_reducible refine wpList_build_cv s _ rfl rfl ?_ ?_); (focus rfl))
  | ((with_reducible refine wpList_store_cs 75 (cvV s none 0 0 false) w2.heap.size (.tmp 8) (.tmp 22) (infoCz s none 0 0 false) (cvV_one s none 0 0 false) rfl rfl ?_ ?_ ?_ ?_); (focus rfl); (focus rfl); (focus (exact ⟨_, heap_at (by simp), rfl⟩)); intro w3 hS3 hg3; have HS3 := Lib.hid hS3; have hbw3 : Bw w2 w3 := Bw.grown (show Bw w2 _ from BWX) hg3 (fun k hk => by cases hk; omega); clear hS3 hg3)
  | fail)
 have hlt3 := HS3.out.lt
 obtain ⟨g, hg⟩ : ∃ g, g = w2.heap.size := ⟨_, rfl⟩
 rw [← hg] at HS3 hlt3 ⊢
 have hgz : w.heap.size + 1 < g := by omega
 have HBW3 := Lib.hid (Bw.trans hbw (Bw.trans hbw2 hbw3))
 have HA3 := Lib.hid (HA.out.up (Bw.trans hbw2 hbw3))
 have HT3 := Lib.hid (show ∃ old, Sb w3 (w.heap.size + 1) old 34 ∧ old.size = 19 from Exists.elim HT.out (fun old h => ⟨old, h.1.up (Bw.trans hbw2 hbw3), h.2⟩))
 clear hg hbw2 hbw3 HA HT hz2
 go_upto_region 6 with (first
  | (go_at_call 34; refine (gnew16_any _ _ _).mono ?_; rw [HK1.out.1, HK1.out.2]; rintro ee w4 ⟨A0, n0, c0, rfl, -, -, -, -, hb4⟩; have hb34 : Bw w3 w4 := Bw.trans (show Bw w3 _ from BWX) hb4; clear hb4)
  | fail)
 have hz4 := hb34.size
 generalize hw5 : w4.alloc _ = w5
 obtain ⟨hb5, hbw5, hz5⟩ := sb1 hw5
 obtain ⟨gf, hgf⟩ : ∃ gf, gf = w4.heap.size := ⟨_, rfl⟩
 rw [← hgf] at hb5 ⊢
 have HF := Lib.hid hb5
 have hltf := hb5.lt
 have hgfg : g < gf := by omega
 have HS5 := Lib.hid ((HS3.out.up hb34).up hbw5)
 have HA5 := Lib.hid ((HA3.out.up hb34).up hbw5)
 have HT5 := Lib.hid (show ∃ old, Sb w5 (w.heap.size + 1) old 34 ∧ old.size = 19 from Exists.elim HT3.out (fun old h => ⟨old, (h.1.up hb34).up hbw5, h.2⟩))
 have HBW5 := Lib.hid (Bw.trans HBW3.out (Bw.trans hb34 hbw5))
 have HR5 := Lib.hid (HR.out.up HBW5.out)
 have f0 := hb5.cell 0 (v := .int .i64 (s.Rn : Int)) rfl
 have f1 := hb5.cell 1 (v := .int .i64 (s.Cn : Int)) rfl
 have a3 := HA5.out.cell 3 (v := .int .i64 s.row) rfl
 clear hw5 hb5 hbw5 hz5 hgf hb34 hz4 HS3 HA3 HT3 HBW3 hlt3
 have hlost : ¬ (0 < s.row - ((s.Rn : Int) - 1)) := by omega
 have hlost2 : s.row - ((s.Rn : Int) - 1) ≤ 0 := by omega
 have hltg := HS5.out.lt
 go_upto_region 11 with (fail)
 clear f0 f1 a3
 have x0 := HS5.out.cell 0 (v := .int .i64 (s.Rn : Int)) rfl
 have x1 := HS5.out.cell 1 (v := .int .i64 (s.Cn : Int)) rfl
 have x2 := HS5.out.cell 2 (v := .slice s.A s.n s.c) rfl
 go_upto_region 12 with (first
  | (go_at_call 38; refine (gresize_any s.Rn s.Cn s.A s.n s.c cs s.Rn s.Cn _ (HR5.out.up BWX) HN.out.1 (by have := HN.out.2.2; omega) HN.out.2.1).mono ?_; rw [HS.out.1, HS.out.2.1, HS.out.2.2]; rintro ee w6 ⟨A, n, c, rfl, hr6, hn6, hc6, hA6, hb6⟩; have hb56 : Bw w5 w6 := Bw.trans (show Bw w5 _ from BWX) hb6; have HR6 := Lib.hid hr6; have HA6 := Lib.hid hA6; have HS6 := Lib.hid (HS5.out.up hb56); have y0 := HS6.out.cell 0 (v := .int .i64 (s.Rn : Int)) rfl; have y1 := HS6.out.cell 1 (v := .int .i64 (s.Cn : Int)) rfl; have y2 := HS6.out.cell 2 (v := .slice s.A s.n s.c) rfl; have z0 := HS6.out.free 0; have z1 := HS6.out.free 1; have z2 := HS6.out.free 2; have hsz5 := (show Bw w5 _ from BWX).size; clear hr6 hA6 hb6 x0 x1 x2)
  | fail)
 generalize hw7 : ((w6.setCell ⟨g, 0, none⟩ (.int .i64 (s.Rn : Int))).setCell ⟨g, 1, none⟩ (.int .i64 (s.Cn : Int))).setCell ⟨g, 2, none⟩ (.slice A n c) = w7
 have HS7 := Lib.hid (show Sb w7 g (cvV (s.gr A n c) none 0 0 false) 75 from by rw [← hw7]; exact ((HS6.out.set 0 _ rfl).set 1 _ rfl).set 2 _ rfl)
 have HG7 := Lib.hid (show w5.grownBy w7 (some g) from by rw [← hw7]; exact grown_set (grown_set (grown_set (grown_bw hb56 _) 0 _) 1 _) 2 _)
 have HNA := Lib.hid (show ∀ ad, A = some ad → w5.heap.size ≤ ad.block from fun ad e => by have h1 := HA6.out ad e; first | exact h1 | (simp only [szA, szS, szD, szN] at h1; omega))
 have HR7 := Lib.hid (show Rg w7 A n cs from by rw [← hw7]; exact HR6.out.far (grown_set (grown_set (grown_set (grown_refl _ _) 0 _) 1 _) 2 _) (fun ad e e2 => by have := HNA.out ad e; have := Option.some.inj e2; omega))
 have hgne : some gf ≠ some g := fun e => by have := Option.some.inj e; omega
 have HF7 := Lib.hid (HF.out.far HG7.out hgne)
 have hlt7 := HS7.out.lt
 have hltf7 := HF7.out.lt
 have f0 := HF7.out.cell 0 (v := .int .i64 (s.Rn : Int)) rfl
 have f1 := HF7.out.cell 1 (v := .int .i64 (s.Cn : Int)) rfl
 have x4 := HS7.out.cell 4 (v := .int .i64 s.col) rfl
 have v4 := HS7.out.free 4
 have x5 := HS7.out.cell 5 (v := .bool s.wrap) rfl
 have v5 := HS7.out.free 5
 have x9 := HS7.out.cell 9 (v := .int .i64 s.top) rfl
 have v9 := HS7.out.free 9
 have x10 := HS7.out.cell 10 (v := .int .i64 s.bot) rfl
 have v10 := HS7.out.free 10
 have x11 := HS7.out.cell 11 (v := .int .i64 s.srow) rfl
 have v11 := HS7.out.free 11
 have x12 := HS7.out.cell 12 (v := .int .i64 s.scol) rfl
 have v12 := HS7.out.free 12
 have x13 := HS7.out.cell 13 (v := .bool s.swrap) rfl
 have v13 := HS7.out.free 13
 clear hw7 y0 y1 y2 z0 z1 z2 HS6 HA6 hltf hlost hlost2
 have hcm : s.col ≤ (s.Cn : Int) - 1 := by omega
 have hsm : s.srow ≤ (s.Rn : Int) - 1 := by omega
 have hsm2 : s.scol ≤ (s.Cn : Int) - 1 := by omega
 have hn1 : ¬ ((s.Cn : Int) - 1 < s.col) := by omega
 have hn2 : ¬ ((s.Rn : Int) - 1 < s.srow) := by omega
 have hn3 : ¬ ((s.Cn : Int) - 1 < s.scol) := by omega
 go_upto_region 16 with (fail)
 clear f0 f1 x4 x5 x9 x10 x11 x12 x13 v4 v5 v9 v10 v11 v12 v13 hn1 hn2 hn3 hcm hsm hsm2
 generalize hw8 : ((((((w7.setCell ⟨g, 4, none⟩ _).setCell ⟨g, 5, none⟩ _).setCell ⟨g, 11, none⟩ _).setCell ⟨g, 12, none⟩ _).setCell ⟨g, 13, none⟩ _).setCell ⟨g, 9, none⟩ _).setCell ⟨g, 10, none⟩ _ = w8
 have HS8 := Lib.hid (show Sb w8 g (cvV ((smS s).gr A n c) none 0 0 false) 75 from by rw [← hw8]; exact ((((((HS7.out.set 4 _ rfl).set 5 _ rfl).set 11 _ rfl).set 12 _ rfl).set 13 _ rfl).set 9 _ rfl).set 10 _ rfl)
 have hg78 : w7.grownBy w8 (some g) := by rw [← hw8]; exact grown_set (grown_set (grown_set (grown_set (grown_set (grown_set (grown_set (grown_refl _ _) 4 _) 5 _) 11 _) 12 _) 13 _) 9 _) 10 _
 have HG8 := Lib.hid (HG7.out.trans hg78)
 have HR8 := Lib.hid (HR7.out.far hg78 (fun ad e e2 => by have := HNA.out ad e; have := Option.some.inj e2; omega))
 have hgt : some (w.heap.size + 1) ≠ some g := fun e => by have := Option.some.inj e; omega
 have HT8 := Lib.hid (show ∃ old, Sb w8 (w.heap.size + 1) old 34 ∧ old.size = 19 from Exists.elim HT5.out (fun old h => ⟨old, h.1.far HG8.out hgt, h.2⟩))
 have hlt8 := HS8.out.lt
 have HY := Lib.hid (show ∀ w', Bw w8 w' → (w'.cell? ⟨g, 19, none⟩ = some (.slice none 0 0)) from fun w' hb => (HS8.out.up hb).cell 19 rfl)
 clear hw8 HS7 HR7 HF7 hg78 hlt7 hltf7
 refine wp_region_held_drew (S := (fun w' => w'.cell? ⟨g, 19, none⟩ = some (.slice none 0 0))) (by kernel_rfl) ?_ (fun hHeld => ?_)
 ·(try dsimp only); (first | exact cell_far (HY.out _ (Bw.refl _)) HG9.out (fun e => hgt e.symm) | (refine HY.out _ ?_; exact BWX))
 refine tkQ 0 ?_
 refine tkQ 2 ?_
 refine tkQ 3 ?_
 (try simp only [Act.put, zP1, zP2, zP3, zP4, zP5, zP6])
 refine wpAnyH_ready (rs := [1]) (by kernel_rfl) (by simp) ?_
 refine AllReadyH.cons rfl (fun K hK => ?_) ?_
 ·(refine (if_pos (by kernel_rfl)).mpr ?_); (refine wp_load_mid 34 (.tmp 107) ?ho g 0 ?_ ((smS s).gr A n c).vals _ (cvRange (HS8.out.up ?hb)) Tryz.underlying34 rfl infoSc ?_); (case ho => rfl); (focus rfl); (case hb => ((repeat (first | with_reducible (first | assumption | exact Bw.refl _ | refine Bw.alloc ?_ _ | refine Bw.more ?_ _ _ | refine Bw.drew ?_ | refine Bw.drewN ?_ _) | ((with_reducible refine Bw.set2 ?_ ?_ _); (focus exact SZX)) | with_reducible refine Bw.trans ?_ (by assumption))); done))
  refine hK.out _ _ ?_ (fun hHeld => ?_)
  ·(try dsimp only); (first | exact cell_far (HY.out _ (Bw.refl _)) HG9.out (fun e => hgt e.symm) | (refine HY.out _ ?_; exact BWX))
  clear hK K
  (try simp only [Act.put, zP1, zP2, zP3, zP4, zP5, zP6])
  refine wpAnyH_ready (rs := [4]) (by kernel_rfl) (by simp) ?_
  refine AllReadyH.cons rfl (fun K hK => ?_) ?_
  ·(refine (if_pos (by kernel_rfl)).mpr ?_); (with_reducible refine wp_store_sc ((smS s).gr A n c) (w.heap.size + 1) (.tmp 6) (.tmp 108) ?ho2 ?_ ?_ ?_ ?_); (case ho2 => rfl); (focus rfl); (focus rfl); (focus (exact Exists.elim HT8.out (fun old h => ⟨old, h.1.up BWX, h.2⟩))); intro w9 hS9 hg9; have HS9 := Lib.hid hS9; have HG9 := Lib.hid ((grown_bw (show Bw w8 _ from BWX) _).trans hg9); clear hS9 hg9
   refine hK.out _ _ ?_ (fun hHeld => ?_)
   ·(try dsimp only); (first | exact cell_far (HY.out _ (Bw.refl _)) HG9.out (fun e => hgt e.symm) | (refine HY.out _ ?_; exact BWX))
   clear hK K
   (try simp only [Act.put, zP1, zP2, zP3, zP4, zP5, zP6])
   refine wpAnyH_ready (rs := [5]) (by kernel_rfl) (by simp) ?_
   refine AllReadyH.cons rfl (fun K hK => ?_) ?_
   ·go_simp
    refine hK.out _ _ ?_ (fun hHeld => ?_)
    ·(try dsimp only); (first | exact cell_far (HY.out _ (Bw.refl _)) HG9.out (fun e => hgt e.symm) | (refine HY.out _ ?_; exact BWX))
    clear hK K
    (try simp only [Act.put, zP1, zP2, zP3, zP4, zP5, zP6])
    refine wpAnyH_done (by kernel_rfl) ?_ _
    go_wp2_with fail
    refine bodyPost_ret (results_sc2 rfl _ _ (w.heap.size + 1) ((smS s).gr A n c) (by rfl) HS9.out) rfl ?_
    have hz := HBW5.out.size
    refine ⟨A, n, c, none, 0, rfl, ?_, hn6, hc6, .inr (fun ad e => by have := HNA.out ad e; omega), ?_⟩
    ·exact HR8.out.far HG9.out (fun ad e e2 => by have := HNA.out ad e; have := Option.some.inj e2; omega)
    ·exact Bw.grown (Bw.grown HBW5.out HG8.out (fun k hk => by cases hk; omega)) HG9.out (fun k hk => by cases hk; omega)
   exact AllReadyH.nil
  exact AllReadyH.nil
 exact AllReadyH.nil
end Go.Proofs.YtkflooljdopldaaGreat
