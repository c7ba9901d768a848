/- Parts of the proof, one after the other. -/
import Derived.Test.YtmkpefielfinjaaDoorV35
import Derived.Test.YtmkpefielfinjaaDoorV32
import Derived.Test.YtmkpefielfinjaaDoorV06
import Derived.Test.YtmkpefielfinjaaDoorV26
import Derived.Test.YtmkpefielfinjaaDoorV10
import Derived.Test.YtmkpefielfinjaaDoorV07
set_option linter.unusedSimpArgs false
set_option linter.unusedVariables false
/- Compose: the cells of what a client sees, by row and column. -/
namespace Go.Proofs.YtmkpefielfinjaaDoor
open Go.RowKit

theorem listC_at (p Cn : Nat) (L : List UInt8) (mark : Bool) (cs : List C4) (h : p + Cn ≤ cs.length) (j : Nat) :
  (listC p Cn L mark cs).getD j blk = if p ≤ j ∧ j < p + Cn then (if j - p < L.length then chrN L (j - p) else (cs.getD j blk).1, if mark = true then 4 else (cs.getD j blk).2.1, (cs.getD j blk).2.2) else cs.getD j blk := by
 have h1 := putU_at (chrN L) p cs (min L.length Cn) (by omega) j
 have h2 := putV_at 4 p (putU (chrN L) p (min L.length Cn) cs) Cn (by rw [putU_len]; exact h) j
 unfold listC
 cases mark
 ·rw [if_neg (by simp), h1]
  by_cases c1 : p ≤ j ∧ j < p + Cn
  ·rw [if_pos c1]
   by_cases c2 : j - p < L.length
   ·rw [if_pos (by omega), if_pos c2, if_neg (by simp)]
   ·rw [if_neg (by omega), if_neg c2, if_neg (by simp)]
  ·rw [if_neg c1, if_neg (by omega)]
 ·rw [if_pos rfl, h2, h1]
  by_cases c1 : p ≤ j ∧ j < p + Cn
  ·rw [if_pos c1, if_pos c1, if_pos rfl]
   by_cases c2 : j - p < L.length
   ·rw [if_pos (by omega), if_pos c2]
   ·rw [if_neg (by omega), if_neg c2]
  ·rw [if_neg c1, if_neg c1, if_neg (by omega)]
def jobF (sts : List St) (first sh r c : Nat) : C4 :=
 (if c < (lineS (sts.getD (first + r) st0) (decide (first + r = sh))).length then chrN (lineS (sts.getD (first + r) st0) (decide (first + r = sh))) c else 32, if first + r = sh then 4 else 0, 0, 0)
theorem rep_at (N j : Nat) : (List.replicate N blk).getD j blk = blk := by
 rw [List.getD_eq_getElem?_getD, List.getElem?_replicate]
 split <;> rfl
theorem jobsC_at (Rn Cn : Nat) (sts : List St) (first sh : Nat) (hC : 0 < Cn) : ∀ m, m ≤ Rn → ∀ i, (jobsC Cn sts first sh m (List.replicate (Rn * Cn) blk)).getD i blk = if i < m * Cn then jobF sts first sh (i / Cn) (i % Cn) else blk
 | 0, _, i => by rw [if_neg (by omega)]; exact rep_at _ _
 | m + 1, h, i => by
  have ih := jobsC_at Rn Cn sts first sh hC m (by omega) i
  have q := Nat.mul_le_mul_right Cn h
  have hm : (m + 1) * Cn = m * Cn + Cn := by rw [Nat.add_mul, Nat.one_mul]
  unfold jobsC
  rw [listC_at _ _ _ _ _ (by rw [jobsC_len, List.length_replicate]; omega), ih, hm]
  by_cases c1 : m * Cn ≤ i ∧ i < m * Cn + Cn
  ·have e1 : i / Cn = m := by
    have : i / Cn < m + 1 := (Nat.div_lt_iff_lt_mul hC).mpr (by omega)
    have : ¬ i / Cn < m := fun hh => by have := (Nat.div_lt_iff_lt_mul hC).mp hh; omega
    omega
   have e2 : i % Cn = i - m * Cn := by have := Nat.div_add_mod i Cn; rw [e1, Nat.mul_comm] at this; omega
   have n1 : ¬ i < m * Cn := by omega
   have n2 : i < m * Cn + Cn := by omega
   rw [if_pos c1, if_neg n1, if_pos n2, e1, e2]
   unfold jobF
   by_cases c3 : first + m = sh
   ·simp only [c3, decide_true, if_true, blk]
   ·simp only [c3, decide_false, if_false, blk]; rfl
  ·rw [if_neg c1]
   by_cases c2 : i < m * Cn
   ·rw [if_pos c2, if_pos (by omega)]
   ·rw [if_neg c2, if_neg (by omega)]
def baseF (kk : Nat) (sts : List St) (first sh r c : Nat) : C4 := if r < kk then jobF sts first sh r c else if r = kk then (45, 0, 0, 0) else blk
theorem baseC_at (Rn Cn : Nat) (sts : List St) (shown : Int) (hR : 0 < Rn) (hC : 0 < Cn) (i : Nat) (hi : i < Rn * Cn) :
  (baseC Rn Cn sts shown).getD i blk = baseF (kkN sts.length Rn) sts (firstN (kkN sts.length Rn) (shN sts.length shown)) (shN sts.length shown) (i / Cn) (i % Cn) := by
 have hk := kk_lt sts.length (show 1 ≤ Rn by omega)
 obtain ⟨kk, hkk⟩ : ∃ kk, kk = kkN sts.length Rn := ⟨_, rfl⟩
 unfold baseC
 rw [← hkk] at hk ⊢
 have q := Nat.mul_le_mul_right Cn (show kk + 1 ≤ Rn by omega)
 rw [Nat.add_mul, Nat.one_mul] at q
 rw [putU_at _ _ _ _ (by rw [jobsC_len, List.length_replicate]; exact q), jobsC_at Rn Cn sts _ _ hC kk (by omega)]
 unfold baseF
 have d1 : i / Cn < kk ↔ i < kk * Cn := Nat.div_lt_iff_lt_mul hC
 have d2 : i / Cn < kk + 1 ↔ i < (kk + 1) * Cn := Nat.div_lt_iff_lt_mul hC
 rw [Nat.add_mul, Nat.one_mul] at d2
 by_cases c1 : i < kk * Cn
 ·rw [if_neg (by omega), if_pos c1, if_pos (d1.mpr c1)]
 ·by_cases c2 : i < kk * Cn + Cn
  ·have e : i / Cn = kk := by have := d2.mpr c2; have := fun h => c1 (d1.mp h); omega
   rw [if_pos (by omega), if_neg c1, if_neg (by omega), if_pos e]
   rfl
  ·rw [if_neg (by omega), if_neg c1, if_neg (fun h => c1 (d1.mp h)), if_neg (fun h => c2 (d2.mp (by omega)))]
theorem getD_cpy {dst src : List C4} {k p q : Nat} (h1 : k + q ≤ dst.length) (h2 : p + q ≤ src.length) (i : Nat) : (cpyC dst k src p q).getD i blk = if k ≤ i ∧ i < k + q then src.getD (p + (i - k)) blk else dst.getD i blk := by
 have e1 : (dst.take k).length = k := by rw [List.length_take]; omega
 have e2 : ((src.drop p).take q).length = q := by simp only [List.length_take, List.length_drop]; omega
 have e3 : (dst.take k ++ (src.drop p).take q).length = k + q := by rw [List.length_append, e1, e2]
 unfold cpyC
 simp only [List.getD_eq_getElem?_getD]
 by_cases c1 : i < k
 ·rw [if_neg (by omega), List.getElem?_append_left (by omega), List.getElem?_append_left (by omega), List.getElem?_take, if_pos c1]
 ·by_cases c2 : i < k + q
  ·rw [if_pos (by omega), List.getElem?_append_left (by omega), List.getElem?_append_right (by omega), e1, List.getElem?_take, if_pos (by omega), List.getElem?_drop]
  ·rw [if_neg (by omega), List.getElem?_append_right (by omega), e3, List.getElem?_drop, show k + q + (i - (k + q)) = i by omega]
theorem paneC_at (Rn Cn kk pR pC : Nat) (ps cs : List C4) (hC : 0 < Cn) (hl : cs.length = Rn * Cn) (hp : ps.length = pR * pC) : ∀ m, kk + 1 + m ≤ Rn → m ≤ pR → ∀ i, i < Rn * Cn → (paneC Cn kk pC ps m cs).getD i blk = if kk + 1 ≤ i / Cn ∧ i / Cn < kk + 1 + m ∧ i % Cn < min pC Cn then ps.getD ((i / Cn - (kk + 1)) * pC + i % Cn) blk else cs.getD i blk
 | 0, _, _, i, _ => by rw [if_neg (by omega)]; rfl
 | m + 1, h1, h2, i, hi => by
  have ih := paneC_at Rn Cn kk pR pC ps cs hC hl hp m (by omega) (by omega) i hi
  have q1 := Nat.mul_le_mul_right Cn (show kk + 1 + m + 1 ≤ Rn by omega)
  have q2 := Nat.mul_le_mul_right pC (show m + 1 ≤ pR by omega)
  rw [Nat.add_mul, Nat.one_mul] at q1 q2
  unfold paneC
  rw [getD_cpy (by rw [paneC_len Rn Cn kk pR pC ps cs hl hp m (by omega) (by omega), hl]; omega) (by rw [hp]; omega), ih]
  have hdm := Nat.div_add_mod i Cn
  have hmm := Nat.mod_lt i hC
  have d1 : i / Cn < kk + 1 + m ↔ i < (kk + 1 + m) * Cn := Nat.div_lt_iff_lt_mul hC
  have d2 : i / Cn < kk + 1 + m + 1 ↔ i < (kk + 1 + m + 1) * Cn := Nat.div_lt_iff_lt_mul hC
  have e5 : (kk + 1 + m + 1) * Cn = (kk + 1 + m) * Cn + Cn := by rw [Nat.add_mul (kk + 1 + m), Nat.one_mul]
  rw [e5] at d2
  by_cases c1 : (kk + 1 + m) * Cn ≤ i ∧ i < (kk + 1 + m) * Cn + min pC Cn
  ·have e : i / Cn = kk + 1 + m := by have := d2.mpr (by omega); have := fun h => (show ¬ i < (kk + 1 + m) * Cn by omega) (d1.mp h); omega
   have e2 : i % Cn = i - (kk + 1 + m) * Cn := by rw [e, Nat.mul_comm] at hdm; omega
   rw [if_pos c1, if_pos (by omega), e2, e, show kk + 1 + m - (kk + 1) = m by omega]
  ·rw [if_neg c1]
   by_cases c2 : kk + 1 ≤ i / Cn ∧ i / Cn < kk + 1 + m ∧ i % Cn < min pC Cn
   ·rw [if_pos c2, if_pos (by omega)]
   ·rw [if_neg c2]
    by_cases c3 : kk + 1 ≤ i / Cn ∧ i / Cn < kk + 1 + (m + 1) ∧ i % Cn < min pC Cn
    ·have e : i / Cn = kk + 1 + m := by omega
     rw [e, Nat.mul_comm] at hdm
     exact absurd (by omega) c1
    ·rw [if_neg c3]
end Go.Proofs.YtmkpefielfinjaaDoor

/- Lines without the spaces at their end; trim. -/
namespace Go.Proofs.YtmkpefielfinjaaDoor
open Go.RowKit Go.PlainAid

end Go.Proofs.YtmkpefielfinjaaDoor

/- The reference's Text, at grids of plain characters. -/
namespace Go.Proofs.YtmkpefielfinjaaDoor
open Go.RowKit

theorem rowF_len (Rn Cn : Nat) (cs : List C4) (r : Nat) (hl : cs.length = Rn * Cn) (hr : r < Rn) (hC : 1 ≤ Cn) : (rowF (Rn : Int) (Cn : Int) cs (r : Int)).length = Cn ∧ ∀ x ∈ rowF (Rn : Int) (Cn : Int) cs (r : Int), x ∈ cs := by
 have q := Nat.mul_le_mul_right Cn (show r + 1 ≤ Rn by omega)
 rw [Nat.add_mul, Nat.one_mul] at q
 unfold rowF
 have e : ((r : Int) * (Cn : Int)).toNat = r * Cn := by rw [← Int.natCast_mul]; exact Int.toNat_natCast _
 split
 ·refine ⟨?_, fun x hx => List.mem_of_mem_drop (List.mem_of_mem_take hx)⟩
  rw [e, List.length_take, List.length_drop, Int.toNat_natCast]
  omega
 ·rename_i h
  exfalso
  apply h
  refine ⟨by omega, by omega, by omega, ?_⟩
  have : (cs.length : Int) / (Cn : Int) = (Rn : Int) := by rw [hl, Int.natCast_mul]; exact Int.mul_ediv_cancel _ (by omega)
  omega
end Go.Proofs.YtmkpefielfinjaaDoor

/- Compose: the cells are valid; a row's text is the line of its job. -/
namespace Go.Proofs.YtmkpefielfinjaaDoor
open Go.RowKit

theorem rune_ok (x : Int) (h : 32 ≤ x ∧ x ≤ 126) : runeB x = true := decide_eq_true (.inl h)
theorem cell_ok (x : Int) (h : 32 ≤ x ∧ x ≤ 126) : cellB (x, 4, 0, 0) = true ∧ cellB (x, 0, 0, 0) = true := by
 unfold cellB
 simp only [rune_ok x h, Bool.true_and]
 exact ⟨rfl, rfl⟩
theorem jobF_ok (sts : List St) (first sh r c : Nat) : cellB (jobF sts first sh r c) = true ∧ 32 ≤ (jobF sts first sh r c).1 ∧ (jobF sts first sh r c).1 ≤ 126 := by
 have hb : 32 ≤ (if c < (lineS (sts.getD (first + r) st0) (decide (first + r = sh))).length then chrN (lineS (sts.getD (first + r) st0) (decide (first + r = sh))) c else 32) ∧ (if c < (lineS (sts.getD (first + r) st0) (decide (first + r = sh))).length then chrN (lineS (sts.getD (first + r) st0) (decide (first + r = sh))) c else 32) ≤ 126 := by
  split
  ·rename_i h
   exact chrN_bd _ _ _ _ _ _ h
  ·omega
 unfold jobF
 refine ⟨?_, hb⟩
 by_cases h : first + r = sh
 ·rw [if_pos h]
  exact (cell_ok _ hb).1
 ·rw [if_neg h]
  exact (cell_ok _ hb).2
theorem baseF_ok (kk : Nat) (sts : List St) (first sh r c : Nat) : cellB (baseF kk sts first sh r c) = true ∧ 32 ≤ (baseF kk sts first sh r c).1 ∧ (baseF kk sts first sh r c).1 ≤ 126 := by
 unfold baseF
 split
 ·exact jobF_ok _ _ _ _ _
 ·split
  ·exact ⟨rfl, by decide, by decide⟩
  ·exact ⟨rfl, by decide, by decide⟩
theorem lineS_len (s : St) (hs : stOk s) (mark : Bool) : (lineS s mark).length ≤ s.1.size + 57 := by
 obtain ⟨s0, s1, s2⟩ := hs
 have h1 := wordB_size s.2.1
 have h2 := Lib.itoa_length_le s.2.2.1 s1.1 s1.2
 have h3 := Lib.itoa_length_le s.2.2.2 s2.1 s2.2
 have h4 := nameL_len s.1
 have h5 : (wordB s.2.1).data.toList.length = (wordB s.2.1).size := rfl
 have h6 : (runL s.2.2.2).length ≤ 23 := by unfold runL; split <;> simp <;> omega
 unfold lineS lineL headL
 simp only [List.length_append, List.length_cons, List.length_nil]
 omega
end Go.Proofs.YtmkpefielfinjaaDoor

/- Compose: the reference's grids, by row and column; write. -/
namespace Go.Proofs.YtmkpefielfinjaaDoor
open Go.RowKit Go.PlainAid

/-- A valid grid whose cell of row r and column c is F r c. -/
def Gs (Rn Cn : Nat) (cs : List C4) (F : Nat → Nat → C4) : Prop := cs.length = Rn * Cn ∧ gridB (Rn : Int) (Cn : Int) cs = true ∧ ∀ r c, r < Rn → c < Cn → cs.getD (r * Cn + c) blk = F r c
theorem tab_lenU (Rn Cn : Nat) (F : Nat → Nat → C4) : (tab Rn Cn F).length = Rn * Cn := by simp [tab, tabK]
theorem idx_of {Rn Cn i : Nat} (hi : i < Rn * Cn) (hC : 0 < Cn) : i / Cn < Rn ∧ i % Cn < Cn ∧ i / Cn * Cn + i % Cn = i :=
 ⟨(Nat.div_lt_iff_lt_mul hC).mpr hi, Nat.mod_lt i hC, by rw [Nat.mul_comm]; exact Nat.div_add_mod i Cn⟩
theorem Gs.ext {Rn Cn : Nat} {a b : List C4} {F : Nat → Nat → C4} (ha : Gs Rn Cn a F) (hb : Gs Rn Cn b F) (hC : 0 < Cn) : a = b := by
 refine List.ext_getElem (ha.1.trans hb.1.symm) (fun i h1 h2 => ?_)
 obtain ⟨q1, q2, q3⟩ := idx_of (by rw [← ha.1]; exact h1) hC
 have e1 := ha.2.2 _ _ q1 q2
 have e2 := hb.2.2 _ _ q1 q2
 rw [q3, List.getD_eq_getElem?_getD, List.getElem?_eq_getElem h1] at e1
 rw [q3, List.getD_eq_getElem?_getD, List.getElem?_eq_getElem h2] at e2
 exact e1.trans e2.symm
theorem Gs.congr {Rn Cn : Nat} {a : List C4} {F G : Nat → Nat → C4} (h : Gs Rn Cn a F) (hFG : ∀ r c, r < Rn → c < Cn → F r c = G r c) : Gs Rn Cn a G := ⟨h.1, h.2.1, fun r c h1 h2 => (h.2.2 r c h1 h2).trans (hFG r c h1 h2)⟩
theorem Gs.cell {Rn Cn : Nat} {a : List C4} {F : Nat → Nat → C4} (h : Gs Rn Cn a F) {r c : Nat} (hr : r < Rn) (hc : c < Cn) : cellB (F r c) = true := by
 have hi := idx_lt (Rn := Rn) (Cn := Cn) hr hc
 have e := h.2.2 r c hr hc
 rw [List.getD_eq_getElem?_getD, List.getElem?_eq_getElem (by rw [h.1]; exact hi)] at e
 rw [← e]
 have hv := h.2.1
 unfold gridB at hv
 rw [Bool.and_eq_true, List.all_eq_true] at hv
 exact hv.2 _ (List.getElem_mem _)
theorem Gs.bd {Rn Cn : Nat} {a : List C4} {F : Nat → Nat → C4} (h : Gs Rn Cn a F) : 1 ≤ Rn ∧ Rn ≤ 30 ∧ 1 ≤ Cn ∧ Cn ≤ 100 := by
 have hv := h.2.1
 unfold gridB at hv
 rw [Bool.and_eq_true] at hv
 have := of_decide_eq_true hv.1
 omega
theorem Gs.of {Rn Cn : Nat} {F : Nat → Nat → C4} {cs : List C4} (hR : 1 ≤ Rn ∧ Rn ≤ 30) (hC : 1 ≤ Cn ∧ Cn ≤ 100) (hl : cs.length = Rn * Cn) (hF : ∀ r c, r < Rn → c < Cn → cs.getD (r * Cn + c) blk = F r c) (hv : ∀ r c, r < Rn → c < Cn → cellB (F r c) = true) : Gs Rn Cn cs F := by
 refine ⟨hl, ?_, hF⟩
 unfold gridB
 rw [Bool.and_eq_true]
 refine ⟨decide_eq_true ⟨by omega, by omega, by omega, by omega, by rw [hl]; exact Int.natCast_mul _ _⟩, ?_⟩
 rw [List.all_eq_true]
 intro x hx
 obtain ⟨i, hi, rfl⟩ := List.getElem_of_mem hx
 obtain ⟨q1, q2, q3⟩ := idx_of (by rw [← hl]; exact hi) (show 0 < Cn by omega)
 have e := hF _ _ q1 q2
 rw [q3, List.getD_eq_getElem?_getD, List.getElem?_eq_getElem hi] at e
 simp only [Option.getD_some] at e
 rw [e]
 exact hv _ _ q1 q2
theorem Gs.fill {Rn Cn : Nat} {cs : List C4} {F : Nat → Nat → C4} (h : Gs Rn Cn cs F) (row fr tt : Int) (d : C4) (hd : cellB d = true) :
  Gs Rn Cn (fillG (Rn : Int) (Cn : Int) cs row fr tt d) (fun r c => if (r : Int) = row ∧ fr ≤ c ∧ (c : Int) < tt then d else F r c) := by
 have hb := h.bd
 have e : fillG (Rn : Int) (Cn : Int) cs row fr tt d = tab Rn Cn (fillF Rn Cn cs row fr tt d) := by
  unfold fillG
  rw [if_pos ⟨h.2.1, hd⟩, Int.toNat_natCast, Int.toNat_natCast]
 have hF : ∀ r c, r < Rn → c < Cn → (tab Rn Cn (fillF Rn Cn cs row fr tt d)).getD (r * Cn + c) blk = if (r : Int) = row ∧ fr ≤ c ∧ (c : Int) < tt then d else F r c := by
  intro r c hr hc
  have hi := idx_lt (Rn := Rn) (Cn := Cn) hr hc
  have d1 : (r * Cn + c) / Cn = r := by rw [Nat.mul_comm, Nat.mul_add_div (by omega), Nat.div_eq_of_lt hc, Nat.add_zero]
  have d2 : (r * Cn + c) % Cn = c := by rw [Nat.mul_comm, Nat.mul_add_mod, Nat.mod_eq_of_lt hc]
  have hl : r * Cn + c < (tab Rn Cn (fillF Rn Cn cs row fr tt d)).length := by rw [tab_lenU]; exact hi
  rw [List.getD_eq_getElem?_getD, List.getElem?_eq_getElem hl]
  simp only [Option.getD_some, tab, tabK, List.getElem_map, List.getElem_range, d1, d2]
  unfold fillF
  by_cases hc1 : (r : Int) = row ∧ fr ≤ c ∧ (c : Int) < tt
  ·rw [if_pos hc1, if_pos hc1]
  ·rw [if_neg hc1, if_neg hc1, atF_in hr hc h.1]
   have := h.2.2 r c hr hc
   rw [List.getD_eq_getElem?_getD, List.getElem?_eq_getElem (by rw [h.1]; exact hi)] at this
   exact this
 rw [e]
 refine Gs.of ⟨hb.1, hb.2.1⟩ ⟨hb.2.2.1, hb.2.2.2⟩ (tab_lenU _ _ _) hF (fun r c hr hc => ?_)
 by_cases hc1 : (r : Int) = row ∧ fr ≤ c ∧ (c : Int) < tt
 ·rw [if_pos hc1]; exact hd
 ·rw [if_neg hc1]; exact h.cell hr hc
theorem Gs.fillT {Rn Cn : Nat} {cs : List C4} {F : Nat → Nat → C4} (h : Gs Rn Cn cs F) (row fr tt : Int) (d : C4) (hd : cellB d = true) :
  Gs Rn Cn (tab Rn Cn (fillF Rn Cn cs row fr tt d)) (fun r c => if (r : Int) = row ∧ fr ≤ c ∧ (c : Int) < tt then d else F r c) := by
 have e : fillG (Rn : Int) (Cn : Int) cs row fr tt d = tab Rn Cn (fillF Rn Cn cs row fr tt d) := by
  unfold fillG
  rw [if_pos ⟨h.2.1, hd⟩, Int.toNat_natCast, Int.toNat_natCast]
 have := h.fill row fr tt d hd
 rw [e] at this
 exact this
end Go.Proofs.YtmkpefielfinjaaDoor
