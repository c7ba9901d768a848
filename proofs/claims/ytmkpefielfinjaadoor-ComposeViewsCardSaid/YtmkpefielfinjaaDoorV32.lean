/- Parts of the proof, one after the other. -/
import Derived.Test.YtmkpefielfinjaaDoorV31
import Derived.Test.YtmkpefielfinjaaDoorV05
import Derived.Test.YtmkpefielfinjaaDoorV19
import Derived.Test.YtmkpefielfinjaaDoorV06
import Derived.Lib.SliceRun
import Derived.Test.YtmkpefielfinjaaDoorV07
import Derived.Test.YtmkpefielfinjaaDoorV17
import Derived.Test.YtmkpefielfinjaaDoorV13
set_option linter.unusedSimpArgs false
set_option linter.unusedVariables false
/- Compose: list: the line of a job in the cells of a row. -/
namespace Go.Proofs.YtmkpefielfinjaaDoor
open Go.RowKit Go.PlainAid

theorem decDigits_ascii : ∀ (m n : Nat), n = m → ∀ b ∈ Lib.decDigits n, 48 ≤ b.toNat ∧ b.toNat ≤ 57 := by
 intro m
 induction m using Nat.strongRecOn with
 | ind m ih =>
  intro n hn b hb
  rw [Lib.decDigits] at hb
  split at hb
  ·rename_i h
   simp only [List.mem_singleton] at hb
   subst hb
   rw [UInt8.toNat_ofNat']
   omega
  ·rename_i h
   rcases List.mem_append.1 hb with hb | hb
   ·exact ih (n / 10) (by omega) _ rfl b hb
   ·simp only [List.mem_singleton] at hb
    subst hb
    rw [UInt8.toNat_ofNat']
    omega
theorem itoa_ascii (n : Int) : ∀ b ∈ Lib.itoa n, 32 ≤ b.toNat ∧ b.toNat ≤ 126 := by
 intro b hb
 unfold Lib.itoa at hb
 split at hb
 ·rcases List.mem_cons.1 hb with rfl | hb
  ·decide
  ·have := decDigits_ascii _ _ rfl b hb; omega
 ·have := decDigits_ascii _ _ rfl b hb; omega
theorem word_ascii (p : Int) : ∀ b ∈ (wordB p).data.toList, 32 ≤ b.toNat ∧ b.toNat ≤ 126 := by
 unfold wordB
 split
 ·intro b hb
  have : b ∈ [(63 : UInt8)] := hb
  simp only [List.mem_singleton] at this
  subst this
  decide
 ·rename_i h
  obtain ⟨i, hi, hl⟩ : ∃ i : Nat, p.toNat = i ∧ i < 10 := ⟨_, rfl, by omega⟩
  rw [hi]
  have key : ∀ (l : ByteArray), (l.data.toList.all fun b => decide (32 ≤ b.toNat ∧ b.toNat ≤ 126)) = true → ∀ b ∈ l.data.toList, 32 ≤ b.toNat ∧ b.toNat ≤ 126 := fun l hl b hb => of_decide_eq_true (List.all_eq_true.1 hl b hb)
  match i, hl with
  | 0, _ => exact key _ (by decide)
  | 1, _ => exact key _ (by decide)
  | 2, _ => exact key _ (by decide)
  | 3, _ => exact key _ (by decide)
  | 4, _ => exact key _ (by decide)
  | 5, _ => exact key _ (by decide)
  | 6, _ => exact key _ (by decide)
  | 7, _ => exact key _ (by decide)
  | 8, _ => exact key _ (by decide)
  | 9, _ => exact key _ (by decide)
theorem lineL_ascii (s : ByteArray) (p inc runs : Int) (mark : Bool) : ∀ b ∈ lineL s p inc runs mark, 32 ≤ b.toNat ∧ b.toNat ≤ 126 := by
 intro b hb
 unfold lineL at hb
 rcases List.mem_append.1 hb with hb | hb
 ·rcases List.mem_append.1 hb with hb | hb
  ·rcases List.mem_append.1 hb with hb | hb
   ·rcases List.mem_append.1 hb with hb | hb
    ·rcases List.mem_append.1 hb with hb | hb
     ·rcases List.mem_append.1 hb with hb | hb
      ·unfold headL at hb
       cases mark
       ·have : b = 32 := by simpa using hb
        subst this; decide
       ·have : b = 62 ∨ b = 32 := by simpa using hb
        rcases this with rfl | rfl <;> decide
      ·unfold nameL at hb
       obtain ⟨x, -, rfl⟩ := List.mem_map.1 hb
       unfold clean
       split
       ·decide
       ·omega
     ·have : b = 32 := by simpa using hb
      subst this; decide
    ·exact word_ascii p b hb
   ·have : b = 32 ∨ b = 35 := by simpa using hb
    rcases this with rfl | rfl <;> decide
  ·exact itoa_ascii inc b hb
 ·unfold runL at hb
  split at hb
  ·simp at hb
  ·rcases List.mem_append.1 hb with hb | hb
   ·have : b = 32 ∨ b = 126 := by simpa using hb
    rcases this with rfl | rfl <;> decide
   ·exact itoa_ascii runs b hb
/-- The character k of a line, as a number. -/
def chrN (L : List UInt8) (k : Nat) : Int := ((L.getD k 0).toNat : Int)
theorem chrN_get (L : List UInt8) (k : Nat) (h : k < (bs L).size) : (((bs L)[k]'h).toNat : Int) = chrN L k := by
 have hl : k < L.length := h
 unfold chrN
 rw [List.getD_eq_getElem?_getD, List.getElem?_eq_getElem hl]
 rfl
theorem chrN_bd (s : ByteArray) (p inc runs : Int) (mark : Bool) (k : Nat) (h : k < (lineL s p inc runs mark).length) : 32 ≤ chrN (lineL s p inc runs mark) k ∧ chrN (lineL s p inc runs mark) k ≤ 126 := by
 unfold chrN
 rw [List.getD_eq_getElem?_getD, List.getElem?_eq_getElem h]
 have := lineL_ascii s p inc runs mark _ (List.getElem_mem h)
 simp only [Option.getD_some]
 omega
/-- A row with the line of a job. -/
def listC (p Cn : Nat) (L : List UInt8) (mark : Bool) (cs : List C4) : List C4 :=
 if mark = true then putV 4 p Cn (putU (chrN L) p (min L.length Cn) cs) else putU (chrN L) p (min L.length Cn) cs
theorem listC_len (p Cn : Nat) (L : List UInt8) (mark : Bool) (cs : List C4) : (listC p Cn L mark cs).length = cs.length := by
 unfold listC
 split
 ·rw [putV_len, putU_len]
 ·rw [putU_len]
theorem PowT.up30 {B : Nat} {w w' : World} (h : PowT B w) (hb : Below B w w') : PowT w'.heap.size w' := Lib.tabBelow_of_tabIs (h w' hb)
def itPos (w : World) (k : Nat) : Nat := match w.heap[k]? with
 | some (.stringIter _ pos) => pos
 | _ => 0
theorem itPos_of {w : World} {k pos : Nat} {s : ByteArray} (h : w.heap[k]? = some (.stringIter s pos)) : itPos w k = pos := by unfold itPos; rw [h]
theorem Wb.far {w w' : World} {g : Nat} {cs : List C4} {r : Option Nat} (h : Wb w g cs) (hg : w.grownBy w' r) (hne : some g ≠ r) : Wb w' g cs := (hg.block g h.lt hne).trans h
theorem Wb.iterAt {w : World} {g k pos : Nat} {cs : List C4} {s : ByteArray} (h : Wb w g cs) (hne : g ≠ k) : Wb (w.iterAt k s pos) g cs := (Lib.iterAt_other w k g s pos hne).trans h
theorem grown_iter {w wr : World} {r : Option Nat} {k pos : Nat} {s : ByteArray} (h : w.grownBy wr r) (hk : w.heap.size ≤ k) : w.grownBy (wr.iterAt k s pos) r := ⟨h.os, h.tape, h.output, by rw [Lib.iterAt_size]; exact h.size, fun i hi hne => (Lib.iterAt_other wr k i s pos (by omega)).trans (h.block i hi hne)⟩

set_option maxRecDepth 100000 in
set_option maxHeartbeats 2000000 in
theorem list_any (g o p Cn cap : Nat) (cs : List C4) (s : ByteArray) (ph inc runs : Int) (mark : Bool) (w : World) (ho : o = p * 4) (hW : Wb w g cs) (hfit : p + Cn ≤ cs.length) (hcn : Cn ≤ 1000) (hcap : Cn ≤ cap) (hcap2 : cap ≤ 9223372036854775807) (hs : s.size ≤ 140737488351232) (c0 : -9223372036854775808 ≤ inc) (c1 : inc ≤ 9223372036854775807) (r0 : -9223372036854775808 ≤ runs) (r1 : runs ≤ 9223372036854775807) (hT : WordT w) (hP : PowT w.heap.size w) :
  Calls Tryd.prog 33 #[.slice (some ⟨g, o, none⟩) Cn cap, .agg #[.string s, .int .i64 ph, .int .i64 inc, .int .i64 runs], .bool mark] w fun e w' => e = .returned (.tuple #[]) ∧ Wb w' g (listC p Cn (lineL s ph inc runs mark) mark cs) ∧ w.grownBy w' (some g) := by
 have HW := Lib.hid hW
 have HT := Lib.hid hT
 have HP := Lib.hid hP
 have HO := Lib.hid ho
 have hgz := hW.lt
 clear hW hT hP ho
 obtain ⟨L, hL⟩ : ∃ L, L = lineL s ph inc runs mark := ⟨_, rfl⟩
 have hcb : ∀ k, k < L.length → 32 ≤ chrN L k ∧ chrN L k ≤ 126 := fun k hk => by rw [hL] at hk ⊢; exact chrN_bd s ph inc runs mark k hk
 have hLl : L.length ≤ 140737488351332 := by
  have h1 := wordB_size ph
  have h2 := Lib.itoa_length_le inc c0 c1
  have h3 := Lib.itoa_length_le runs r0 r1
  have h4 := nameL_len s
  have h5 : (wordB ph).data.toList.length = (wordB ph).size := rfl
  have h6 : (runL runs).length ≤ 23 := by unfold runL; split <;> simp <;> omega
  rw [hL]
  unfold lineL headL
  simp only [List.length_append, List.length_cons, List.length_nil]
  omega
 have HL := Lib.hid hL
 have HC := Lib.hid hcb
 clear hcb
 rw [← hL]
 clear hL
 go_enter Tryd.func33, Tryd.ntmps33
 go_wp2_with (first
  | (go_at_call 11; refine (line_any s ph inc runs mark _ hs c0 c1 r0 r1 (by exact HT.out.up BWX) (by exact PowT.up30 HP.out (show Bw w _ from BWX))).mono ?_; rintro ee w1 ⟨rfl, hb1⟩; rw [← HL.out]; have HB1 := Lib.hid (Bw.trans (show Bw w (w.alloc _) from BWX) hb1); have hz1 := hb1.size; rw [heapsz] at hz1; clear hb1)
  | fail)
 have hbs : ∀ X : List UInt8, (bs X).size = X.length := fun _ => rfl
 have hz2 : g < w1.heap.size := by omega
 go_loopw [] (fun wr => ∃ k : Nat, k ≤ L.length + 1 ∧ wr.heap[w1.heap.size]? = some (.stringIter (bs L) k) ∧ k ≤ L.length ∧ k ≤ Cn ∧ Wb wr g (putU (chrN L) p k cs) ∧ w.grownBy wr (some g)) (fun wr => L.length - itPos wr w1.heap.size)
 case atStart => exact ⟨0, by omega, World.iter_heap _ _ _, by omega, by omega, HW.out.up (Bw.trans HB1.out (show Bw w1 (w1.alloc _) from BWX)), grown_bw (Bw.trans HB1.out (show Bw w1 (w1.alloc _) from BWX)) _⟩
 case round =>
  obtain ⟨k, -, hit, hk1, hk2, hWr, hgr⟩ := hrel
  have hpos := itPos_of hit
  have HWr := Lib.hid hWr
  have HGr := Lib.hid hgr
  have HIT := Lib.hid hit
  have hzr := hgr.size
  have hzi := lt_of_block hit
  clear hWr hgr
  by_cases hlt : k < L.length
  ·have hch := HC.out k hlt
   have hsz : k < (bs L).size := hlt
   have hnx := fun ty => Lib.run_next_ascii_at (P := Tryd.prog) wr w1.heap.size (bs L) k ty hit hsz (by have := chrN_get L k hsz; omega)
   rw [chrN_get L k hsz] at hnx
   have HW2 := Lib.hid (Wb.iterAt (k := w1.heap.size) (pos := k + 1) (s := bs L) HWr.out (by omega))
   have hit2 := Lib.hid (Lib.iterAt_heap wr w1.heap.size (bs L) k (k + 1) hit)
   have hg2 : wr.grownBy (wr.iterAt w1.heap.size (bs L) (k + 1)) (some w1.heap.size) := ⟨rfl, rfl, rfl, by rw [Lib.iterAt_size]; exact Nat.le_refl _, fun i _ hne => Lib.iterAt_other wr w1.heap.size i (bs L) (k + 1) (fun e => hne (by rw [e]))⟩
   clear hit hsz
   by_cases hlc : k < Cn
   ·have hck := HW2.out.cells (p + k) (by rw [putU_len]; omega)
    have x0 := hck.1
    have f0 := HW2.out.free ((p + k) * 4)
    rw [show (p + k) * 4 = o + k * 4 by rw [HO.out]; omega] at x0 f0
    clear hck
    go_wp2_with fail
    go_roundw
    case rel =>
     refine ⟨k + 1, by omega, (Below.heap_setCell _ _ _ _ (by dsimp only; omega)).trans hit2.out, by omega, by omega, ?_, grown_set (grown_iter HGr.out (by omega)) _ _⟩
     have := Wb.putU1 HW2.out (by omega)
     rw [show (p + k) * 4 = o + k * 4 by rw [HO.out]; omega] at this
     exact this
    case measure =>
     have h1 : itPos _ w1.heap.size = k + 1 := itPos_of ((Below.heap_setCell (wr.iterAt w1.heap.size (bs L) (k + 1)) ⟨g, o + k * 4, none⟩ (.int .i64 (chrN L k)) w1.heap.size (by dsimp only; omega)).trans hit2.out)
     rw [hpos, h1]
     omega
   ·skip
    go_upto_if 28 with (fail)
    have HWx := Lib.hid HW2.out
    have HGx := Lib.hid (grown_iter (s := bs L) (pos := k + 1) (k := w1.heap.size) HGr.out (by omega))
    have hm : min L.length Cn = k := by omega
    have HE := Lib.hid hm
    clear hm hnx
    cases mark
    ·go_wp2_with fail
     first | go_end0 | ((try simp only [Exit.inBlock, Exit.then]); refine bodyPost_ret (results_none rfl _ _ _) rfl ?_)
     refine ⟨rfl, ?_, HGx.out⟩
     unfold listC
     rw [if_neg (by simp), HE.out]
     exact HWx.out
    ·go_wp2_with fail
     go_loopw [31] (fun i wq => ∃ j : Nat, i = .int .i64 j ∧ j ≤ Cn ∧ Wb wq g (putV 4 p j (putU (chrN L) p k cs)) ∧ w.grownBy wq (some g)) (fun i _ => Cn - (intOf i).toNat)
     case atStart => exact ⟨0, rfl, by omega, HWx.out, HGx.out⟩
     case round =>
      obtain ⟨j, rfl, hj, hWq, hgq⟩ := hrel
      have HWq := Lib.hid hWq
      have HGq := Lib.hid hgq
      clear hWq hgq
      by_cases hjl : j < Cn
      ·have x1 := (HWq.out.cells (p + j) (by rw [putV_len, putU_len]; omega)).2.1
       have f1 := HWq.out.free ((p + j) * 4 + 1)
       rw [show (p + j) * 4 + 1 = o + j * 4 + 1 by rw [HO.out]; omega] at x1 f1
       go_wp2_with fail
       go_roundw
       case rel =>
        refine ⟨j + 1, by go_num, by omega, ?_, grown_set HGq.out _ _⟩
        have := Wb.putV1 HWq.out (by rw [putU_len]; omega)
        rw [show (p + j) * 4 + 1 = o + j * 4 + 1 by rw [HO.out]; omega] at this
        exact this
       case measure => simp [intOf]; omega
      ·obtain rfl : j = Cn := by omega
       go_wp2_with fail
       first | go_end0 | ((try simp only [Exit.inBlock, Exit.then]); refine bodyPost_ret (results_none rfl _ _ _) rfl ?_)
       refine ⟨rfl, ?_, HGq.out⟩
       unfold listC
       rw [if_pos rfl, HE.out]
       exact HWq.out
  ·obtain rfl : k = L.length := by omega
   have hnx := fun ty => Lib.run_next_end_at (P := Tryd.prog) wr w1.heap.size (bs L) L.length ty hit (by rw [hbs]; omega)
   clear hit
   go_upto_if 28 with (fail)
   have HWx := Lib.hid HWr.out
   have HGx := Lib.hid HGr.out
   have hm : min L.length Cn = L.length := by omega
   have HE := Lib.hid hm
   clear hm hnx
   cases mark
   ·go_wp2_with fail
    first | go_end0 | ((try simp only [Exit.inBlock, Exit.then]); refine bodyPost_ret (results_none rfl _ _ _) rfl ?_)
    refine ⟨rfl, ?_, HGx.out⟩
    unfold listC
    rw [if_neg (by simp), HE.out]
    exact HWx.out
   ·go_wp2_with fail
    go_loopw [31] (fun i wq => ∃ j : Nat, i = .int .i64 j ∧ j ≤ Cn ∧ Wb wq g (putV 4 p j (putU (chrN L) p L.length cs)) ∧ w.grownBy wq (some g)) (fun i _ => Cn - (intOf i).toNat)
    case atStart => exact ⟨0, rfl, by omega, HWx.out, HGx.out⟩
    case round =>
     obtain ⟨j, rfl, hj, hWq, hgq⟩ := hrel
     have HWq := Lib.hid hWq
     have HGq := Lib.hid hgq
     clear hWq hgq
     by_cases hjl : j < Cn
     ·have x1 := (HWq.out.cells (p + j) (by rw [putV_len, putU_len]; omega)).2.1
      have f1 := HWq.out.free ((p + j) * 4 + 1)
      rw [show (p + j) * 4 + 1 = o + j * 4 + 1 by rw [HO.out]; omega] at x1 f1
      go_wp2_with fail
      go_roundw
      case rel =>
       refine ⟨j + 1, by go_num, by omega, ?_, grown_set HGq.out _ _⟩
       have := Wb.putV1 HWq.out (by rw [putU_len]; omega)
       rw [show (p + j) * 4 + 1 = o + j * 4 + 1 by rw [HO.out]; omega] at this
       exact this
      case measure => simp [intOf]; omega
     ·obtain rfl : j = Cn := by omega
      go_wp2_with fail
      first | go_end0 | ((try simp only [Exit.inBlock, Exit.then]); refine bodyPost_ret (results_none rfl _ _ _) rfl ?_)
      refine ⟨rfl, ?_, HGq.out⟩
      unfold listC
      rw [if_pos rfl, HE.out]
      exact HWq.out
end Go.Proofs.YtmkpefielfinjaaDoor

/- Compose: which views are valid, on both sides. -/
namespace Go.Proofs.YtmkpefielfinjaaDoor
open Go.RowKit

def viewB (R C : Int) (cs : List C4) (row col : Int) : Bool := gridB R C cs && decide (0 ≤ row ∧ row < R ∧ 0 ≤ col ∧ col < C)

set_option maxRecDepth 100000 in
set_option maxHeartbeats 2000000 in
theorem rview_any (R C : Int) (A : Option Addr) (n c : Nat) (cs : List C4) (row col : Int) (hid : Bool) (w : World) (hr : Rg w A n cs) (hn : n ≤ c) (hc : c ≤ 9223372036854775807) :
  Calls Tryd.prog 20 #[.agg #[.int .i64 R, .int .i64 C, .slice A n c, .int .i64 row, .int .i64 col, .bool hid]] w fun e w' => e = .returned (.bool (viewB R C cs row col)) ∧ Bw w w' := by
 have HR := Lib.hid hr
 clear hr
 have hz : gridB R C cs = false ∨ (gridB R C cs = true ∧ row < 0) ∨ (gridB R C cs = true ∧ 0 ≤ row ∧ R ≤ row) ∨ (gridB R C cs = true ∧ (0 ≤ row ∧ row < R) ∧ col < 0) ∨ (gridB R C cs = true ∧ (0 ≤ row ∧ row < R) ∧ 0 ≤ col ∧ C ≤ col) ∨ (gridB R C cs = true ∧ (0 ≤ row ∧ row < R) ∧ 0 ≤ col ∧ col < C) := by
  cases gridB R C cs
  ·exact .inl rfl
  ·simp only [true_and, Bool.true_eq_false, false_or]
   omega
 rcases hz with h | ⟨h, h1⟩ | ⟨h, h1, h2⟩ | ⟨h, ⟨h1, h2⟩, h3⟩ | ⟨h, ⟨h1, h2⟩, h3, h4⟩ | ⟨h, ⟨h1, h2⟩, h3, h4⟩
 all_goals
  have HV := Lib.hid h
  first
   | (have HE := Lib.hid (show viewB R C cs row col = false by unfold viewB; rw [h, Bool.false_and]); clear h)
   | (have HE := Lib.hid (show viewB R C cs row col = false by unfold viewB; rw [h, Bool.true_and]; exact decide_eq_false (by omega)); clear h)
   | (have HE := Lib.hid (show viewB R C cs row col = true by unfold viewB; rw [h, Bool.true_and]; exact decide_eq_true (by omega)); clear h)
  go_enter Tryd.func20, Tryd.ntmps20
  go_wp2_with (first
   | (go_at_call 40; refine (rgvalid_any R C A n c cs _ (by exact HR.out.up (show Bw w _ from BWX)) hn hc).mono ?_; rintro ee wv ⟨rfl, hbv⟩; rw [HV.out]; have x0 := cell_bw hbv (cell_alloc_here (w := w) (cs := #[.int .i64 R, .int .i64 C, .slice A n c, .int .i64 row, .int .i64 col, .bool hid]) (T := 34) (fr := (0, 0)) (i := 0) rfl rfl); have x1 := cell_bw hbv (cell_alloc_here (w := w) (cs := #[.int .i64 R, .int .i64 C, .slice A n c, .int .i64 row, .int .i64 col, .bool hid]) (T := 34) (fr := (0, 0)) (i := 1) rfl rfl); have x3 := cell_bw hbv (cell_alloc_here (w := w) (cs := #[.int .i64 R, .int .i64 C, .slice A n c, .int .i64 row, .int .i64 col, .bool hid]) (T := 34) (fr := (0, 0)) (i := 3) rfl rfl); have x4 := cell_bw hbv (cell_alloc_here (w := w) (cs := #[.int .i64 R, .int .i64 C, .slice A n c, .int .i64 row, .int .i64 col, .bool hid]) (T := 34) (fr := (0, 0)) (i := 4) rfl rfl))
   | fail)
  go_ret
  exact ⟨by rw [HE.out]; first | rfl | (show Ending.returned (.bool (decide (col < C))) = _; rw [decide_eq_false (by omega)]) | (show Ending.returned (.bool (decide (col < C))) = _; rw [decide_eq_true (by omega)]), Bw.trans (show Bw w (w.alloc _) from BWX) hbv⟩

set_option maxRecDepth 100000 in
set_option maxHeartbeats 2000000 in
theorem gview_any (R C : Int) (A : Option Addr) (n c : Nat) (cs : List C4) (row col : Int) (hid : Bool) (w : World) (hr : Rg w A n cs) (hn : n ≤ c) (hc : c ≤ 9223372036854775807) :
  Calls Tryd.prog 35 #[.agg #[.int .i64 R, .int .i64 C, .slice A n c, .int .i64 row, .int .i64 col, .bool hid]] w fun e w' => e = .returned (.bool (viewB R C cs row col)) ∧ Bw w w' := by
 have HR := Lib.hid hr
 clear hr
 have hz : gridB R C cs = false ∨ (gridB R C cs = true ∧ row < 0) ∨ (gridB R C cs = true ∧ 0 ≤ row ∧ R ≤ row) ∨ (gridB R C cs = true ∧ (0 ≤ row ∧ row < R) ∧ col < 0) ∨ (gridB R C cs = true ∧ (0 ≤ row ∧ row < R) ∧ 0 ≤ col ∧ C ≤ col) ∨ (gridB R C cs = true ∧ (0 ≤ row ∧ row < R) ∧ 0 ≤ col ∧ col < C) := by
  cases gridB R C cs
  ·exact .inl rfl
  ·simp only [true_and, Bool.true_eq_false, false_or]
   omega
 rcases hz with h | ⟨h, h1⟩ | ⟨h, h1, h2⟩ | ⟨h, ⟨h1, h2⟩, h3⟩ | ⟨h, ⟨h1, h2⟩, h3, h4⟩ | ⟨h, ⟨h1, h2⟩, h3, h4⟩
 all_goals
  have HV := Lib.hid h
  first
   | (have HE := Lib.hid (show viewB R C cs row col = false by unfold viewB; rw [h, Bool.false_and]); clear h)
   | (have HE := Lib.hid (show viewB R C cs row col = false by unfold viewB; rw [h, Bool.true_and]; exact decide_eq_false (by omega)); clear h)
   | (have HE := Lib.hid (show viewB R C cs row col = true by unfold viewB; rw [h, Bool.true_and]; exact decide_eq_true (by omega)); clear h)
  go_enter Tryd.func35, Tryd.ntmps35
  go_wp2_with (first
   | (go_at_call 52; refine (ggvalid_any R C A n c cs _ (by exact HR.out.up (show Bw w _ from BWX)) hn hc).mono ?_; rintro ee wv ⟨rfl, hbv⟩; rw [HV.out]; have x0 := cell_bw hbv (cell_alloc_here (w := w) (cs := #[.int .i64 R, .int .i64 C, .slice A n c, .int .i64 row, .int .i64 col, .bool hid]) (T := 34) (fr := (0, 0)) (i := 0) rfl rfl); have x1 := cell_bw hbv (cell_alloc_here (w := w) (cs := #[.int .i64 R, .int .i64 C, .slice A n c, .int .i64 row, .int .i64 col, .bool hid]) (T := 34) (fr := (0, 0)) (i := 1) rfl rfl); have x3 := cell_bw hbv (cell_alloc_here (w := w) (cs := #[.int .i64 R, .int .i64 C, .slice A n c, .int .i64 row, .int .i64 col, .bool hid]) (T := 34) (fr := (0, 0)) (i := 3) rfl rfl); have x4 := cell_bw hbv (cell_alloc_here (w := w) (cs := #[.int .i64 R, .int .i64 C, .slice A n c, .int .i64 row, .int .i64 col, .bool hid]) (T := 34) (fr := (0, 0)) (i := 4) rfl rfl))
   | fail)
  go_ret
  exact ⟨by rw [HE.out]; first | rfl | (show Ending.returned (.bool (decide (col < C))) = _; rw [decide_eq_false (by omega)]) | (show Ending.returned (.bool (decide (col < C))) = _; rw [decide_eq_true (by omega)]), Bw.trans (show Bw w (w.alloc _) from BWX) hbv⟩
end Go.Proofs.YtmkpefielfinjaaDoor

/- The program's grids: cells cloned, rows. -/
namespace Go.Proofs.YtmkpefielfinjaaDoor
open Go.RowKit

end Go.Proofs.YtmkpefielfinjaaDoor

/- The program's grids: tables, the cells of a row filled in place. -/
namespace Go.Proofs.YtmkpefielfinjaaDoor
open Go.RowKit

end Go.Proofs.YtmkpefielfinjaaDoor

/- The program's grids: change with Fill's closure; Fill. -/
namespace Go.Proofs.YtmkpefielfinjaaDoor
open Go.RowKit

theorem Ce.far {w w' : World} {g o : Nat} {c : C4} {row : Option Nat} (h : Ce w g o c) (hg : w.grownBy w' row) (hne : some g ≠ row) : Ce w' g o c := ⟨cell_far h.1 hg hne, cell_far h.2.1 hg hne, cell_far h.2.2.1 hg hne, cell_far h.2.2.2 hg hne⟩
theorem Rg.far {w w' : World} {A : Option Addr} {n : Nat} {cs : List C4} {row : Option Nat} (h : Rg w A n cs) (hg : w.grownBy w' row) (hne : ∀ ad, A = some ad → some ad.block ≠ row) : Rg w' A n cs := by
 refine ⟨h.1, fun h0 => ?_⟩
 obtain ⟨g, o, e, hx⟩ := h.2 h0
 exact ⟨g, o, e, fun i hi => (hx i hi).far hg (by have := hne ⟨g, o, none⟩ e; exact this)⟩
/-- A grid's cells. -/
def grV (R C : Int) (A : Option Addr) (n c : Nat) : Array Value := #[.int .i64 R, .int .i64 C, .slice A n c]
theorem infoGr : (Tryd.prog.info? 32).map (·.size) = some 3 := by kernel_rfl
theorem grV_one (R C : Int) (A : Option Addr) (n c : Nat) : (grV R C A n c).all (·.oneCell') = true := all_oneCell_toArray (fun v hv => by
 simp only [List.mem_cons, List.not_mem_nil, or_false] at hv
 rcases hv with rfl | rfl | rfl <;> rfl)
theorem wpList_store_gr {ops : Array Oper} {rest : List Oper} {o : Oper} {a : Act} {w : World} {Q : Exit → Act → World → Prop} (R C : Int) (A : Option Addr) (n c : Nat) (g : Nat) (x y : Operand) (ho : o.op = .store 32 x y) (hgd : o.guard = none)
  (hx : a.eval x = .pointer (some ⟨g, 0, none⟩)) (hy : a.eval y = .agg (grV R C A n c)) (hg : ∃ old, Sb w g old 32 ∧ old.size = 3)
  (h : ∀ w', Sb w' g (grV R C A n c) 32 → w.grownBy w' (some g) → wpList Tryd.prog ops Q rest (a.put o.dst undef) w') : wpList Tryd.prog ops Q (o :: rest) a w :=
 wpList_store_cs 32 (grV R C A n c) g x y infoGr (grV_one R C A n c) ho hgd hx hy hg h
theorem results_gr {fn : Func} {p : Tmp} (h : fn.results = #[.cell p 32]) (tmps : Array Value) (w : World) (g : Nat) (R C : Int) (A : Option Addr) (n c : Nat) (hp : tmps.getD p undef = .pointer (some ⟨g, 0, none⟩)) (hg : Sb w g (grV R C A n c) 32) :
  (results fn tmps).run Tryd.prog w = .ok (.agg #[.int .i64 R, .int .i64 C, .slice A n c]) w := results_cell_row h tmps w g 32 (grV R C A n c) (0, 0) _ hp hg Tryd.underlying32 rfl infoGr

end Go.Proofs.YtmkpefielfinjaaDoor
