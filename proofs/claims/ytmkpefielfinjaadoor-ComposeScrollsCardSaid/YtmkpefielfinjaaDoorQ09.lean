/- Parts of the proof, one after the other. -/
import Derived.Test.YtmkpefielfinjaaDoorQ03
import Derived.Test.YtmkpefielfinjaaDoorQ08
set_option linter.unusedSimpArgs false
set_option linter.unusedVariables false
/- Compose: list: the line of a job in the cells of a row. -/
namespace Go.Proofs.YtmkpefielfinjaaDoor
open Go.RowKit Go.PlainAid

theorem decDigits_ascii : ∀ (m n : Nat), n = m → ∀ b ∈ Lib.decDigits n, 48 ≤ b.toNat ∧ b.toNat ≤ 57 := by
  intro m
  induction m using Nat.strongRecOn with
  | ind m ih =>
    intro n hn b hb
    rw [Lib.decDigits] at hb
    split at hb
    · rename_i h
      simp only [List.mem_singleton] at hb
      subst hb
      rw [UInt8.toNat_ofNat']
      omega
    · rename_i h
      rcases List.mem_append.1 hb with hb | hb
      · exact ih (n / 10) (by omega) _ rfl b hb
      · simp only [List.mem_singleton] at hb
        subst hb
        rw [UInt8.toNat_ofNat']
        omega
theorem itoa_ascii (n : Int) : ∀ b ∈ Lib.itoa n, 32 ≤ b.toNat ∧ b.toNat ≤ 126 := by
  intro b hb
  unfold Lib.itoa at hb
  split at hb
  · rcases List.mem_cons.1 hb with rfl | hb
    · decide
    · have := decDigits_ascii _ _ rfl b hb; omega
  · have := decDigits_ascii _ _ rfl b hb; omega
theorem word_ascii (p : Int) : ∀ b ∈ (wordB p).data.toList, 32 ≤ b.toNat ∧ b.toNat ≤ 126 := by
  unfold wordB
  split
  · intro b hb
    have : b ∈ [(63 : UInt8)] := hb
    simp only [List.mem_singleton] at this
    subst this
    decide
  · rename_i h
    obtain ⟨i, hi, hl⟩ : ∃ i : Nat, p.toNat = i ∧ i < 10 := ⟨_, rfl, by omega⟩
    rw [hi]
    have key : ∀ (l : ByteArray), (l.data.toList.all fun b => decide (32 ≤ b.toNat ∧ b.toNat ≤ 126)) = true → ∀ b ∈ l.data.toList, 32 ≤ b.toNat ∧ b.toNat ≤ 126 := fun l hl b hb => of_decide_eq_true (List.all_eq_true.1 hl b hb)
    match i, hl with
    | 0, _ => exact key _ (by decide)
    | 1, _ => exact key _ (by decide)
    | 2, _ => exact key _ (by decide)
    | 3, _ => exact key _ (by decide)
    | 4, _ => exact key _ (by decide)
    | 5, _ => exact key _ (by decide)
    | 6, _ => exact key _ (by decide)
    | 7, _ => exact key _ (by decide)
    | 8, _ => exact key _ (by decide)
    | 9, _ => exact key _ (by decide)
theorem lineL_ascii (s : ByteArray) (p inc runs : Int) (mark : Bool) : ∀ b ∈ lineL s p inc runs mark, 32 ≤ b.toNat ∧ b.toNat ≤ 126 := by
  intro b hb
  unfold lineL at hb
  rcases List.mem_append.1 hb with hb | hb
  · rcases List.mem_append.1 hb with hb | hb
    · rcases List.mem_append.1 hb with hb | hb
      · rcases List.mem_append.1 hb with hb | hb
        · rcases List.mem_append.1 hb with hb | hb
          · rcases List.mem_append.1 hb with hb | hb
            · unfold headL at hb
              cases mark
              · have : b = 32 := by simpa using hb
                subst this; decide
              · have : b = 62 ∨ b = 32 := by simpa using hb
                rcases this with rfl | rfl <;> decide
            · unfold nameL at hb
              obtain ⟨x, -, rfl⟩ := List.mem_map.1 hb
              unfold clean
              split
              · decide
              · omega
          · have : b = 32 := by simpa using hb
            subst this; decide
        · exact word_ascii p b hb
      · have : b = 32 ∨ b = 35 := by simpa using hb
        rcases this with rfl | rfl <;> decide
    · exact itoa_ascii inc b hb
  · unfold runL at hb
    split at hb
    · simp at hb
    · rcases List.mem_append.1 hb with hb | hb
      · have : b = 32 ∨ b = 126 := by simpa using hb
        rcases this with rfl | rfl <;> decide
      · exact itoa_ascii runs b hb
/-- The character k of a line, as a number. -/
def chrN (L : List UInt8) (k : Nat) : Int := ((L.getD k 0).toNat : Int)
theorem chrN_get (L : List UInt8) (k : Nat) (h : k < (bs L).size) : (((bs L)[k]'h).toNat : Int) = chrN L k := by
  have hl : k < L.length := h
  unfold chrN
  rw [List.getD_eq_getElem?_getD, List.getElem?_eq_getElem hl]
  rfl
theorem chrN_bd (s : ByteArray) (p inc runs : Int) (mark : Bool) (k : Nat) (h : k < (lineL s p inc runs mark).length) : 32 ≤ chrN (lineL s p inc runs mark) k ∧ chrN (lineL s p inc runs mark) k ≤ 126 := by
  unfold chrN
  rw [List.getD_eq_getElem?_getD, List.getElem?_eq_getElem h]
  have := lineL_ascii s p inc runs mark _ (List.getElem_mem h)
  simp only [Option.getD_some]
  omega
/-- A row with the line of a job. -/
def listC (p Cn : Nat) (L : List UInt8) (mark : Bool) (cs : List C4) : List C4 :=
  if mark = true then putV 4 p Cn (putU (chrN L) p (min L.length Cn) cs) else putU (chrN L) p (min L.length Cn) cs
theorem listC_len (p Cn : Nat) (L : List UInt8) (mark : Bool) (cs : List C4) : (listC p Cn L mark cs).length = cs.length := by
  unfold listC
  split
  · rw [putV_len, putU_len]
  · rw [putU_len]
theorem PowT.up30 {B : Nat} {w w' : World} (h : PowT B w) (hb : Below B w w') : PowT w'.heap.size w' := Lib.tabBelow_of_tabIs (h w' hb)
def itPos (w : World) (k : Nat) : Nat := match w.heap[k]? with
  | some (.stringIter _ pos) => pos
  | _ => 0
theorem itPos_of {w : World} {k pos : Nat} {s : ByteArray} (h : w.heap[k]? = some (.stringIter s pos)) : itPos w k = pos := by unfold itPos; rw [h]
theorem Wb.far {w w' : World} {g : Nat} {cs : List C4} {r : Option Nat} (h : Wb w g cs) (hg : w.grownBy w' r) (hne : some g ≠ r) : Wb w' g cs := (hg.block g h.lt hne).trans h
theorem Wb.iterAt {w : World} {g k pos : Nat} {cs : List C4} {s : ByteArray} (h : Wb w g cs) (hne : g ≠ k) : Wb (w.iterAt k s pos) g cs := (Lib.iterAt_other w k g s pos hne).trans h
theorem grown_iter {w wr : World} {r : Option Nat} {k pos : Nat} {s : ByteArray} (h : w.grownBy wr r) (hk : w.heap.size ≤ k) : w.grownBy (wr.iterAt k s pos) r := ⟨h.os, h.tape, h.output, by rw [Lib.iterAt_size]; exact h.size, fun i hi hne => (Lib.iterAt_other wr k i s pos (by omega)).trans (h.block i hi hne)⟩

set_option maxRecDepth 100000 in
set_option maxHeartbeats 2000000 in
theorem list_any (g o p Cn cap : Nat) (cs : List C4) (s : ByteArray) (ph inc runs : Int) (mark : Bool) (w : World) (ho : o = p * 4) (hW : Wb w g cs) (hfit : p + Cn ≤ cs.length) (hcn : Cn ≤ 1000) (hcap : Cn ≤ cap) (hcap2 : cap ≤ 9223372036854775807) (hs : s.size ≤ 1000000000) (c0 : -9223372036854775808 ≤ inc) (c1 : inc ≤ 9223372036854775807) (r0 : -9223372036854775808 ≤ runs) (r1 : runs ≤ 9223372036854775807) (hT : WordT w) (hP : PowT w.heap.size w) :
    Calls Tryd.prog 33 #[.slice (some ⟨g, o, none⟩) Cn cap, .agg #[.string s, .int .i64 ph, .int .i64 inc, .int .i64 runs], .bool mark] w fun e w' => e = .returned (.tuple #[]) ∧ Wb w' g (listC p Cn (lineL s ph inc runs mark) mark cs) ∧ w.grownBy w' (some g) := by
  have HW := Lib.hid hW
  have HT := Lib.hid hT
  have HP := Lib.hid hP
  have HO := Lib.hid ho
  have hgz := hW.lt
  clear hW hT hP ho
  obtain ⟨L, hL⟩ : ∃ L, L = lineL s ph inc runs mark := ⟨_, rfl⟩
  have hcb : ∀ k, k < L.length → 32 ≤ chrN L k ∧ chrN L k ≤ 126 := fun k hk => by rw [hL] at hk ⊢; exact chrN_bd s ph inc runs mark k hk
  have hLl : L.length ≤ 1000000100 := by
    have h1 := wordB_size ph
    have h2 := Lib.itoa_length_le inc c0 c1
    have h3 := Lib.itoa_length_le runs r0 r1
    have h4 := nameL_len s
    have h5 : (wordB ph).data.toList.length = (wordB ph).size := rfl
    have h6 : (runL runs).length ≤ 23 := by unfold runL; split <;> simp <;> omega
    rw [hL]
    unfold lineL headL
    simp only [List.length_append, List.length_cons, List.length_nil]
    omega
  have HL := Lib.hid hL
  have HC := Lib.hid hcb
  clear hcb
  rw [← hL]
  clear hL
  go_enter Tryd.func33, Tryd.ntmps33
  go_wp2_with (first
    | (go_at_call 11; refine (line_any s ph inc runs mark _ hs c0 c1 r0 r1 (by exact HT.out.up BWX) (by exact PowT.up30 HP.out (show Bw w _ from BWX))).mono ?_; rintro ee w1 ⟨rfl, hb1⟩; rw [← HL.out]; have HB1 := Lib.hid (Bw.trans (show Bw w (w.alloc _) from BWX) hb1); have hz1 := hb1.size; rw [heapsz] at hz1; clear hb1)
    | fail)
  have hbs : ∀ X : List UInt8, (bs X).size = X.length := fun _ => rfl
  have hz2 : g < w1.heap.size := by omega
  go_loopw [] (fun wr => ∃ k : Nat, k ≤ L.length + 1 ∧ wr.heap[w1.heap.size]? = some (.stringIter (bs L) k) ∧ k ≤ L.length ∧ k ≤ Cn ∧ Wb wr g (putU (chrN L) p k cs) ∧ w.grownBy wr (some g)) (fun wr => L.length - itPos wr w1.heap.size)
  case atStart => exact ⟨0, by omega, World.iter_heap _ _ _, by omega, by omega, HW.out.up (Bw.trans HB1.out (show Bw w1 (w1.alloc _) from BWX)), grown_bw (Bw.trans HB1.out (show Bw w1 (w1.alloc _) from BWX)) _⟩
  case round =>
    obtain ⟨k, -, hit, hk1, hk2, hWr, hgr⟩ := hrel
    have hpos := itPos_of hit
    have HWr := Lib.hid hWr
    have HGr := Lib.hid hgr
    have HIT := Lib.hid hit
    have hzr := hgr.size
    have hzi := lt_of_block hit
    clear hWr hgr
    by_cases hlt : k < L.length
    · have hch := HC.out k hlt
      have hsz : k < (bs L).size := hlt
      have hnx := fun ty => Lib.run_next_ascii_at (P := Tryd.prog) wr w1.heap.size (bs L) k ty hit hsz (by have := chrN_get L k hsz; omega)
      rw [chrN_get L k hsz] at hnx
      have HW2 := Lib.hid (Wb.iterAt (k := w1.heap.size) (pos := k + 1) (s := bs L) HWr.out (by omega))
      have hit2 := Lib.hid (Lib.iterAt_heap wr w1.heap.size (bs L) k (k + 1) hit)
      have hg2 : wr.grownBy (wr.iterAt w1.heap.size (bs L) (k + 1)) (some w1.heap.size) := ⟨rfl, rfl, rfl, by rw [Lib.iterAt_size]; exact Nat.le_refl _, fun i _ hne => Lib.iterAt_other wr w1.heap.size i (bs L) (k + 1) (fun e => hne (by rw [e]))⟩
      clear hit hsz
      by_cases hlc : k < Cn
      · have hck := HW2.out.cells (p + k) (by rw [putU_len]; omega)
        have x0 := hck.1
        have f0 := HW2.out.free ((p + k) * 4)
        rw [show (p + k) * 4 = o + k * 4 by rw [HO.out]; omega] at x0 f0
        clear hck
        go_wp2_with fail
        go_roundw
        case rel =>
          refine ⟨k + 1, by omega, (Below.heap_setCell _ _ _ _ (by dsimp only; omega)).trans hit2.out, by omega, by omega, ?_, grown_set (grown_iter HGr.out (by omega)) _ _⟩
          have := Wb.putU1 HW2.out (by omega)
          rw [show (p + k) * 4 = o + k * 4 by rw [HO.out]; omega] at this
          exact this
        case measure =>
          have h1 : itPos _ w1.heap.size = k + 1 := itPos_of ((Below.heap_setCell (wr.iterAt w1.heap.size (bs L) (k + 1)) ⟨g, o + k * 4, none⟩ (.int .i64 (chrN L k)) w1.heap.size (by dsimp only; omega)).trans hit2.out)
          rw [hpos, h1]
          omega
      · skip
        go_upto_if 28 with (fail)
        have HWx := Lib.hid HW2.out
        have HGx := Lib.hid (grown_iter (s := bs L) (pos := k + 1) (k := w1.heap.size) HGr.out (by omega))
        have hm : min L.length Cn = k := by omega
        have HE := Lib.hid hm
        clear hm hnx
        cases mark
        · go_wp2_with fail
          first | go_end0 | ((try simp only [Exit.inBlock, Exit.then]); refine bodyPost_ret (results_none rfl _ _ _) rfl ?_)
          refine ⟨rfl, ?_, HGx.out⟩
          unfold listC
          rw [if_neg (by simp), HE.out]
          exact HWx.out
        · go_wp2_with fail
          go_loopw [31] (fun i wq => ∃ j : Nat, i = .int .i64 j ∧ j ≤ Cn ∧ Wb wq g (putV 4 p j (putU (chrN L) p k cs)) ∧ w.grownBy wq (some g)) (fun i _ => Cn - (intOf i).toNat)
          case atStart => exact ⟨0, rfl, by omega, HWx.out, HGx.out⟩
          case round =>
            obtain ⟨j, rfl, hj, hWq, hgq⟩ := hrel
            have HWq := Lib.hid hWq
            have HGq := Lib.hid hgq
            clear hWq hgq
            by_cases hjl : j < Cn
            · have x1 := (HWq.out.cells (p + j) (by rw [putV_len, putU_len]; omega)).2.1
              have f1 := HWq.out.free ((p + j) * 4 + 1)
              rw [show (p + j) * 4 + 1 = o + j * 4 + 1 by rw [HO.out]; omega] at x1 f1
              go_wp2_with fail
              go_roundw
              case rel =>
                refine ⟨j + 1, by go_num, by omega, ?_, grown_set HGq.out _ _⟩
                have := Wb.putV1 HWq.out (by rw [putU_len]; omega)
                rw [show (p + j) * 4 + 1 = o + j * 4 + 1 by rw [HO.out]; omega] at this
                exact this
              case measure => simp [intOf]; omega
            · obtain rfl : j = Cn := by omega
              go_wp2_with fail
              first | go_end0 | ((try simp only [Exit.inBlock, Exit.then]); refine bodyPost_ret (results_none rfl _ _ _) rfl ?_)
              refine ⟨rfl, ?_, HGq.out⟩
              unfold listC
              rw [if_pos rfl, HE.out]
              exact HWq.out
    · obtain rfl : k = L.length := by omega
      have hnx := fun ty => Lib.run_next_end_at (P := Tryd.prog) wr w1.heap.size (bs L) L.length ty hit (by rw [hbs]; omega)
      clear hit
      go_upto_if 28 with (fail)
      have HWx := Lib.hid HWr.out
      have HGx := Lib.hid HGr.out
      have hm : min L.length Cn = L.length := by omega
      have HE := Lib.hid hm
      clear hm hnx
      cases mark
      · go_wp2_with fail
        first | go_end0 | ((try simp only [Exit.inBlock, Exit.then]); refine bodyPost_ret (results_none rfl _ _ _) rfl ?_)
        refine ⟨rfl, ?_, HGx.out⟩
        unfold listC
        rw [if_neg (by simp), HE.out]
        exact HWx.out
      · go_wp2_with fail
        go_loopw [31] (fun i wq => ∃ j : Nat, i = .int .i64 j ∧ j ≤ Cn ∧ Wb wq g (putV 4 p j (putU (chrN L) p L.length cs)) ∧ w.grownBy wq (some g)) (fun i _ => Cn - (intOf i).toNat)
        case atStart => exact ⟨0, rfl, by omega, HWx.out, HGx.out⟩
        case round =>
          obtain ⟨j, rfl, hj, hWq, hgq⟩ := hrel
          have HWq := Lib.hid hWq
          have HGq := Lib.hid hgq
          clear hWq hgq
          by_cases hjl : j < Cn
          · have x1 := (HWq.out.cells (p + j) (by rw [putV_len, putU_len]; omega)).2.1
            have f1 := HWq.out.free ((p + j) * 4 + 1)
            rw [show (p + j) * 4 + 1 = o + j * 4 + 1 by rw [HO.out]; omega] at x1 f1
            go_wp2_with fail
            go_roundw
            case rel =>
              refine ⟨j + 1, by go_num, by omega, ?_, grown_set HGq.out _ _⟩
              have := Wb.putV1 HWq.out (by rw [putU_len]; omega)
              rw [show (p + j) * 4 + 1 = o + j * 4 + 1 by rw [HO.out]; omega] at this
              exact this
            case measure => simp [intOf]; omega
          · obtain rfl : j = Cn := by omega
            go_wp2_with fail
            first | go_end0 | ((try simp only [Exit.inBlock, Exit.then]); refine bodyPost_ret (results_none rfl _ _ _) rfl ?_)
            refine ⟨rfl, ?_, HGq.out⟩
            unfold listC
            rw [if_pos rfl, HE.out]
            exact HWq.out
end Go.Proofs.YtmkpefielfinjaaDoor

/- Grids: the reference's Fill. -/
namespace Go.Proofs.YtmkpefielfinjaaDoor
open Go.RowKit

theorem heap_at {w : World} {g : Nat} {o : Obj} (hg : g = w.heap.size) : (w.alloc o).heap[g]? = some o := by subst hg; exact heap_alloc_new w o
/-- The first m cells of a table of rows of Cn cells. -/
def tabK (Cn m : Nat) (F : Nat → Nat → C4) : List C4 := (List.range m).map fun i => F (i / Cn) (i % Cn)
/-- A whole table. -/
def tab (Rn Cn : Nat) (F : Nat → Nat → C4) : List C4 := tabK Cn (Rn * Cn) F

end Go.Proofs.YtmkpefielfinjaaDoor

/- Grids: rows known whole with what is spare; the reference's Row. -/
namespace Go.Proofs.YtmkpefielfinjaaDoor
open Go.RowKit

/-- Block g is a row: the cells cs, and behind them spare room. -/
def Wc (w : World) (g : Nat) (cs : List C4) (sp : List Value) : Prop := w.heap[g]? = some (.cells (flat cs ++ sp).toArray 64 (0, 0))
theorem Wc.lt {w : World} {g : Nat} {cs : List C4} {sp : List Value} (h : Wc w g cs sp) : g < w.heap.size := lt_of_block h
theorem Wc.up {w w' : World} {g : Nat} {cs : List C4} {sp : List Value} (h : Wc w g cs sp) (hb : Bw w w') : Wc w' g cs sp := (hb.block g h.lt).trans h
theorem Wc.away {w : World} {g h j : Nat} {cs : List C4} {sp : List Value} (hW : Wc w g cs sp) (hne : g ≠ h) (v : Value) : Wc (w.setCell ⟨h, j, none⟩ v) g cs sp := (Below.heap_setCell _ _ _ _ hne).trans hW
theorem Wc.cells {w : World} {g : Nat} {cs : List C4} {sp : List Value} (h : Wc w g cs sp) (k : Nat) (hk : k < cs.length) : Ce w g (k * 4) cs[k] := by
  have key : ∀ j, (hj : j < 4) → w.cell? ⟨g, k * 4 + j, none⟩ = (c4L cs[k])[j]? := fun j hj => by
    rw [← flat_get cs k j hk hj, ← List.getElem?_append_left (l₂ := sp) (by rw [flat_len]; omega)]
    simp [World.cell?, show w.heap[g]? = _ from h]
  exact ⟨key 0 (by omega), key 1 (by omega), key 2 (by omega), key 3 (by omega)⟩
theorem Wc.free {w : World} {g : Nat} {cs : List C4} {sp : List Value} (h : Wc w g cs sp) (i : Nat) : w.frozen? ⟨g, i, none⟩ = false := by
  simp [World.frozen?, show w.heap[g]? = _ from h]
theorem Wc.store {w : World} {g : Nat} {cs : List C4} {sp : List Value} (h : Wc w g cs sp) (k : Nat) (hk : k < cs.length) (c : C4) :
    Wc ((((w.setCell ⟨g, k * 4, none⟩ (.int .i64 c.1)).setCell ⟨g, k * 4 + 1, none⟩ (.int .i64 c.2.1)).setCell ⟨g, k * 4 + 2, none⟩ (.int .i64 c.2.2.1)).setCell ⟨g, k * 4 + 3, none⟩ (.int .i64 c.2.2.2)) g (cs.set k c) sp := by
  unfold Wc
  have e : flat (cs.set k c) ++ sp = ((((flat cs ++ sp).set (k * 4) (.int .i64 c.1)).set (k * 4 + 1) (.int .i64 c.2.1)).set (k * 4 + 2) (.int .i64 c.2.2.1)).set (k * 4 + 3) (.int .i64 c.2.2.2) := by
    rw [← flat_set cs k c hk]
    rw [List.set_append_left _ _ (by rw [flat_len]; omega), List.set_append_left _ _ (by rw [List.length_set, flat_len]; omega), List.set_append_left _ _ (by rw [List.length_set, List.length_set, flat_len]; omega), List.set_append_left _ _ (by rw [List.length_set, List.length_set, List.length_set, flat_len]; omega)]
  rw [e]
  exact block_set (block_set (block_set (block_set h _) _) _) _
theorem Wc.rg {w : World} {g : Nat} {cs : List C4} {sp : List Value} (h : Wc w g cs sp) : Rg w (some ⟨g, 0, none⟩) cs.length cs := ⟨rfl, fun _ => ⟨g, 0, rfl, fun i hi => by rw [Nat.zero_add]; exact h.cells i hi⟩⟩
theorem Wc.of_own {w : World} {base n c : Nat} {A : Option Addr} {cs : List C4} (h : w.ownsRow base 64 4 (.slice A n c) n (flat cs)) (h0 : 0 < n) : ∃ g sp, A = some ⟨g, 0, none⟩ ∧ base ≤ g ∧ Wc w g cs sp := by
  have hl := h.1
  rcases h.2 with ⟨e1, h1⟩ | ⟨g', cap, cur, e1, hb, hh, hnc, hm, hs, htake⟩
  · omega
  · cases e1
    refine ⟨g', cur.toList.drop (n * 4), rfl, hb, ?_⟩
    unfold Wc
    rw [hh, ← htake, List.take_append_drop]
theorem Rg.news {w : World} {ad : Addr} {n : Nat} {cs : List C4} (h : Rg w (some ad) n cs) : ∀ j u, (flat cs)[j]? = some u → w.cell? (ad.add j) = some u := by
  intro j u hj
  have hlt : j < (flat cs).length := by
    rcases Nat.lt_or_ge j (flat cs).length with h | h
    · exact h
    · rw [List.getElem?_eq_none h] at hj; cases hj
  rw [flat_len] at hlt
  obtain ⟨g, o, e, hx⟩ := h.2 (by have := h.1; omega)
  cases e
  have hk : j / 4 < cs.length := by omega
  have hc := hx (j / 4) hk
  have e : j = (j / 4) * 4 + j % 4 := by omega
  have h3 := flat_get cs (j / 4) (j % 4) hk (by omega)
  rw [← e, hj] at h3
  rw [Addr.add_mid]
  have h4 : j % 4 = 0 ∨ j % 4 = 1 ∨ j % 4 = 2 ∨ j % 4 = 3 := by omega
  obtain ⟨c1, c2, c3, c4⟩ := hc
  rcases h4 with h4 | h4 | h4 | h4 <;> rw [h4] at h3
  · rw [show o + j = o + j / 4 * 4 by omega, c1]; exact h3.symm
  · rw [show o + j = o + j / 4 * 4 + 1 by omega, c2]; exact h3.symm
  · rw [show o + j = o + j / 4 * 4 + 2 by omega, c3]; exact h3.symm
  · rw [show o + j = o + j / 4 * 4 + 3 by omega, c4]; exact h3.symm
theorem Rg.sub {w : World} {g o n : Nat} {cs : List C4} (h : Rg w (some ⟨g, o, none⟩) n cs) (p m : Nat) (hp : p + m ≤ n) : Rg w (some ⟨g, o + p * 4, none⟩) m ((cs.drop p).take m) := by
  have hl := h.1
  refine ⟨by simp; omega, fun h0 => ?_⟩
  obtain ⟨g', o', e, hx⟩ := h.2 (by omega)
  cases e
  refine ⟨_, _, rfl, fun i hi => ?_⟩
  have := hx (p + i) (by simp at hi; omega)
  rw [show o + p * 4 + i * 4 = o + (p + i) * 4 by omega]
  simpa using this

/-- The call returns the list of cells cs, in new memory. -/
def RwP (w : World) (cs : List C4) (e : Ending) (w' : World) : Prop :=
  ∃ A n c, e = .returned (.slice A n c) ∧ Rg w' A n cs ∧ n ≤ c ∧ c ≤ 9223372036854775807 ∧ (∀ ad, A = some ad → w.heap.size ≤ ad.block) ∧ Bw w w'
def rowF (R C : Int) (cs : List C4) (row : Int) : List C4 := if 0 ≤ row ∧ row < R ∧ 1 ≤ C ∧ row < (cs.length : Int) / C then (cs.drop (row * C).toNat).take C.toNat else []

set_option maxRecDepth 100000 in
set_option maxHeartbeats 2000000 in
theorem rrow_any (R C : Int) (A : Option Addr) (n c : Nat) (cs : List C4) (row : Int) (w : World) (hr : Rg w A n cs) (hn : n ≤ c) (hn3 : n ≤ 4398046511103) (hc : c ≤ 9223372036854775807) :
    Calls Tryd.prog 39 #[.agg #[.int .i64 R, .int .i64 C, .slice A n c], .int .i64 row] w (RwP w (rowF R C cs row)) := by
  have HR := Lib.hid hr
  clear hr
  obtain ⟨q, hq⟩ : ∃ q, (n : Int) / C = q := ⟨_, rfl⟩
  have hz : row < 0 ∨ (0 ≤ row ∧ R ≤ row) ∨ ((0 ≤ row ∧ row < R) ∧ C < 1) ∨ ((0 ≤ row ∧ row < R) ∧ 1 ≤ C ∧ q ≤ row) ∨ ((0 ≤ row ∧ row < R) ∧ 1 ≤ C ∧ row < q) := by omega
  have hqb : 1 ≤ C → 0 ≤ q ∧ q ≤ n := fun h => by rw [← hq]; exact ⟨Int.ediv_nonneg (by omega) (by omega), Int.ediv_le_self _ (by omega)⟩
  rcases hz with h | ⟨h1, h2⟩ | ⟨⟨h1, h2⟩, h3⟩ | ⟨⟨h1, h2⟩, h3, h4⟩ | ⟨⟨h1, h2⟩, h3, h4⟩
  iterate 4
    · have HE := Lib.hid (show rowF R C cs row = [] from if_neg (by rw [HR.out.1, hq]; omega))
      (try have hqq := hqb h3; obtain ⟨hq0, hq1⟩ := hqq)
      clear hqb
      go_enter Tryd.func39, Tryd.ntmps39
      go_wp2_with fail
      go_ret
      exact ⟨none, 0, 0, rfl, by rw [HE.out]; exact Rg.nil_ _ _, by omega, by omega, (fun ad e => by cases e), BWX⟩
  obtain ⟨hq0, hq1⟩ := hqb h3
  clear hqb
  obtain ⟨Cn, rfl⟩ : ∃ Cn : Nat, C = Cn := ⟨C.toNat, by omega⟩
  have hm : (row + 1) * (Cn : Int) ≤ n := (Int.le_ediv_iff_mul_le (by omega)).1 (by rw [hq]; omega)
  obtain ⟨p, hp⟩ : ∃ p : Nat, row * (Cn : Int) = p := ⟨(row * (Cn : Int)).toNat, by have := Int.mul_nonneg h1 (show (0 : Int) ≤ Cn by omega); omega⟩
  have hp2 : (row + 1) * (Cn : Int) = ((p + Cn : Nat) : Int) := by rw [Int.add_mul, hp]; omega
  have hpn : p + Cn ≤ n := by rw [hp2] at hm; omega
  have HE := Lib.hid (show rowF R (Cn : Int) cs row = (cs.drop p).take Cn by unfold rowF; rw [if_pos (by rw [HR.out.1, hq]; omega), hp]; rfl)
  obtain ⟨j0, hj, hj0, hj1, hj2⟩ := info_parts infoC
  obtain ⟨g, o, rfl, hx⟩ := HR.out.2 (by omega)
  have HS := Lib.hid (HR.out.sub p Cn hpn)
  have hC1 : 1 ≤ Cn := by omega
  have hpc : p < c := by omega
  have hb1 : (0 : Int) ≤ (p : Int) := by omega
  have hb2 : ((p : Nat) : Int) ≤ ((p + Cn : Nat) : Int) := by omega
  have hb3 : ((p + Cn : Nat) : Int) ≤ (c : Int) := by omega
  obtain ⟨p2, hpp⟩ : ∃ p2, p2 = p + Cn := ⟨_, rfl⟩
  rw [← hpp] at hp2 hb2 hb3
  have hpn2 : p2 ≤ n := by omega
  have hpl : p < p2 := by omega
  have hpd : p2 - p = Cn := by omega
  have HPD := Lib.hid hpd
  clear hx hm hpp hpd
  go_enter Tryd.func39, Tryd.ntmps39
  go_wp2_with (first | (at_builtin; refine wpList_append_srcG (by rfl) (.tmp 28) (.tmp 40) 30 rfl (w.heap.size + 1) 64 j0 (.agg #[.int .i64 0, .int .i64 0, .int .i64 0, .int .i64 0]) 4 32 Tryd.underlying30 hj hj0 hj1 hj2 rfl (by decide) _ 0 [] (by rfl) (own_made SZX (Nat.le_refl _)) (some ⟨g, o + p * 4, none⟩) (p2 - p) (c - p) (flat ((cs.drop p).take Cn)) (by rfl) (by rw [flat_len, HS.out.1, HPD.out]) (fun e => by cases e) (fun ad e => by cases e; exact (HS.out.up BWX).news) (flat_one _) (by unfold maxLen; omega) (by omega) SZX ?_; intro v1 w1 hown1 hg1; simp only [Nat.zero_add, List.nil_append] at hown1; obtain ⟨A1, c1, rfl, hc1, hc1m⟩ := own_form hown1; have hbw1 : Bw w w1 := Bw.row (show Bw w _ from BWX) (own_made (size := 4) SZX (Nat.le_refl _)) hg1 (by omega); have HO1 := Lib.hid hown1; clear hown1 hg1) | fail)
  go_ret
  have h9 := HO1.out
  rw [HPD.out] at h9 hc1
  exact ⟨A1, Cn, c1, by rw [HPD.out]; rfl, by rw [HE.out]; exact Rg.of_own h9, hc1, hc1m, (fun ad e => by have := own_new h9 ad e; omega), hbw1⟩
end Go.Proofs.YtmkpefielfinjaaDoor
