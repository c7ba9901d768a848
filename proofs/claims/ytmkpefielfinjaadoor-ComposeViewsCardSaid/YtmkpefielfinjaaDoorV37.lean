/- Parts of the proof, one after the other. -/
import Derived.Test.YtmkpefielfinjaaDoorV36
import Derived.Test.YtmkpefielfinjaaDoorV32
import Derived.Test.YtmkpefielfinjaaDoorV31
import Derived.Deep.RegionHeld3
set_option linter.unusedSimpArgs false
set_option linter.unusedVariables false
/- Compose: the reference's write. -/
namespace Go.Proofs.YtmkpefielfinjaaDoor
open Go.RowKit Go.PlainAid

/-- A line's cell of column c. -/
def lnF (L : List UInt8) (inv : Bool) (c : Nat) : C4 := (if c < L.length then chrN L c else 32, if inv = true then 4 else 0, 0, 0)
theorem lnF_ok (L : List UInt8) (hL : ∀ k, k < L.length → 32 ≤ chrN L k ∧ chrN L k ≤ 126) (inv : Bool) (c : Nat) : cellB (lnF L inv c) = true := by
 have hb : 32 ≤ (if c < L.length then chrN L c else 32) ∧ (if c < L.length then chrN L c else 32) ≤ 126 := by
  split
  ·rename_i h
   exact hL c h
  ·omega
 unfold lnF
 cases inv
 ·exact (cell_ok _ hb).2
 ·exact (cell_ok _ hb).1

set_option maxRecDepth 100000 in
set_option maxHeartbeats 2000000 in
theorem rwrite_any (Rn Cn : Nat) (A : Option Addr) (n c : Nat) (cs : List C4) (F : Nat → Nat → C4) (row : Int) (L : List UInt8) (inv : Bool) (w : World) (hG : Gs Rn Cn cs F) (hr : Rg w A n cs) (hn : n ≤ c) (hc : c ≤ 9223372036854775807) (hL : ∀ k, k < L.length → 32 ≤ chrN L k ∧ chrN L k ≤ 126) (hLl : L.length ≤ 200000000000000) :
  Calls Tryd.prog 37 #[.agg #[.int .i64 (Rn : Int), .int .i64 (Cn : Int), .slice A n c], .int .i64 row, .string (bs L), .bool inv] w fun e w' => ∃ A' n' c' cs', e = .returned (.agg #[.int .i64 (Rn : Int), .int .i64 (Cn : Int), .slice A' n' c']) ∧ Rg w' A' n' cs' ∧ n' ≤ c' ∧ c' ≤ 9223372036854775807 ∧ Gs Rn Cn cs' (fun r k => if (r : Int) = row then lnF L inv k else F r k) ∧ (∀ ad, A' = some ad → w.heap.size ≤ ad.block) ∧ Bw w w' := by
 have hbd := hG.bd
 obtain ⟨p1, p2, p3, p4⟩ := hbd
 have HG := Lib.hid hG
 have HR := Lib.hid hr
 have HL := Lib.hid hL
 have hbs : ∀ X : List UInt8, (bs X).size = X.length := fun _ => rfl
 clear hG hr hL
 go_enter Tryd.func37, Tryd.ntmps37
 go_upto_region 1 with (fail)
 generalize hw0 : (w.alloc (.cells #[.int .i64 (Rn : Int), .int .i64 (Cn : Int), .slice A n c] 32)).alloc _ = w0
 obtain ⟨hb0, hb1, hbw0, hz0⟩ := sb2 hw0
 have HB0 := Lib.hid (show Sb w0 w.heap.size (grV (Rn : Int) (Cn : Int) A n c) 32 from hb0)
 have HB1 := Lib.hid (show ∃ old, Sb w0 (w.heap.size + 1) old 32 ∧ old.size = 3 from ⟨_, hb1, rfl⟩)
 clear hw0 hb0 hb1
 go_wp2_with fail
 go_loopw [9] (fun i wr => ∃ (k : Nat) (A' : Option Addr) (n' c' : Nat) (cs' : List C4), i = .int .i64 (k : Int) ∧ k ≤ Cn ∧ Sb wr w.heap.size (grV (Rn : Int) (Cn : Int) A' n' c') 32 ∧ (∃ old, Sb wr (w.heap.size + 1) old 32 ∧ old.size = 3) ∧ Rg wr A' n' cs' ∧ n' ≤ c' ∧ c' ≤ 9223372036854775807 ∧ (∀ ad, A' = some ad → ad.block ≠ w.heap.size ∧ ad.block ≠ w.heap.size + 1 ∧ (1 ≤ k → w.heap.size ≤ ad.block)) ∧ Gs Rn Cn cs' (fun r q => if (r : Int) = row ∧ q < k then lnF L inv q else F r q) ∧ Bw w wr) (fun i _ => Cn - (intOf i).toNat)
 case atStart => exact ⟨0, A, n, c, cs, rfl, by omega, HB0.out, HB1.out, HR.out.up hbw0, hn, hc, (fun ad e => by
   subst e
   rcases Nat.eq_zero_or_pos n with h | h
   ·exfalso
    have h1 := HR.out.1
    have h2 := HG.out.1
    have := Nat.mul_pos p1 p3
    omega
   ·obtain ⟨g, o, e, hx⟩ := HR.out.2 h
    cases e
    have := lt_of_cell (hx 0 (by have h1 := HR.out.1; omega)).1
    dsimp only at this ⊢
    exact ⟨by omega, by omega, fun h => absurd h (by omega)⟩), HG.out.congr (fun r q _ _ => by rw [if_neg (by omega)]), hbw0⟩
 case round =>
  obtain ⟨k, A', n', c', cs', rfl, hk, hS, hO, hrg, hn', hc', hne, hgs, hbr⟩ := hrel
  have HS := Lib.hid hS
  have HO := Lib.hid hO
  have HRG := Lib.hid hrg
  have HNE := Lib.hid hne
  have HGS := Lib.hid hgs
  have HBR := Lib.hid hbr
  have hzs := hS.lt
  have hzo := (Exists.elim hO (fun old h => h.1.lt) : w.heap.size + 1 < wr.heap.size)
  have x0 := hS.cell 0 (v := .int .i64 (Rn : Int)) rfl
  have x1 := hS.cell 1 (v := .int .i64 (Cn : Int)) rfl
  have x2 := hS.cell 2 (v := .slice A' n' c') rfl
  clear hS hO hrg hne hgs hbr
  by_cases hlt : k < Cn
  ·by_cases hkl : k < L.length
   ·have hch := HL.out k hkl
    have hbt := get_bt (bs L)
    have hbc : bt (bs L) k = chrN L k := by rw [← hbt k hkl]; exact chrN_get L k hkl
    have hszk : k < (bs L).size := hkl
    cases inv
    ·skip
     have HE := Lib.hid (show lnF L false k = ((chrN L k), 0, 0, 0) by unfold lnF; rw [if_pos hkl]; rfl)
     have HCV := Lib.hid (show cellB ((chrN L k), 0, 0, 0) = true by rw [← HE.out]; exact lnF_ok L HL.out false k)
     go_wp2_with (first
      | (go_at_call 38; refine (rfill_go Rn Cn A' n' c' cs' row (k : Int) ((k : Int) + 1) (chrN L k) 0 0 0 _ p1 p2 p3 p4 (HRG.out.1.symm.trans HGS.out.1) (HRG.out.up BWX) hn' hc' HGS.out.2.1 HCV.out).mono ?_; rintro ee w1 ⟨A1, n1, c1, rfl, hr1, hn1, hc1, hnw1, hb1⟩; have HB1 := Lib.hid (show Bw wr w1 from Bw.trans (show Bw wr _ from BWX) hb1); have HR1 := Lib.hid hr1; have HN1 := Lib.hid (show ∀ ad, A1 = some ad → wr.heap.size ≤ ad.block from fun ad e => by have := hnw1 ad e; have := (show Bw wr _ from (BWX : Bw wr (wr.alloc (.cells #[.int .i64 32, .int .i64 0, .int .i64 0, .int .i64 0] 64)))).size; first | omega | (simp at *; omega)); clear hr1 hnw1 hb1)
      | ((with_reducible refine wpList_store_gr (Rn : Int) (Cn : Int) A1 n1 c1 w.heap.size (.tmp 4) (.tmp 36) rfl rfl ?_ ?_ ?_ ?_); (focus rfl); (focus rfl); (focus (exact ⟨_, HS.out.up HB1.out, rfl⟩)); intro w2 hS2 hg2; have HS2 := Lib.hid hS2; have HG2 := Lib.hid hg2; clear hS2 hg2)
      | fail)
     go_roundw
     case rel =>
      refine ⟨k + 1, A1, n1, c1, _, by go_num, by omega, HS2.out, Exists.elim HO.out (fun old h => ⟨old, (h.1.up HB1.out).far HG2.out (by intro e; have := Option.some.inj e; omega), h.2⟩), HR1.out.far HG2.out (fun ad e e2 => by have := HN1.out ad e; have := Option.some.inj e2; omega), hn1, hc1, (fun ad e => by have := HN1.out ad e; exact ⟨by omega, by omega, fun _ => by omega⟩), (HGS.out.fillT row (k : Int) ((k : Int) + 1) ((chrN L k), 0, 0, 0) HCV.out).congr (fun r q hr hq => ?_), Bw.grown (Bw.trans HBR.out HB1.out) HG2.out (fun j hj => by cases hj; omega)⟩
      by_cases h1 : (r : Int) = row
      ·by_cases h2 : q = k
       ·subst h2
        rw [if_pos (by omega), if_pos (by omega), HE.out]
       ·by_cases h3 : q < k
        ·rw [if_neg (by omega), if_pos (by omega), if_pos (by omega)]
        ·rw [if_neg (by omega), if_neg (by omega), if_neg (by omega)]
      ·rw [if_neg (by omega), if_neg (by omega), if_neg (by omega)]
     case measure => simp [intOf]; omega
    ·skip
     have HE := Lib.hid (show lnF L true k = ((chrN L k), 4, 0, 0) by unfold lnF; rw [if_pos hkl]; rfl)
     have HCV := Lib.hid (show cellB ((chrN L k), 4, 0, 0) = true by rw [← HE.out]; exact lnF_ok L HL.out true k)
     go_wp2_with (first
      | (go_at_call 38; refine (rfill_go Rn Cn A' n' c' cs' row (k : Int) ((k : Int) + 1) (chrN L k) 4 0 0 _ p1 p2 p3 p4 (HRG.out.1.symm.trans HGS.out.1) (HRG.out.up BWX) hn' hc' HGS.out.2.1 HCV.out).mono ?_; rintro ee w1 ⟨A1, n1, c1, rfl, hr1, hn1, hc1, hnw1, hb1⟩; have HB1 := Lib.hid (show Bw wr w1 from Bw.trans (show Bw wr _ from BWX) hb1); have HR1 := Lib.hid hr1; have HN1 := Lib.hid (show ∀ ad, A1 = some ad → wr.heap.size ≤ ad.block from fun ad e => by have := hnw1 ad e; have := (show Bw wr _ from (BWX : Bw wr (wr.alloc (.cells #[.int .i64 32, .int .i64 0, .int .i64 0, .int .i64 0] 64)))).size; first | omega | (simp at *; omega)); clear hr1 hnw1 hb1)
      | ((with_reducible refine wpList_store_gr (Rn : Int) (Cn : Int) A1 n1 c1 w.heap.size (.tmp 4) (.tmp 36) rfl rfl ?_ ?_ ?_ ?_); (focus rfl); (focus rfl); (focus (exact ⟨_, HS.out.up HB1.out, rfl⟩)); intro w2 hS2 hg2; have HS2 := Lib.hid hS2; have HG2 := Lib.hid hg2; clear hS2 hg2)
      | fail)
     go_roundw
     case rel =>
      refine ⟨k + 1, A1, n1, c1, _, by go_num, by omega, HS2.out, Exists.elim HO.out (fun old h => ⟨old, (h.1.up HB1.out).far HG2.out (by intro e; have := Option.some.inj e; omega), h.2⟩), HR1.out.far HG2.out (fun ad e e2 => by have := HN1.out ad e; have := Option.some.inj e2; omega), hn1, hc1, (fun ad e => by have := HN1.out ad e; exact ⟨by omega, by omega, fun _ => by omega⟩), (HGS.out.fillT row (k : Int) ((k : Int) + 1) ((chrN L k), 4, 0, 0) HCV.out).congr (fun r q hr hq => ?_), Bw.grown (Bw.trans HBR.out HB1.out) HG2.out (fun j hj => by cases hj; omega)⟩
      by_cases h1 : (r : Int) = row
      ·by_cases h2 : q = k
       ·subst h2
        rw [if_pos (by omega), if_pos (by omega), HE.out]
       ·by_cases h3 : q < k
        ·rw [if_neg (by omega), if_pos (by omega), if_pos (by omega)]
        ·rw [if_neg (by omega), if_neg (by omega), if_neg (by omega)]
      ·rw [if_neg (by omega), if_neg (by omega), if_neg (by omega)]
     case measure => simp [intOf]; omega
   ·have hkl2 : ¬ (k : Int) < (L.length : Int) := by omega
    cases inv
    ·skip
     have HE := Lib.hid (show lnF L false k = (32, 0, 0, 0) by unfold lnF; rw [if_neg hkl]; rfl)
     have HCV := Lib.hid (show cellB (32, 0, 0, 0) = true by rw [← HE.out]; exact lnF_ok L HL.out false k)
     go_wp2_with (first
      | (go_at_call 38; refine (rfill_go Rn Cn A' n' c' cs' row (k : Int) ((k : Int) + 1) 32 0 0 0 _ p1 p2 p3 p4 (HRG.out.1.symm.trans HGS.out.1) (HRG.out.up BWX) hn' hc' HGS.out.2.1 HCV.out).mono ?_; rintro ee w1 ⟨A1, n1, c1, rfl, hr1, hn1, hc1, hnw1, hb1⟩; have HB1 := Lib.hid (show Bw wr w1 from Bw.trans (show Bw wr _ from BWX) hb1); have HR1 := Lib.hid hr1; have HN1 := Lib.hid (show ∀ ad, A1 = some ad → wr.heap.size ≤ ad.block from fun ad e => by have := hnw1 ad e; have := (show Bw wr _ from (BWX : Bw wr (wr.alloc (.cells #[.int .i64 32, .int .i64 0, .int .i64 0, .int .i64 0] 64)))).size; first | omega | (simp at *; omega)); clear hr1 hnw1 hb1)
      | ((with_reducible refine wpList_store_gr (Rn : Int) (Cn : Int) A1 n1 c1 w.heap.size (.tmp 4) (.tmp 36) rfl rfl ?_ ?_ ?_ ?_); (focus rfl); (focus rfl); (focus (exact ⟨_, HS.out.up HB1.out, rfl⟩)); intro w2 hS2 hg2; have HS2 := Lib.hid hS2; have HG2 := Lib.hid hg2; clear hS2 hg2)
      | fail)
     go_roundw
     case rel =>
      refine ⟨k + 1, A1, n1, c1, _, by go_num, by omega, HS2.out, Exists.elim HO.out (fun old h => ⟨old, (h.1.up HB1.out).far HG2.out (by intro e; have := Option.some.inj e; omega), h.2⟩), HR1.out.far HG2.out (fun ad e e2 => by have := HN1.out ad e; have := Option.some.inj e2; omega), hn1, hc1, (fun ad e => by have := HN1.out ad e; exact ⟨by omega, by omega, fun _ => by omega⟩), (HGS.out.fillT row (k : Int) ((k : Int) + 1) (32, 0, 0, 0) HCV.out).congr (fun r q hr hq => ?_), Bw.grown (Bw.trans HBR.out HB1.out) HG2.out (fun j hj => by cases hj; omega)⟩
      by_cases h1 : (r : Int) = row
      ·by_cases h2 : q = k
       ·subst h2
        rw [if_pos (by omega), if_pos (by omega), HE.out]
       ·by_cases h3 : q < k
        ·rw [if_neg (by omega), if_pos (by omega), if_pos (by omega)]
        ·rw [if_neg (by omega), if_neg (by omega), if_neg (by omega)]
      ·rw [if_neg (by omega), if_neg (by omega), if_neg (by omega)]
     case measure => simp [intOf]; omega
    ·skip
     have HE := Lib.hid (show lnF L true k = (32, 4, 0, 0) by unfold lnF; rw [if_neg hkl]; rfl)
     have HCV := Lib.hid (show cellB (32, 4, 0, 0) = true by rw [← HE.out]; exact lnF_ok L HL.out true k)
     go_wp2_with (first
      | (go_at_call 38; refine (rfill_go Rn Cn A' n' c' cs' row (k : Int) ((k : Int) + 1) 32 4 0 0 _ p1 p2 p3 p4 (HRG.out.1.symm.trans HGS.out.1) (HRG.out.up BWX) hn' hc' HGS.out.2.1 HCV.out).mono ?_; rintro ee w1 ⟨A1, n1, c1, rfl, hr1, hn1, hc1, hnw1, hb1⟩; have HB1 := Lib.hid (show Bw wr w1 from Bw.trans (show Bw wr _ from BWX) hb1); have HR1 := Lib.hid hr1; have HN1 := Lib.hid (show ∀ ad, A1 = some ad → wr.heap.size ≤ ad.block from fun ad e => by have := hnw1 ad e; have := (show Bw wr _ from (BWX : Bw wr (wr.alloc (.cells #[.int .i64 32, .int .i64 0, .int .i64 0, .int .i64 0] 64)))).size; first | omega | (simp at *; omega)); clear hr1 hnw1 hb1)
      | ((with_reducible refine wpList_store_gr (Rn : Int) (Cn : Int) A1 n1 c1 w.heap.size (.tmp 4) (.tmp 36) rfl rfl ?_ ?_ ?_ ?_); (focus rfl); (focus rfl); (focus (exact ⟨_, HS.out.up HB1.out, rfl⟩)); intro w2 hS2 hg2; have HS2 := Lib.hid hS2; have HG2 := Lib.hid hg2; clear hS2 hg2)
      | fail)
     go_roundw
     case rel =>
      refine ⟨k + 1, A1, n1, c1, _, by go_num, by omega, HS2.out, Exists.elim HO.out (fun old h => ⟨old, (h.1.up HB1.out).far HG2.out (by intro e; have := Option.some.inj e; omega), h.2⟩), HR1.out.far HG2.out (fun ad e e2 => by have := HN1.out ad e; have := Option.some.inj e2; omega), hn1, hc1, (fun ad e => by have := HN1.out ad e; exact ⟨by omega, by omega, fun _ => by omega⟩), (HGS.out.fillT row (k : Int) ((k : Int) + 1) (32, 4, 0, 0) HCV.out).congr (fun r q hr hq => ?_), Bw.grown (Bw.trans HBR.out HB1.out) HG2.out (fun j hj => by cases hj; omega)⟩
      by_cases h1 : (r : Int) = row
      ·by_cases h2 : q = k
       ·subst h2
        rw [if_pos (by omega), if_pos (by omega), HE.out]
       ·by_cases h3 : q < k
        ·rw [if_neg (by omega), if_pos (by omega), if_pos (by omega)]
        ·rw [if_neg (by omega), if_neg (by omega), if_neg (by omega)]
      ·rw [if_neg (by omega), if_neg (by omega), if_neg (by omega)]
     case measure => simp [intOf]; omega
  ·obtain rfl : k = Cn := by omega
   have hkk : ¬ (k : Int) < (k : Int) := by omega
   go_wp2_with (first
    | ((with_reducible refine wpList_store_gr (Rn : Int) (k : Int) A' n' c' (w.heap.size + 1) (.tmp 8) (.tmp 37) rfl rfl ?_ ?_ ?_ ?_); (focus rfl); (focus rfl); (focus (exact HO.out)); intro w2 hS2 hg2; have HS2 := Lib.hid hS2; have HG2 := Lib.hid hg2; clear hS2 hg2)
    | fail)
   refine bodyPost_ret (results_gr rfl _ _ (w.heap.size + 1) (Rn : Int) (k : Int) A' n' c' (by rfl) HS2.out) rfl ?_
   exact ⟨A', n', c', rfl, cs', HRG.out.far HG2.out (fun ad e e2 => by have := (HNE.out ad e).2.1; have := Option.some.inj e2; omega), hn', hc', HGS.out.congr (fun r q hr hq => by
    by_cases h1 : (r : Int) = row
    ·rw [if_pos (by omega), if_pos h1]
    ·rw [if_neg (by omega), if_neg h1]), (fun ad e => (HNE.out ad e).2.2 (by omega)), Bw.grown HBR.out HG2.out (fun j hj => by cases hj; omega)⟩
end Go.Proofs.YtmkpefielfinjaaDoor

/- Compose: the reference's line of a job. -/
namespace Go.Proofs.YtmkpefielfinjaaDoor
open Go.RowKit Go.PlainAid

theorem bs_word (b : ByteArray) : b = bs b.data.toList := by
 unfold bs
 apply ByteArray.ext
 simp
theorem ownz_rd {w : World} {B : Nat} {A : Option Addr} {n c m : Nat} {l : List UInt8} {xs : List Value} (h : OwnZ w B (.slice A n c) m xs) (hx : xs = Lib.byteCells l) : Rd (.int .u8) w A n (l.map fun b => (b.toNat : Int)) := by
 subst hx
 rcases h with h | ⟨g, e, hl, _, hn, hc⟩
 ·refine own_rd (e := 5) (f := .int .u8) (base := B) (m := m) (c := c) ?_
  rw [List.map_map]
  exact h
 ·cases e
  refine ⟨by simpa [Lib.byteCells] using hl, fun h0 => ⟨g, 0, rfl, fun i hi => ?_⟩⟩
  simp only [List.length_map] at hi
  have := hc i (.int .u8 (l[i].toNat)) (by simp [Lib.byteCells, hi])
  by_cases h0 : i = 0
  ·subst h0; simpa [Addr.add] using this
  ·simpa [Addr.add, h0] using this
theorem lineL_run (s : ByteArray) (p inc runs : Int) (mark : Bool) : lineL s p inc runs mark = headL mark ++ nameL s ++ [32] ++ (wordB p).data.toList ++ [32, 35] ++ Lib.itoa inc ++ runL runs := rfl

set_option maxRecDepth 100000 in
set_option maxHeartbeats 2000000 in
theorem rline_any (s : ByteArray) (p inc runs : Int) (mark : Bool) (w : World) (hs : s.size ≤ 140737488351232) (c0 : -9223372036854775808 ≤ inc) (c1 : inc ≤ 9223372036854775807) (r0 : -9223372036854775808 ≤ runs) (r1 : runs ≤ 9223372036854775807) :
  Calls Tryd.prog 12 #[.agg #[.string s, .int .i64 p, .int .i64 inc, .int .i64 runs], .bool mark] w fun e w' => e = .returned (.string (bs (lineL s p inc runs mark))) ∧ Bw w w' := by
 obtain ⟨n, hn⟩ : ∃ n, n = s.size := ⟨_, rfl⟩
 have hb := get_bt s
 have hws := wordB_size p
 have hdi := dec_size inc c0 c1
 have hdr := dec_size runs r0 r1
 go_enter Tryd.func12, Tryd.ntmps12
 go_upto_if 11 with (fail)
 go_cut [5] (fun s5 wc => OwnZ wc (w.heap.size + 1) s5 2 (Lib.byteCells (headL mark)) ∧ Ln w wc s p inc runs)
 case first =>
  cases mark
  all_goals
   go_wp2
   go_meet
   case rel =>
    exact ⟨.inr ⟨_, rfl, rfl, by omega, by omega, cell_two (cell_alloc_here SZX rfl) (cell_alloc_here SZX rfl)⟩, ⟨CELX, CELX, CELX, CELX⟩, BWX⟩
 case rest =>
 obtain ⟨hZ, hL⟩ := hcut
 obtain ⟨A5, c5, rfl, hc5, hc5m⟩ := hZ.form
 have HZ0 := Lib.hid hZ
 have HL0 := Lib.hid hL
 clear hZ hL
 go_wp2_with (fail)
 go_loopw [5, 6] (fun s5 i wr => ∃ k : Nat, i = .int .i64 k ∧ k ≤ n ∧ OwnZ wr (w.heap.size + 1) s5 (k + 2) (Lib.byteCells (headL mark) ++ Lib.byteCells ((nameL s).take k)) ∧ Ln w wr s p inc runs) (fun _ i _ => n - (intOf i).toNat)
 case atStart => exact ⟨0, rfl, by omega, by simpa [Lib.byteCells] using HZ0.out, HL0.out⟩
 case round =>
  obtain ⟨k, rfl, hk, hZ, hL⟩ := hrel
  clear HZ0 HL0
  obtain ⟨A5, c5, rfl, hc5, hc5m⟩ := hZ.form
  obtain ⟨y0, y1, y2, y3⟩ := hL.1
  have lt0 := hL.lt
  have HZ := Lib.hid hZ
  have HL := Lib.hid hL
  clear hZ hL
  by_cases hlt : k < n
  ·have HX := nameL_snoc s k (by omega)
   have b0 := bt_nonneg s k
   have b1 := bt_le s k
   rcases cln_ways (bt s k) with ⟨h1, hc⟩ | ⟨h1, h2, hc⟩ | ⟨h1, h2, hc⟩
   all_goals
    rw [hc] at HX
    clear hc
    have HX := Lib.hid HX
    go_wp2_with (first
     | (at_builtin; refine wpList_append_z (by rfl) (.tmp 31) (.tmp 33) rfl (w.heap.size + 1) _ (k + 2) _ (by rfl) (HZ.out.alloc _) ⟨_, 0, none⟩ 1 _ (by rfl) (cell_alloc_here SZX rfl) rfl (by omega) SZX ?_; intro v1 w1 hown1 hbel1)
     | fail)
    go_roundw
    case rel =>
     refine ⟨k + 1, by go_num, by omega, ?_, (HL.out.step (Below.alloc (Below.refl _ _) lt0 _)).step hbel1⟩
     rw [HX.out, ← List.append_assoc, show k + 1 + 2 = k + 2 + 1 by omega]
     exact .inl hown1
    case measure => simp [intOf]; omega
  ·obtain ⟨X, hX⟩ : ∃ X, X = headL mark ++ nameL s := ⟨_, rfl⟩
   have hrd : Rd (.int .u8) wr A5 (k + 2) (X.map fun b => (b.toNat : Int)) := ownz_rd HZ.out (by
    rw [hX, Lib.byteCells_append, List.take_of_length_le (by rw [nameL_len]; omega)])
   have hXl : X.length = k + 2 := by simpa using hrd.1
   have hs1 : (⟨#[32]⟩ : ByteArray).size = 1 := rfl
   have hs35 : (⟨#[32, 35]⟩ : ByteArray).size = 2 := rfl
   have hs126 : (⟨#[32, 126]⟩ : ByteArray).size = 2 := rfl
   have hsX : (bs X).size = k + 2 := hXl
   have HXX := Lib.hid hX
   have hbr := HL.out.2
   have HY : Hid (∀ w', Bw wr w' → (w'.cell? ⟨w.heap.size, 1, none⟩ = some (.int .i64 p) ∧ w'.cell? ⟨w.heap.size, 2, none⟩ = some (.int .i64 inc)) ∧ (convert 48 9 (.slice A5 (k + 2) c5)).run Tryd.prog w' = .ok (.string (bs X)) w') :=
    Lib.hid (fun w' hb' => ⟨⟨cell_bw hb' y1, cell_bw hb' y2⟩, conv_bytes rfl (hrd.up hb')⟩)
   clear hX hrd
   have f1 : ¬ (9223372036854775807 < k + 2 + 1) := by omega
   have f2 : ¬ (9223372036854775807 < k + 2 + 1 + (wordB p).size) := by omega
   have f3 : ¬ (9223372036854775807 < k + 2 + 1 + (wordB p).size + 2) := by omega
   have f4 : ¬ (9223372036854775807 < k + 2 + 1 + (wordB p).size + 2 + (bs (Lib.itoa inc)).size) := by omega
   go_upto_region 11 with (fail)
   clear y0 y1 y2 y3
   go_cut [8] (fun s8 w' => s8 = .string (bs (X ++ [32] ++ (wordB p).data.toList ++ [32, 35] ++ Lib.itoa inc)) ∧ Bw wr w')
   case first =>
    refine wp_region_held_drew (S := (fun w' => (w'.cell? ⟨w.heap.size, 1, none⟩ = some (.int .i64 p) ∧ w'.cell? ⟨w.heap.size, 2, none⟩ = some (.int .i64 inc)) ∧ (convert 48 9 (.slice A5 (k + 2) c5)).run Tryd.prog w' = .ok (.string (bs X)) w')) (by kernel_rfl) ?_ (fun hHeld => ?_)
    ·(try dsimp only); (first | (exact HY.out _ BWX) | fail)
    refine tkH 0 ?_ rfl (Or.inl ⟨by rfl, ?ht0⟩) ?_
    case ht0 => (intro w hSw; (try dsimp only at hSw); go_simp; try with_reducible rfl)
    (try simp only [Act.put, zP1, zP2, zP3, zP4, zP5, zP6])
    refine tkH 1 ?_ rfl (Or.inl ⟨by rfl, ?ht1⟩) ?_
    case ht1 => (intro w hSw; (try dsimp only at hSw); go_simp; try with_reducible rfl)
    (try simp only [Act.put, zP1, zP2, zP3, zP4, zP5, zP6])
    refine tkH 2 ?_ rfl (Or.inl ⟨by rfl, ?ht2⟩) ?_
    case ht2 => (intro w hSw; (try dsimp only at hSw); go_simp; try with_reducible rfl)
    (try simp only [Act.put, zP1, zP2, zP3, zP4, zP5, zP6])
    refine tkH 3 ?_ rfl (Or.inl ⟨by rfl, ?ht3⟩) ?_
    case ht3 => (intro w hSw; (try dsimp only at hSw); go_simp; try with_reducible rfl)
    (try simp only [Act.put, zP1, zP2, zP3, zP4, zP5, zP6])
    refine tkH 4 ?_ rfl (Or.inl ⟨by rfl, ?ht4⟩) ?_
    case ht4 => (intro w hSw; (try dsimp only at hSw); go_simp; try with_reducible rfl)
    (try simp only [Act.put, zP1, zP2, zP3, zP4, zP5, zP6])
    refine tkH 8 ?_ rfl (Or.inl ⟨by rfl, ?ht8⟩) ?_
    case ht8 => (intro w hSw; (try dsimp only at hSw); go_simp; try with_reducible rfl)
    (try simp only [Act.put, zP1, zP2, zP3, zP4, zP5, zP6])
    refine tkH 9 ?_ rfl (Or.inl ⟨by rfl, ?ht9⟩) ?_
    case ht9 => (intro w hSw; (try dsimp only at hSw); go_simp; try with_reducible rfl)
    (try simp only [Act.put, zP1, zP2, zP3, zP4, zP5, zP6])
    refine wpAnyH_ready (rs := [5]) (by kernel_rfl) (by simp) ?_
    refine AllReadyH.cons rfl (fun K hK => ?_) ?_
    ·go_simp
     refine (rword_any p _).mono ?_; rintro ee v1 ⟨rfl, hv1⟩; go_wp2_with fail
     refine hK.out _ _ ?_ (fun hHeld => ?_)
     ·(try dsimp only); (first | (exact HY.out _ BWX) | fail)
     clear hK K
     (try simp only [Act.put, zP1, zP2, zP3, zP4, zP5, zP6])
     refine tkH 6 ?_ rfl (Or.inl ⟨by rfl, ?ht6⟩) ?_
     case ht6 => (intro w hSw; (try dsimp only at hSw); go_simp; try with_reducible rfl)
     (try simp only [Act.put, zP1, zP2, zP3, zP4, zP5, zP6])
     refine tkH 7 ?_ rfl (Or.inl ⟨by rfl, ?ht7⟩) ?_
     case ht7 => (intro w hSw; (try dsimp only at hSw); go_simp; try with_reducible rfl)
     (try simp only [Act.put, zP1, zP2, zP3, zP4, zP5, zP6])
     refine wpAnyH_ready (rs := [10]) (by kernel_rfl) (by simp) ?_
     refine AllReadyH.cons rfl (fun K hK => ?_) ?_
     ·go_simp
      refine (dec30_any inc _ c0 c1).mono ?_; rintro ee v2 ⟨rfl, hv2⟩; go_wp2_with fail
      refine hK.out _ _ ?_ (fun hHeld => ?_)
      ·(try dsimp only); (first | (exact HY.out _ BWX) | fail)
      clear hK K
      (try simp only [Act.put, zP1, zP2, zP3, zP4, zP5, zP6])
      refine tkH 11 ?_ rfl (Or.inl ⟨by rfl, ?ht11⟩) ?_
      case ht11 => (intro w hSw; (try dsimp only at hSw); go_simp; try with_reducible rfl)
      (try simp only [Act.put, zP1, zP2, zP3, zP4, zP5, zP6])
      refine tkH 12 ?_ rfl (Or.inl ⟨by rfl, ?ht12⟩) ?_
      case ht12 => (intro w hSw; (try dsimp only at hSw); go_simp; try with_reducible rfl)
      (try simp only [Act.put, zP1, zP2, zP3, zP4, zP5, zP6])
      refine wpAnyH_done (by kernel_rfl) ?_ _
      go_wp2_with fail
      go_meet
      case rel =>
       refine ⟨?_, BWX⟩
       rw [bs_word (wordB p)]
       simp only [← bs_add]
       rfl
     exact AllReadyH.nil
    exact AllReadyH.nil
   case rest =>
   obtain ⟨rfl, hbc⟩ := hcut
   have y3 := cell_bw hbc HL.out.1.2.2.2
   have HBC := Lib.hid hbc
   obtain ⟨U, hU⟩ : ∃ U, U = X ++ [32] ++ (wordB p).data.toList ++ [32, 35] ++ Lib.itoa inc := ⟨_, rfl⟩
   have hUl : U.length ≤ 140737488351332 := by
    have h1 : (bs (Lib.itoa inc)).size = (Lib.itoa inc).length := rfl
    have h2 : (wordB p).data.toList.length = (wordB p).size := rfl
    rw [hU]
    simp only [List.length_append, List.length_cons, List.length_nil]
    omega
   have hsU : (bs U).size ≤ 140737488351332 := hUl
   rw [← hU]
   have HU := Lib.hid hU
   clear hU hUl
   by_cases hr : runs = 0
   ·subst hr
    go_wp2_with (fail)
    go_ret
    refine ⟨?_, Bw.trans hbr hbc⟩
    rw [lineL_run, HU.out, HXX.out]
    simp [runL]
   ·go_wp2_with (first
     | (go_at_call 24; refine (dec30_any runs _ r0 r1).mono ?_; rintro ee w5 ⟨rfl, hb5⟩)
     | fail)
    go_ret
    refine ⟨?_, Bw.trans hbr (Bw.trans hbc hb5)⟩
    rw [lineL_run, ← HXX.out, ← HU.out, runL, if_neg hr, ← List.append_assoc, ← bs_add, ← bs_add]
    rfl
end Go.Proofs.YtmkpefielfinjaaDoor

/- Compose: the sanity check. -/
namespace Go.Proofs.YtmkpefielfinjaaDoor
open Go.RowKit

theorem lineL_head (s : ByteArray) (p inc runs : Int) : ∃ t, lineL s p inc runs true = 62 :: t := ⟨_, rfl⟩
theorem line_sane : bs (lineL ⟨#[119, 101, 98]⟩ 4 3 0 true) = ⟨#[62, 32, 119, 101, 98, 32, 114, 101, 97, 100, 121, 32, 35, 51]⟩ := by
 have h1 : Lib.itoa 3 = [51] := dig_small 3 (by omega) (by omega)
 have h2 : (wordB 4).data.toList = [114, 101, 97, 100, 121] := rfl
 have h3 : nameL ⟨#[119, 101, 98]⟩ = [119, 101, 98] := by decide
 unfold lineL
 rw [h1, h2, h3]
 rfl
def sts0 : List St := [(⟨#[97]⟩, 4, 0, 0)]
theorem view0 : viewB 0 0 [] 0 0 = false := by decide
theorem comp_sane0 : (composeC 3 4 sts0 0 (viewB 0 0 [] 0 0) 0 0 []).getD 0 blk = (62, 4, 0, 0) := by
 unfold composeC
 rw [view0, if_neg (by simp), baseC_at 3 4 sts0 0 (by omega) (by omega) 0 (by omega)]
 show baseF 1 sts0 0 0 0 0 = _
 unfold baseF
 rw [if_pos (by omega)]
 unfold jobF
 obtain ⟨t, ht⟩ := lineL_head ⟨#[97]⟩ 4 0 0
 have e : lineS (sts0.getD (0 + 0) st0) (decide (0 + 0 = 0)) = 62 :: t := ht
 rw [e]
 rfl
theorem comp_sane4 : (composeC 3 4 sts0 0 (viewB 0 0 [] 0 0) 0 0 []).getD 4 blk = (45, 0, 0, 0) := by
 unfold composeC
 rw [view0, if_neg (by simp), baseC_at 3 4 sts0 0 (by omega) (by omega) 4 (by omega)]
 rfl
theorem comp_len0 : (composeC 3 4 sts0 0 (viewB 0 0 [] 0 0) 0 0 []).length = 12 := by
 unfold composeC
 rw [view0, if_neg (by simp), baseC_len]

set_option maxRecDepth 100000 in
set_option maxHeartbeats 2000000 in
theorem sane30_any (w : World) (hT : WordT w) (hP : PowT w.heap.size w) : Calls Tryd.prog 7 #[] w fun e w' => e = .returned (.bool true) ∧ Bw w w' := by
 have HT := Lib.hid hT
 have HP := Lib.hid hP
 clear hT hP
 have hcu : ∀ n : Nat, curB 3 4 n (viewB 0 0 [] 0 0) 0 0 false = false := fun n => by rw [view0]; rfl
 have HCU := Lib.hid hcu
 clear hcu
 go_enter Tryd.func7, Tryd.ntmps7
 go_wp2_with (first
  | (go_at_call 18; refine (compose_any 3 4 (some ⟨w.heap.size, 0, none⟩) 1 1 sts0 0 0 0 none 0 0 [] 0 0 false _ ⟨rfl, fun _ => ⟨_, 0, rfl, fun i hi => by obtain rfl : i = 0 := (by have : i < 1 := hi; omega); exact ⟨CELX, CELX, CELX, CELX⟩⟩⟩ (by omega) (by omega) (by intro s hs; simp only [sts0, List.mem_singleton] at hs; subst hs; exact ⟨by decide, by decide, by decide⟩) (Rg.nil_ _ _) (by omega) (by omega) (by omega) (HT.out.up BWX) (PowT.up30 HP.out (show Bw w _ from BWX))).mono ?_; rintro ee w1 ⟨g, Rn, Cn, hRn, hCn, hgz, hb1, hW, rfl⟩; obtain rfl : Rn = 3 := hRn.trans rfl; obtain rfl : Cn = 4 := hCn.trans rfl; rw [HCU.out]; have hl := comp_len0; have q0 := (hW.cells 0 (by omega)).1; have q4 := (hW.cells 4 (by omega)).1; have e0 := comp_sane0; have e4 := comp_sane4; rw [List.getD_eq_getElem?_getD, List.getElem?_eq_getElem (by omega)] at e0 e4; simp only [Option.getD_some] at e0 e4; rw [e0] at q0; rw [e4] at q4; dsimp only at q0 q4; simp only [Nat.zero_mul] at q0; have hgl := hW.lt; have HB1 := Lib.hid (Bw.trans (show Bw w (w.alloc _) from BWX) hb1); clear hW e0 e4 hl hb1 hRn hCn)
  | (go_at_call 11; refine (line_any ⟨#[119, 101, 98]⟩ 4 3 0 true _ (by decide) (by omega) (by omega) (by omega) (by omega) (HT.out.up (Bw.trans HB1.out BWX)) (PowT.up30 HP.out (Bw.trans HB1.out BWX))).mono ?_; rintro ee w2 ⟨rfl, hb2⟩; rw [line_sane]; have x2 := cell_bw hb2 (cell_alloc_here (w := w1) (g := w1.heap.size) (i := 2) (v := .slice (some ⟨g, 0, none⟩) 12 12) rfl rfl); have x5 := cell_bw hb2 (cell_alloc_here (w := w1) (g := w1.heap.size) (i := 5) (v := .bool true) rfl rfl); have p0 := cell_bw hb2 (cell_alloc_some q0 _); have p4 : w2.cell? ⟨g, 16, none⟩ = some (.int .i64 45) := cell_bw hb2 (cell_alloc_some q4 _))
  | fail)
 go_ret
 exact ⟨rfl, Bw.trans HB1.out (Bw.trans (show Bw w1 (w1.alloc _) from BWX) hb2)⟩
end Go.Proofs.YtmkpefielfinjaaDoor

/- Compose: the cells of a view with a pane. -/
namespace Go.Proofs.YtmkpefielfinjaaDoor
open Go.RowKit

/-- The cells when the pane is valid. -/
def compV (Rn Cn : Nat) (sts : List St) (shown : Int) (pR pC : Nat) (ps : List C4) : List C4 :=
 paneC Cn (kkN sts.length Rn) pC ps (min (Rn - kkN sts.length Rn - 1) pR) (baseC Rn Cn sts shown)
theorem compV_len (Rn Cn : Nat) (sts : List St) (shown : Int) (pR pC : Nat) (ps : List C4) (hR : 1 ≤ Rn) (hp : ps.length = pR * pC) : (compV Rn Cn sts shown pR pC ps).length = Rn * Cn := by
 have hk := kk_lt sts.length hR
 unfold compV
 rw [paneC_len Rn Cn _ pR pC ps _ (baseC_len Rn Cn sts shown) hp _ (by omega) (by omega), baseC_len]
theorem compV_at (Rn Cn : Nat) (sts : List St) (shown : Int) (pR pC : Nat) (ps : List C4) (hR : 1 ≤ Rn) (hC : 1 ≤ Cn) (hp : ps.length = pR * pC) (r c : Nat) (hr : r < Rn) (hc : c < Cn) :
  (compV Rn Cn sts shown pR pC ps).getD (r * Cn + c) blk = if kkN sts.length Rn + 1 ≤ r ∧ r < kkN sts.length Rn + 1 + min (Rn - kkN sts.length Rn - 1) pR ∧ c < min pC Cn then ps.getD ((r - (kkN sts.length Rn + 1)) * pC + c) blk
   else baseF (kkN sts.length Rn) sts (firstN (kkN sts.length Rn) (shN sts.length shown)) (shN sts.length shown) r c := by
 have hk := kk_lt sts.length hR
 have q := Nat.mul_le_mul_right Cn (show r + 1 ≤ Rn by omega)
 rw [Nat.add_mul, Nat.one_mul] at q
 have d1 : (r * Cn + c) / Cn = r := by rw [Nat.mul_comm, Nat.mul_add_div (by omega), Nat.div_eq_of_lt hc, Nat.add_zero]
 have d2 : (r * Cn + c) % Cn = c := by rw [Nat.mul_comm, Nat.mul_add_mod, Nat.mod_eq_of_lt hc]
 unfold compV
 rw [paneC_at Rn Cn _ pR pC ps _ (by omega) (baseC_len Rn Cn sts shown) hp _ (by omega) (by omega) (r * Cn + c) (by omega), d1, d2, baseC_at Rn Cn sts shown (by omega) (by omega) (r * Cn + c) (by omega), d1, d2]
theorem compV_grid (Rn Cn : Nat) (sts : List St) (shown : Int) (pR pC : Nat) (ps : List C4) (h1 : 1 ≤ Rn) (h2 : Rn ≤ 30) (h3 : 1 ≤ Cn) (h4 : Cn ≤ 100) (hp : ps.length = pR * pC) (hv : ps.all cellB = true) : gridB (Rn : Int) (Cn : Int) (compV Rn Cn sts shown pR pC ps) = true := by
 have hl := compV_len Rn Cn sts shown pR pC ps h1 hp
 unfold gridB
 rw [Bool.and_eq_true]
 refine ⟨decide_eq_true ⟨by omega, by omega, by omega, by omega, by rw [hl]; exact Int.natCast_mul _ _⟩, ?_⟩
 rw [List.all_eq_true]
 intro x hx
 obtain ⟨i, hi, rfl⟩ := List.getElem_of_mem hx
 have hi2 : i < Rn * Cn := by rw [← hl]; exact hi
 have hdm := Nat.div_add_mod i Cn
 have hmm := Nat.mod_lt i (show 0 < Cn by omega)
 have hdl : i / Cn < Rn := (Nat.div_lt_iff_lt_mul (by omega)).mpr hi2
 have e := compV_at Rn Cn sts shown pR pC ps h1 h3 hp (i / Cn) (i % Cn) hdl hmm
 rw [Nat.mul_comm, hdm, List.getD_eq_getElem?_getD, List.getElem?_eq_getElem hi] at e
 simp only [Option.getD_some] at e
 rw [e]
 split
 ·rename_i h
  rw [List.all_eq_true] at hv
  have hlt : (i / Cn - (kkN sts.length Rn + 1)) * pC + i % Cn < ps.length := by
   have q := Nat.mul_le_mul_right pC (show i / Cn - (kkN sts.length Rn + 1) + 1 ≤ pR by omega)
   rw [Nat.add_mul, Nat.one_mul] at q
   rw [hp]
   omega
  rw [List.getD_eq_getElem?_getD, List.getElem?_eq_getElem hlt]
  exact hv _ (List.getElem_mem hlt)
 ·exact (baseF_ok _ _ _ _ _ _).1
end Go.Proofs.YtmkpefielfinjaaDoor
