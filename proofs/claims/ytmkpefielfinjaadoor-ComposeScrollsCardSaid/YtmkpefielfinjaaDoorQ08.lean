/- Parts of the proof, one after the other. -/
import Derived.Test.YtmkpefielfinjaaDoorQ07
set_option linter.unusedSimpArgs false
set_option linter.unusedVariables false
/- Grids: blocks of cells known whole; the program's new grid. -/
namespace Go.Proofs.YtmkpefielfinjaaDoor
open Go.RowKit

/-- Block g is a row of cells, known whole. -/
def Wb (w : World) (g : Nat) (cs : List C4) : Prop := w.heap[g]? = some (.cells (flat cs).toArray 64 (0, 0))
theorem Wb.lt {w : World} {g : Nat} {cs : List C4} (h : Wb w g cs) : g < w.heap.size := lt_of_block h
theorem Wb.up {w w' : World} {g : Nat} {cs : List C4} (h : Wb w g cs) (hb : Bw w w') : Wb w' g cs := (hb.block g h.lt).trans h
theorem Wb.away {w : World} {g h j : Nat} {cs : List C4} (hW : Wb w g cs) (hne : g ≠ h) (v : Value) : Wb (w.setCell ⟨h, j, none⟩ v) g cs := (Below.heap_setCell _ _ _ _ hne).trans hW
theorem block_set {w : World} {g i : Nat} {l : List Value} {t : TypeId} (h : w.heap[g]? = some (.cells l.toArray t (0, 0))) (u : Value) : (w.setCell ⟨g, i, none⟩ u).heap[g]? = some (.cells (l.set i u).toArray t (0, 0)) := by
  have hlt := lt_of_block h
  have h' : w.heap[g] = .cells l.toArray t (0, 0) := by simpa [Array.getElem?_eq_getElem hlt] using h
  show (w.heap.modify g _)[g]? = _
  rw [Array.getElem?_eq_getElem (by simpa using hlt), Array.getElem_modify_self, h']
  simp
theorem flat_set : ∀ (cs : List C4) (k : Nat) (c : C4), k < cs.length → ((((flat cs).set (k * 4) (.int .i64 c.1)).set (k * 4 + 1) (.int .i64 c.2.1)).set (k * 4 + 2) (.int .i64 c.2.2.1)).set (k * 4 + 3) (.int .i64 c.2.2.2) = flat (cs.set k c)
  | [], k, c, h => by simp at h
  | x :: xs, 0, c, h => by rw [flat_cons]; rfl
  | x :: xs, k + 1, c, h => by
    rw [flat_cons, List.set_cons_succ, flat_cons, ← flat_set xs k c (by simpa using h)]
    have e : ∀ j, (k + 1) * 4 + j = 4 + (k * 4 + j) := fun j => by omega
    have e0 : (k + 1) * 4 = 4 + k * 4 := by omega
    rw [e 1, e 2, e 3, e0]
    obtain ⟨x1, x2, x3, x4⟩ := x
    simp [c4L, Nat.add_comm 4]
theorem Wb.cells {w : World} {g : Nat} {cs : List C4} (h : Wb w g cs) (k : Nat) (hk : k < cs.length) : Ce w g (k * 4) cs[k] := by
  have key : ∀ j, (hj : j < 4) → w.cell? ⟨g, k * 4 + j, none⟩ = (c4L cs[k])[j]? := fun j hj => by
    rw [← flat_get cs k j hk hj]
    simp [World.cell?, show w.heap[g]? = _ from h]
  exact ⟨key 0 (by omega), key 1 (by omega), key 2 (by omega), key 3 (by omega)⟩
theorem Wb.free {w : World} {g : Nat} {cs : List C4} (h : Wb w g cs) (i : Nat) : w.frozen? ⟨g, i, none⟩ = false := by
  simp [World.frozen?, show w.heap[g]? = _ from h]
theorem Wb.store {w : World} {g : Nat} {cs : List C4} (h : Wb w g cs) (k : Nat) (hk : k < cs.length) (c : C4) :
    Wb ((((w.setCell ⟨g, k * 4, none⟩ (.int .i64 c.1)).setCell ⟨g, k * 4 + 1, none⟩ (.int .i64 c.2.1)).setCell ⟨g, k * 4 + 2, none⟩ (.int .i64 c.2.2.1)).setCell ⟨g, k * 4 + 3, none⟩ (.int .i64 c.2.2.2)) g (cs.set k c) := by
  unfold Wb
  rw [← flat_set cs k c hk]
  exact block_set (block_set (block_set (block_set h _) _) _) _
theorem Wb.rg {w : World} {g : Nat} {cs : List C4} (h : Wb w g cs) : Rg w (some ⟨g, 0, none⟩) cs.length cs := ⟨rfl, fun _ => ⟨g, 0, rfl, fun i hi => by rw [Nat.zero_add]; exact h.cells i hi⟩⟩
def zc : C4 := (0, 0, 0, 0)
theorem made_flat : ∀ n : Nat, (madeCells #[.int .i64 0, .int .i64 0, .int .i64 0, .int .i64 0] (n * 4)).toList = flat (List.replicate n zc) := by
  intro n
  apply List.ext_getElem
  · rw [flat_len]; simp [madeCells]
  · intro i h1 h2
    have hi : i < n * 4 := by simpa [madeCells] using h1
    have e : i = (i / 4) * 4 + i % 4 := by omega
    have hk : i / 4 < (List.replicate n zc).length := by simp; omega
    have h3 := flat_get (List.replicate n zc) (i / 4) (i % 4) hk (by omega)
    rw [← e, List.getElem?_eq_getElem h2] at h3
    have h4 : (List.replicate n zc)[i / 4] = zc := by simp
    rw [h4] at h3
    have h5 : (c4L zc)[i % 4]? = some (.int .i64 0) := by
      have : i % 4 = 0 ∨ i % 4 = 1 ∨ i % 4 = 2 ∨ i % 4 = 3 := by omega
      rcases this with h | h | h | h <;> rw [h] <;> rfl
    rw [h5] at h3
    rw [Option.some.inj h3]
    have : i % 4 = 0 ∨ i % 4 = 1 ∨ i % 4 = 2 ∨ i % 4 = 3 := by omega
    rcases this with h | h | h | h <;> simp [madeCells, h]
theorem Wb.of_own {w : World} {base g n : Nat} {cs : List C4} (h : w.ownsRow base 64 4 (.slice (some ⟨g, 0, none⟩) n n) n (flat cs)) : Wb w g cs := by
  have hl := h.1
  rcases h.2 with ⟨e1, h0⟩ | ⟨g', cap, cur, e1, _, hh, hnc, hm, hs, htake⟩
  · cases e1
  · cases e1
    rw [List.take_of_length_le (by simp [hs])] at htake
    unfold Wb
    rw [hh, ← htake]
theorem Wb.of_made {w : World} {base g g' n : Nat} (h : w.ownsRow base 64 4 (.slice (some ⟨g, 0, none⟩) n n) n (madeCells (Value.agg #[.int .i64 0, .int .i64 0, .int .i64 0, .int .i64 0]).cells (n * 4)).toList) (hg : g = g') : Wb w g' (List.replicate n zc) := by
  subst hg
  rw [show (Value.agg #[.int .i64 0, .int .i64 0, .int .i64 0, .int .i64 0]).cells = #[.int .i64 0, .int .i64 0, .int .i64 0, .int .i64 0] from rfl, made_flat] at h
  exact Wb.of_own h
theorem Wb.own {w : World} {base g n : Nat} {cs : List C4} (h : Wb w g cs) (hn : cs.length = n) (hb : base ≤ g) (hm : n ≤ maxLen) : w.ownsRow base 64 4 (.slice (some ⟨g, 0, none⟩) n n) n (flat cs) := by
  subst hn
  exact ⟨flat_len cs, .inr ⟨g, _, _, rfl, hb, h, Nat.le_refl _, hm, by simp [flat_len], by simp [← flat_len]⟩⟩
theorem rep_set (n k : Nat) (hk : k < n) : (List.replicate k blk ++ List.replicate (n - k) zc).set k blk = List.replicate (k + 1) blk ++ List.replicate (n - (k + 1)) zc := by
  rw [List.set_append_right _ _ (by simp), List.length_replicate, Nat.sub_self, show n - k = (n - (k + 1)) + 1 by omega, List.replicate_succ, List.set_cons_zero, List.replicate_succ', List.append_assoc]
  rfl

end Go.Proofs.YtmkpefielfinjaaDoor

/- Grids: the reference's at. -/
namespace Go.Proofs.YtmkpefielfinjaaDoor
open Go.RowKit

end Go.Proofs.YtmkpefielfinjaaDoor

/- Compose: a new grid known whole; a row of a grid; what is put into a row. -/
namespace Go.Proofs.YtmkpefielfinjaaDoor
open Go.RowKit

/-- A grid in a new block, known whole. -/
def GrW (w : World) (R C : Int) (cs : List C4) (e : Ending) (w' : World) : Prop :=
  ∃ g, e = .returned (.agg #[.int .i64 R, .int .i64 C, .slice (some ⟨g, 0, none⟩) cs.length cs.length]) ∧ Wb w' g cs ∧ w.heap.size ≤ g ∧ Bw w w'
set_option maxRecDepth 100000 in
set_option maxHeartbeats 2000000 in
theorem gnew_wb (rows cols : Int) (w : World) : Calls Tryd.prog 32 #[.int .i64 rows, .int .i64 cols] w (GrW w (clamp rows 30) (clamp cols 100) (List.replicate (clamp rows 30 * clamp cols 100).toNat blk)) := by
  have h1 := clamp_bd rows 30 (by omega)
  have h2 := clamp_bd cols 100 (by omega)
  have HR := Lib.hid (clamp_if rows 30 (by omega))
  have HC := Lib.hid (clamp_if cols 100 (by omega))
  obtain ⟨R, hR⟩ : ∃ R, R = clamp rows 30 := ⟨_, rfl⟩
  obtain ⟨C, hC⟩ : ∃ C, C = clamp cols 100 := ⟨_, rfl⟩
  rw [← hR, ← hC]
  rw [← hR] at h1 HR
  rw [← hC] at h2 HC
  clear hR hC
  obtain ⟨h1, h3⟩ := h1
  obtain ⟨h2, h4⟩ := h2
  have hm := mul_bd h1 h3 h2 h4
  obtain ⟨N, hN⟩ : ∃ N : Nat, (R * C).toNat = N := ⟨_, rfl⟩
  have hN2 : R * C = (N : Int) := by omega
  have hN3 : 1 ≤ N ∧ N ≤ 3000 := by omega
  have HN := Lib.hid hN
  have HN2 := Lib.hid hN2
  obtain ⟨j0, hj, hj0, hj1, hj2⟩ := info_parts infoC
  obtain ⟨hN4, hN5⟩ := hN3
  clear hN hN2
  go_enter Tryd.func32, Tryd.ntmps32
  go_upto_region 1 with (fail)
  go_cut [0] (fun s0 w' => s0 = .int .i64 R ∧ w.alloc (.cells #[.int .i64 0, .int .i64 0, .slice none 0 0] 32) = w')
  case first =>
    go_wp2_with fail
    all_goals
      go_meet
      case rel => exact ⟨congrArg (Value.int .i64) (by have h9 := HR.out; (repeat' split at h9) <;> omega), rfl⟩
  case rest =>
  obtain ⟨rfl, rfl⟩ := hcut
  go_upto_region 2 with (fail)
  go_cut [1] (fun s0 w' => s0 = .int .i64 C ∧ w.alloc (.cells #[.int .i64 0, .int .i64 0, .slice none 0 0] 32) = w')
  case first =>
    go_wp2_with fail
    all_goals
      go_meet
      case rel => exact ⟨congrArg (Value.int .i64) (by have h9 := HC.out; (repeat' split at h9) <;> omega), rfl⟩
  case rest =>
  obtain ⟨rfl, rfl⟩ := hcut
  have hm2 : (N : Int) = R * C := HN2.out.symm
  have HM2 := Lib.hid hm2
  clear hm2
  go_wp2_with (first | (at_make; refine wpList_make_full _ rfl _ _ 30 rfl (w.heap.size + 1) 64 j0 (.agg #[.int .i64 0, .int .i64 0, .int .i64 0, .int .i64 0]) 4 Tryd.underlying30 hj hj0 hj1 .i64 .i64 (R * C) (R * C) N (by rfl) (by rfl) HN2.out HN2.out (by rw [hj2]; omega) (by unfold maxLen; omega) SZX ?_; intro w1 hown1 hg1; have hwb := Wb.of_made hown1 (heapsz _ _); have hbw1 : Bw (w.alloc (.cells #[.int .i64 0, .int .i64 0, .slice none 0 0] 32)) w1 := Bw.of_grown hg1; have HW := Lib.hid hwb; have HB1 := Lib.hid hbw1; have hzw := hwb.lt; clear hown1 hg1 hwb hbw1) | fail)
  have hbww : Bw w w1 := Bw.trans (show Bw w (w.alloc _) from BWX) HB1.out
  have HB0 := Lib.hid ((Bx.lit (w := w) rfl rfl).up HB1.out)
  go_loopw [19] (fun i wr => ∃ k : Nat, i = .int .i64 k ∧ k ≤ N ∧ Wb wr (w.heap.size + 1) (List.replicate k blk ++ List.replicate (N - k) zc) ∧ Bx wr w.heap.size [.int .i64 0, .int .i64 0, .slice none 0 0] ∧ Bw w wr) (fun i _ => N - (intOf i).toNat)
  case atStart => exact ⟨0, rfl, by omega, by simpa using HW.out, HB0.out, hbww⟩
  case round =>
    obtain ⟨k, rfl, hk, hW, hB, hbw⟩ := hrel
    have HWk := Lib.hid hW
    have HBk := Lib.hid hB
    have hzr := hW.lt
    (have x0 := (HBk.out 0 (by simp)).1; have x1 := (HBk.out 1 (by simp)).1; have x2 := (HBk.out 2 (by simp)).1; have a0 := (HBk.out 0 (by simp)).2; have a1 := (HBk.out 1 (by simp)).2; have a2 := (HBk.out 2 (by simp)).2; simp only [List.getElem_cons_zero, List.getElem_cons_succ] at x0 x1 x2)
    clear hW hB
    by_cases hlt : k < N
    · have hl : k < (List.replicate k blk ++ List.replicate (N - k) zc).length := by simp; omega
      obtain ⟨f1, f2, f3, f4⟩ := HWk.out.cells k hl
      have f := HWk.out.free (k * 4)
      have g := HWk.out.free (k * 4 + 1)
      have h := HWk.out.free (k * 4 + 2)
      have l := HWk.out.free (k * 4 + 3)
      have e1 : (0 : Int) ≤ k := by omega
      have e2 : (k : Int) < N := by omega
      have HS := Lib.hid (rep_set N k hlt)
      go_wp2_with (first | (go_at_call 51; refine (gblank_any _ _ _ _).mono ?_; rintro ee w2 ⟨rfl, hb2⟩; have HW2 := Lib.hid (HWk.out.up hb2); have HB2 := Lib.hid (HBk.out.up hb2); have hbw2 : Bw w w2 := Bw.trans hbw hb2; obtain ⟨p1, p2, p3, p4⟩ := HW2.out.cells k hl; have q1 := HW2.out.free (k * 4); have q2 := HW2.out.free (k * 4 + 1); have q3 := HW2.out.free (k * 4 + 2); have q4 := HW2.out.free (k * 4 + 3); clear f1 f2 f3 f4 f g h l hb2) | fail)
      go_roundw
      case rel =>
        refine ⟨k + 1, by go_num, by omega, ?_, (((HB2.out.away (by omega) _).away (by omega) _).away (by omega) _).away (by omega) _, BWX⟩
        rw [← HS.out]
        exact HW2.out.store k hl blk
      case measure => simp [intOf]; omega
    · obtain rfl : k = N := by omega
      go_wp2_with fail
      refine bodyPost_ret (by simp [results, Tryd.results32, go_sem, x0, x1, x2, a0, a1, a2]; rfl) rfl ?_
      rw [HN.out]
      have hW := HWk.out
      rw [Nat.sub_self, List.replicate_zero, List.append_nil] at hW
      have hrg := fun (i j l : Nat) (a b c : Value) => ((hW.away (h := w.heap.size) (j := i) (by omega) a).away (h := w.heap.size) (j := j) (by omega) b).away (h := w.heap.size) (j := l) (by omega) c
      exact ⟨w.heap.size + 1, by rw [List.length_replicate], hrg _ _ _ _ _ _, by omega, BWX⟩

/-- row: the cells of a row, where they lie. -/
theorem row30_any (R : Int) (Cn n c g o i p : Nat) (w : World) (hp : (i : Int) * (Cn : Int) = (p : Int)) (hpn : p + Cn ≤ n) (hn : n ≤ c) (hC1 : 1 ≤ Cn) (hi : i ≤ 1000) (hcn : Cn ≤ 1000) (hc : c ≤ 9223372036854775807) :
    Calls Tryd.prog 34 #[.agg #[.int .i64 R, .int .i64 (Cn : Int), .slice (some ⟨g, o, none⟩) n c], .int .i64 (i : Int)] w fun e w' => e = .returned (.slice (some ⟨g, o + p * 4, none⟩) Cn (c - p)) ∧ Bw w w' := by
  have hp2 : ((i : Int) + 1) * (Cn : Int) = ((p + Cn : Nat) : Int) := by rw [Int.add_mul, hp]; omega
  have hb1 : (0 : Int) ≤ (p : Int) := by omega
  have hb2 : ((p : Nat) : Int) ≤ ((p + Cn : Nat) : Int) := by omega
  have hb3 : ((p + Cn : Nat) : Int) ≤ (c : Int) := by omega
  obtain ⟨p2, hpp⟩ : ∃ p2, p2 = p + Cn := ⟨_, rfl⟩
  rw [← hpp] at hp2 hb2 hb3
  have hpn2 : p2 ≤ n := by omega
  have hpc : p < c := by omega
  have hpl : p < p2 := by omega
  have hpd : p2 - p = Cn := by omega
  have HPD := Lib.hid hpd
  obtain ⟨j0, hj, hj0, hj1, hj2⟩ := info_parts infoC
  clear hpp hpd
  go_enter Tryd.func34, Tryd.ntmps34
  go_wp2_with fail
  go_ret
  exact ⟨by rw [HPD.out]; rfl, BWX⟩

/-- The runes of cells p, .., p + k - 1 put in. -/
def putU (f : Nat → Int) (p : Nat) : Nat → List C4 → List C4
  | 0, cs => cs
  | k + 1, cs => (putU f p k cs).set (p + k) (f k, ((putU f p k cs).getD (p + k) blk).2)
/-- The flags of cells p, .., p + k - 1 put in. -/
def putV (fl : Int) (p : Nat) : Nat → List C4 → List C4
  | 0, cs => cs
  | k + 1, cs => (putV fl p k cs).set (p + k) (((putV fl p k cs).getD (p + k) blk).1, fl, ((putV fl p k cs).getD (p + k) blk).2.2)
theorem putU_len (f : Nat → Int) (p : Nat) (cs : List C4) : ∀ k, (putU f p k cs).length = cs.length
  | 0 => rfl
  | k + 1 => by unfold putU; rw [List.length_set, putU_len f p cs k]
theorem putV_len (fl : Int) (p : Nat) (cs : List C4) : ∀ k, (putV fl p k cs).length = cs.length
  | 0 => rfl
  | k + 1 => by unfold putV; rw [List.length_set, putV_len fl p cs k]
theorem putU_at (f : Nat → Int) (p : Nat) (cs : List C4) : ∀ k, p + k ≤ cs.length → ∀ j, (putU f p k cs).getD j blk = if p ≤ j ∧ j < p + k then (f (j - p), (cs.getD j blk).2) else cs.getD j blk
  | 0, _, j => by rw [if_neg (by omega)]; rfl
  | k + 1, h, j => by
    have ih := putU_at f p cs k (by omega)
    unfold putU
    rw [ih (p + k), if_neg (by omega), List.getD_eq_getElem?_getD, List.getElem?_set]
    by_cases hj : p + k = j
    · subst hj
      rw [if_pos rfl, if_pos (by rw [putU_len]; omega), if_pos (by omega), Option.getD_some, Nat.add_sub_cancel_left]
    · rw [if_neg hj, ← List.getD_eq_getElem?_getD, ih j]
      by_cases h2 : p ≤ j ∧ j < p + k
      · rw [if_pos h2, if_pos (by omega)]
      · rw [if_neg h2, if_neg (by omega)]
theorem putV_at (fl : Int) (p : Nat) (cs : List C4) : ∀ k, p + k ≤ cs.length → ∀ j, (putV fl p k cs).getD j blk = if p ≤ j ∧ j < p + k then ((cs.getD j blk).1, fl, (cs.getD j blk).2.2) else cs.getD j blk
  | 0, _, j => by rw [if_neg (by omega)]; rfl
  | k + 1, h, j => by
    have ih := putV_at fl p cs k (by omega)
    unfold putV
    rw [ih (p + k), if_neg (by omega), List.getD_eq_getElem?_getD, List.getElem?_set]
    by_cases hj : p + k = j
    · subst hj
      rw [if_pos rfl, if_pos (by rw [putV_len]; omega), if_pos (by omega), Option.getD_some]
    · rw [if_neg hj, ← List.getD_eq_getElem?_getD, ih j]
      by_cases h2 : p ≤ j ∧ j < p + k
      · rw [if_pos h2, if_pos (by omega)]
      · rw [if_neg h2, if_neg (by omega)]
theorem flat_setU : ∀ (cs : List C4) (k : Nat) (x : Int), k < cs.length → (flat cs).set (k * 4) (.int .i64 x) = flat (cs.set k (x, (cs.getD k blk).2))
  | [], k, x, h => by simp at h
  | y :: ys, 0, x, h => by rw [flat_cons]; rfl
  | y :: ys, k + 1, x, h => by
    rw [flat_cons, List.set_cons_succ, flat_cons, show (y :: ys).getD (k + 1) blk = ys.getD k blk from rfl, ← flat_setU ys k x (by simpa using h), show (k + 1) * 4 = 4 + k * 4 by omega]
    simp [c4L, Nat.add_comm 4]
theorem flat_setV : ∀ (cs : List C4) (k : Nat) (x : Int), k < cs.length → (flat cs).set (k * 4 + 1) (.int .i64 x) = flat (cs.set k ((cs.getD k blk).1, x, (cs.getD k blk).2.2))
  | [], k, x, h => by simp at h
  | y :: ys, 0, x, h => by rw [flat_cons]; rfl
  | y :: ys, k + 1, x, h => by
    rw [flat_cons, List.set_cons_succ, flat_cons, show (y :: ys).getD (k + 1) blk = ys.getD k blk from rfl, ← flat_setV ys k x (by simpa using h), show (k + 1) * 4 + 1 = 4 + (k * 4 + 1) by omega]
    simp [c4L, Nat.add_comm 4]
theorem Wb.putU1 {w : World} {g : Nat} {f : Nat → Int} {p k : Nat} {cs : List C4} (h : Wb w g (putU f p k cs)) (hk : p + k < cs.length) : Wb (w.setCell ⟨g, (p + k) * 4, none⟩ (.int .i64 (f k))) g (putU f p (k + 1) cs) := by
  unfold Wb
  rw [putU, ← flat_setU _ _ _ (by rw [putU_len]; exact hk)]
  exact block_set h _
theorem Wb.putV1 {w : World} {g : Nat} {fl : Int} {p k : Nat} {cs : List C4} (h : Wb w g (putV fl p k cs)) (hk : p + k < cs.length) : Wb (w.setCell ⟨g, (p + k) * 4 + 1, none⟩ (.int .i64 fl)) g (putV fl p (k + 1) cs) := by
  unfold Wb
  rw [putV, ← flat_setV _ _ _ (by rw [putV_len]; exact hk)]
  exact block_set h _
end Go.Proofs.YtmkpefielfinjaaDoor
