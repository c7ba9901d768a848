/- Parts of the proof, one after the other. -/
import Derived.Test.YtccfpehcadpkiaaM04
import Derived.Deep.DeepCutAuto
import Derived.Test.YtccfpehcadpkiaaM05
import Derived.Test.YtccfpehcadpkiaaM01
set_option linter.unusedSimpArgs false
set_option linter.unusedVariables false
/- Grids: the reference's SameCells and Same. -/
namespace Go.Proofs.Ytccfpehcadpkiaa
open Go.RowKit

theorem take_eq_snoc {xs ys : List C4} {k : Nat} (hx : k < xs.length) (hy : k < ys.length) (h : xs.take k = ys.take k) (e : xs[k] = ys[k]) : xs.take (k + 1) = ys.take (k + 1) := by
  rw [List.take_succ_eq_append_getElem hx, List.take_succ_eq_append_getElem hy, h, e]
theorem ne_of_get {xs ys : List C4} {k : Nat} (hx : k < xs.length) (hy : k < ys.length) (e : xs[k] ≠ ys[k]) : xs ≠ ys := by
  intro h; subst h; exact e rfl
set_option maxRecDepth 100000 in
set_option maxHeartbeats 2000000 in
theorem rsc_any (A B : Option Addr) (n c m d : Nat) (xs ys : List C4) (w : World) (hx : Rg w A n xs) (hn : n ≤ c) (hc : c ≤ 9223372036854775807) (hy : Rg w B m ys) (hm : m ≤ d) (hd : d ≤ 9223372036854775807) :
    Calls Try.prog 14 #[.slice A n c, .slice B m d] w fun e w' => e = .returned (.bool (decide (xs = ys))) ∧ Bw w w' := by
  have HX := Lib.hid hx
  have HY := Lib.hid hy
  clear hx hy
  by_cases hnm : n = m
  · subst hnm
    by_cases h0 : n = 0
    · subst h0
      have HE := Lib.hid (show decide (xs = ys) = true by rw [List.eq_nil_of_length_eq_zero HX.out.1, List.eq_nil_of_length_eq_zero HY.out.1]; rfl)
      go_enter Try.func14, Try.ntmps14
      go_wp2_with fail
      go_loopw [5] (fun i wr => i = .int .i64 0 ∧ Bw w wr) (fun i _ => 0)
      case atStart => exact ⟨rfl, BWX⟩
      case round =>
        obtain ⟨rfl, hbw⟩ := hrel
        go_wp2_with fail
        go_ret
        exact ⟨by rw [HE.out]; rfl, BWX⟩
    obtain ⟨g, o, rfl, hx⟩ := HX.out.2 (by omega)
    obtain ⟨g', o', rfl, hy⟩ := HY.out.2 (by omega)
    have HXc := Lib.hid hx
    have HYc := Lib.hid hy
    clear hx hy
    go_enter Try.func14, Try.ntmps14
    go_wp2_with fail
    go_loopw [5] (fun i wr => ∃ k : Nat, i = .int .i64 k ∧ k ≤ n ∧ xs.take k = ys.take k ∧ Bw w wr) (fun i _ => n - (intOf i).toNat)
    case atStart => exact ⟨0, rfl, by omega, by simp, BWX⟩
    case round =>
      obtain ⟨k, rfl, hk, ht, hbw⟩ := hrel
      have HT := Lib.hid ht
      clear ht
      by_cases hlt : k < n
      · have hkx : k < xs.length := by rw [HX.out.1]; exact hlt
        have hky : k < ys.length := by rw [HY.out.1]; exact hlt
        have hcx := (HXc.out k hkx).up hbw
        have hcy := (HYc.out k hky).up hbw
        obtain ⟨⟨x1, x2, x3, x4⟩, hxx⟩ : ∃ x, xs[k] = x := ⟨_, rfl⟩
        obtain ⟨⟨y1, y2, y3, y4⟩, hyy⟩ : ∃ x, ys[k] = x := ⟨_, rfl⟩
        rw [hxx] at hcx
        rw [hyy] at hcy
        obtain ⟨f1, f2, f3, f4⟩ := hcx
        obtain ⟨g1, g2, g3, g4⟩ := hcy
        dsimp only at f1 f2 f3 f4 g1 g2 g3 g4
        have HXX := Lib.hid hxx
        have HYY := Lib.hid hyy
        have e1 : (0 : Int) ≤ k := by omega
        have e2 : (k : Int) < n := by omega
        clear hxx hyy
        by_cases heq : (x1, x2, x3, x4) = (y1, y2, y3, y4)
        · have HT2 := Lib.hid (take_eq_snoc hkx hky HT.out (by rw [HXX.out, HYY.out]; exact heq))
          simp only [Prod.mk.injEq] at heq
          obtain ⟨rfl, rfl, rfl, rfl⟩ := heq
          go_upto_region 6 with (fail)
          go_quiet (fail)
          go_wp2_with fail
          go_roundw
          case rel => exact ⟨k + 1, by go_num, by omega, HT2.out, BWX⟩
          case measure => simp [intOf]; omega
        · have HE := Lib.hid (show decide (xs = ys) = false from decide_eq_false (ne_of_get hkx hky (by rw [HXX.out, HYY.out]; exact heq)))
          have hne : ¬ x1 = y1 ∨ (x1 = y1 ∧ ¬ x2 = y2) ∨ (x1 = y1 ∧ x2 = y2 ∧ ¬ x3 = y3) ∨ (x1 = y1 ∧ x2 = y2 ∧ x3 = y3 ∧ ¬ x4 = y4) := by
            simp only [Prod.mk.injEq] at heq
            omega
          clear heq
          go_upto_region 6 with (fail)
          go_cut [25] (fun s w' => s = .bool true ∧ Bw w w')
          case first =>
            rcases hne with h | ⟨rfl, h⟩ | ⟨rfl, rfl, h⟩ | ⟨rfl, rfl, rfl, h⟩
            all_goals
              go_quiet (fail)
              go_wp2
              go_meet
              case rel => exact ⟨by simp [h], BWX⟩
          case rest =>
          obtain ⟨rfl, hbw2⟩ := hcut
          go_wp2_with fail
          go_ret
          exact ⟨by rw [HE.out]; rfl, BWX⟩
      · obtain rfl : k = n := by omega
        have HE := Lib.hid (show decide (xs = ys) = true from decide_eq_true (by have h := HT.out; rw [List.take_of_length_le (by rw [HX.out.1]; omega), List.take_of_length_le (by rw [HY.out.1]; omega)] at h; exact h))
        go_wp2_with fail
        go_ret
        exact ⟨by rw [HE.out]; rfl, BWX⟩
  · have HE := Lib.hid (show decide (xs = ys) = false from decide_eq_false (fun e => hnm (by rw [← HX.out.1, ← HY.out.1, e])))
    have h1 : ((n : Int) == m) = false := by rw [beq_eq_false_iff_ne]; omega
    have h2 : ((n : Int) != m) = true := by rw [bne_iff_ne]; omega
    go_enter Try.func14, Try.ntmps14
    go_wp2_with fail
    go_ret
    exact ⟨by rw [HE.out]; rfl, BWX⟩

set_option maxRecDepth 100000 in
set_option maxHeartbeats 2000000 in
theorem rsame_any (R C R' C' : Int) (A B : Option Addr) (n c m d : Nat) (xs ys : List C4) (w : World) (hx : Rg w A n xs) (hn : n ≤ c) (hc : c ≤ 9223372036854775807) (hy : Rg w B m ys) (hm : m ≤ d) (hd : d ≤ 9223372036854775807) :
    Calls Try.prog 17 #[.agg #[.int .i64 R, .int .i64 C, .slice A n c], .agg #[.int .i64 R', .int .i64 C', .slice B m d]] w fun e w' => e = .returned (.bool (decide (R = R') && decide (C = C') && decide (xs = ys))) ∧ Bw w w' := by
  have HX := Lib.hid hx
  have HY := Lib.hid hy
  clear hx hy
  by_cases h1 : R = R'
  · subst h1
    by_cases h2 : C = C'
    · subst h2
      go_enter Try.func17, Try.ntmps17
      go_wp2_with (first | (go_at_call 14; refine (rsc_any A B n c m d xs ys _ (by exact HX.out.up BWX) hn hc (by exact HY.out.up BWX) hm hd).mono ?_; rintro ee w1 ⟨rfl, hb⟩) | fail)
      go_ret
      exact ⟨ret_bool (by simp), BWX⟩
    · have hq : (C == C') = false := by simpa using h2
      have HE := Lib.hid (decide_eq_false h2)
      clear h2
      go_enter Try.func17, Try.ntmps17
      go_wp2_with fail
      go_ret
      exact ⟨ret_bool (a := false) (by rw [HE.out]; simp), BWX⟩
  · have hq : (R == R') = false := by simpa using h1
    have HE := Lib.hid (decide_eq_false h1)
    clear h1
    go_enter Try.func17, Try.ntmps17
    go_wp2_with fail
    go_ret
    exact ⟨ret_bool (a := false) (by rw [HE.out]; simp), BWX⟩
end Go.Proofs.Ytccfpehcadpkiaa

/- Grids: the reference's Fill, Scroll and Shift at whatever arguments. -/
namespace Go.Proofs.Ytccfpehcadpkiaa
open Go.RowKit

theorem gridB_out {R C : Int} {cs : List C4} (h : gridB R C cs = true) : ∃ Rn Cn : Nat, R = Rn ∧ C = Cn ∧ 1 ≤ Rn ∧ Rn ≤ 30 ∧ 1 ≤ Cn ∧ Cn ≤ 100 ∧ cs.length = Rn * Cn ∧ cs.all cellB = true := by
  unfold gridB at h
  rw [Bool.and_eq_true] at h
  obtain ⟨h1, h2⟩ := h
  have h3 := of_decide_eq_true h1
  obtain ⟨a, b, c, d, e⟩ := h3
  refine ⟨R.toNat, C.toNat, by omega, by omega, by omega, by omega, by omega, by omega, ?_, h2⟩
  have : ((R.toNat * C.toNat : Nat) : Int) = R * C := by rw [Int.natCast_mul, Int.toNat_of_nonneg (by omega), Int.toNat_of_nonneg (by omega)]
  omega
def fillG (R C : Int) (cs : List C4) (row fr tt : Int) (d : C4) : List C4 := if gridB R C cs = true ∧ cellB d = true then tab R.toNat C.toNat (fillF R.toNat C.toNat cs row fr tt d) else cs
set_option maxRecDepth 100000 in
set_option maxHeartbeats 4000000 in
theorem rfill_no (R C : Int) (A : Option Addr) (n c : Nat) (cs : List C4) (row fr tt d1 d2 d3 d4 : Int) (w : World) (hr : Rg w A n cs) (hn : n ≤ c) (hc : c ≤ 9223372036854775807) (h : ¬ (gridB R C cs = true ∧ cellB (d1, d2, d3, d4) = true)) :
    Calls Try.prog 23 #[.agg #[.int .i64 R, .int .i64 C, .slice A n c], .int .i64 row, .int .i64 fr, .int .i64 tt, .agg #[.int .i64 d1, .int .i64 d2, .int .i64 d3, .int .i64 d4]] w (GrP w R C cs) := by
  have HR := Lib.hid hr
  clear hr
  cases hv : gridB R C cs
  · have HV := Lib.hid hv
    clear h
    go_enter Try.func23, Try.ntmps23
    go_wp2_with (first
      | (go_at_call 12; refine (rgvalid_any _ _ _ _ _ cs _ (by exact HR.out.up BWX) hn hc).mono ?_; rintro ee wv ⟨rfl, hbv⟩; rw [HV.out]; have HB0 := Lib.hid (((Bx.lit (w := w) (cs := #[.int .i64 R, .int .i64 C, .slice A n c]) (T := 25) rfl rfl).up (show Bw _ (((w.alloc _).alloc _).alloc _) from BWX)).up hbv); have HB1 := Lib.hid (((Bx.lit (w := w.alloc (.cells #[.int .i64 R, .int .i64 C, .slice A n c] 25)) (g := w.heap.size + 1) (cs := #[.int .i64 d1, .int .i64 d2, .int .i64 d3, .int .i64 d4]) (T := 39) SZX rfl).up (show Bw _ (((w.alloc _).alloc _).alloc _) from BWX)).up hbv); have HB2 := Lib.hid ((Bx.lit (w := (w.alloc (.cells #[.int .i64 R, .int .i64 C, .slice A n c] 25)).alloc (.cells #[.int .i64 d1, .int .i64 d2, .int .i64 d3, .int .i64 d4] 39)) (g := w.heap.size + 1 + 1) (cs := #[.int .i64 0, .int .i64 0, .slice none 0 0]) (T := 25) SZX rfl).up hbv); have hbw0 : Bw w wv := Bw.trans (show Bw w _ from BWX) hbv; (have x0 := (HB0.out 0 (by simp)).1; have x1 := (HB0.out 1 (by simp)).1; have x2 := (HB0.out 2 (by simp)).1; simp only [List.getElem_cons_zero, List.getElem_cons_succ] at x0 x1 x2); (have y0 := (HB1.out 0 (by simp)).1; have y1 := (HB1.out 1 (by simp)).1; have y2 := (HB1.out 2 (by simp)).1; have y3 := (HB1.out 3 (by simp)).1; simp only [List.getElem_cons_zero, List.getElem_cons_succ] at y0 y1 y2 y3); (have u0 := (HB2.out 0 (by simp)).1; have u1 := (HB2.out 1 (by simp)).1; have u2 := (HB2.out 2 (by simp)).1; have z0 := (HB2.out 0 (by simp)).2; have z1 := (HB2.out 1 (by simp)).2; have z2 := (HB2.out 2 (by simp)).2; simp only [List.getElem_cons_zero, List.getElem_cons_succ] at u0 u1 u2); have hz2 := HB2.out.lt (by simp); clear hbv)
      | (go_at_call 33; refine (rcell_any d1 d2 d3 d4 _).mono ?_; rintro ee wu ⟨rfl, hbc⟩; rw [HCV.out]; have HC0 := Lib.hid (HB0.out.up hbc); have HC2 := Lib.hid (HB2.out.up hbc); have hbw1 : Bw w wu := Bw.trans hbw0 hbc; clear hbc x0 x1 x2 y0 y1 y2 y3 u0 u1 u2 z0 z1 z2 hz2; (have x0 := (HC0.out 0 (by simp)).1; have x1 := (HC0.out 1 (by simp)).1; have x2 := (HC0.out 2 (by simp)).1; simp only [List.getElem_cons_zero, List.getElem_cons_succ] at x0 x1 x2); (have u0 := (HC2.out 0 (by simp)).1; have u1 := (HC2.out 1 (by simp)).1; have u2 := (HC2.out 2 (by simp)).1; have z0 := (HC2.out 0 (by simp)).2; have z1 := (HC2.out 1 (by simp)).2; have z2 := (HC2.out 2 (by simp)).2; simp only [List.getElem_cons_zero, List.getElem_cons_succ] at u0 u1 u2); have hz2 := HC2.out.lt (by simp))
      | fail)
    refine bodyPost_ret (by simp [results, Try.results23, go_sem, u0, u1, u2, z0, z1, z2]; rfl) rfl ?_
    exact ⟨A, n, c, rfl, HR.out.up BWX, hn, hc, BWX⟩
  · have HV := Lib.hid hv
    cases hcv : cellB (d1, d2, d3, d4)
    · have HCV := Lib.hid hcv
      clear h
      go_enter Try.func23, Try.ntmps23
      go_wp2_with (first
        | (go_at_call 12; refine (rgvalid_any _ _ _ _ _ cs _ (by exact HR.out.up BWX) hn hc).mono ?_; rintro ee wv ⟨rfl, hbv⟩; rw [HV.out]; have HB0 := Lib.hid (((Bx.lit (w := w) (cs := #[.int .i64 R, .int .i64 C, .slice A n c]) (T := 25) rfl rfl).up (show Bw _ (((w.alloc _).alloc _).alloc _) from BWX)).up hbv); have HB1 := Lib.hid (((Bx.lit (w := w.alloc (.cells #[.int .i64 R, .int .i64 C, .slice A n c] 25)) (g := w.heap.size + 1) (cs := #[.int .i64 d1, .int .i64 d2, .int .i64 d3, .int .i64 d4]) (T := 39) SZX rfl).up (show Bw _ (((w.alloc _).alloc _).alloc _) from BWX)).up hbv); have HB2 := Lib.hid ((Bx.lit (w := (w.alloc (.cells #[.int .i64 R, .int .i64 C, .slice A n c] 25)).alloc (.cells #[.int .i64 d1, .int .i64 d2, .int .i64 d3, .int .i64 d4] 39)) (g := w.heap.size + 1 + 1) (cs := #[.int .i64 0, .int .i64 0, .slice none 0 0]) (T := 25) SZX rfl).up hbv); have hbw0 : Bw w wv := Bw.trans (show Bw w _ from BWX) hbv; (have x0 := (HB0.out 0 (by simp)).1; have x1 := (HB0.out 1 (by simp)).1; have x2 := (HB0.out 2 (by simp)).1; simp only [List.getElem_cons_zero, List.getElem_cons_succ] at x0 x1 x2); (have y0 := (HB1.out 0 (by simp)).1; have y1 := (HB1.out 1 (by simp)).1; have y2 := (HB1.out 2 (by simp)).1; have y3 := (HB1.out 3 (by simp)).1; simp only [List.getElem_cons_zero, List.getElem_cons_succ] at y0 y1 y2 y3); (have u0 := (HB2.out 0 (by simp)).1; have u1 := (HB2.out 1 (by simp)).1; have u2 := (HB2.out 2 (by simp)).1; have z0 := (HB2.out 0 (by simp)).2; have z1 := (HB2.out 1 (by simp)).2; have z2 := (HB2.out 2 (by simp)).2; simp only [List.getElem_cons_zero, List.getElem_cons_succ] at u0 u1 u2); have hz2 := HB2.out.lt (by simp); clear hbv)
        | (go_at_call 33; refine (rcell_any d1 d2 d3 d4 _).mono ?_; rintro ee wu ⟨rfl, hbc⟩; rw [HCV.out]; have HC0 := Lib.hid (HB0.out.up hbc); have HC2 := Lib.hid (HB2.out.up hbc); have hbw1 : Bw w wu := Bw.trans hbw0 hbc; clear hbc x0 x1 x2 y0 y1 y2 y3 u0 u1 u2 z0 z1 z2 hz2; (have x0 := (HC0.out 0 (by simp)).1; have x1 := (HC0.out 1 (by simp)).1; have x2 := (HC0.out 2 (by simp)).1; simp only [List.getElem_cons_zero, List.getElem_cons_succ] at x0 x1 x2); (have u0 := (HC2.out 0 (by simp)).1; have u1 := (HC2.out 1 (by simp)).1; have u2 := (HC2.out 2 (by simp)).1; have z0 := (HC2.out 0 (by simp)).2; have z1 := (HC2.out 1 (by simp)).2; have z2 := (HC2.out 2 (by simp)).2; simp only [List.getElem_cons_zero, List.getElem_cons_succ] at u0 u1 u2); have hz2 := HC2.out.lt (by simp))
        | fail)
      refine bodyPost_ret (by simp [results, Try.results23, go_sem, u0, u1, u2, z0, z1, z2]; rfl) rfl ?_
      exact ⟨A, n, c, rfl, HR.out.up BWX, hn, hc, BWX⟩
    · exact absurd (show _ ∧ _ from ⟨hv, hcv⟩) h
theorem rfill_any (R C : Int) (A : Option Addr) (n c : Nat) (cs : List C4) (row fr tt d1 d2 d3 d4 : Int) (w : World) (hr : Rg w A n cs) (hn : n ≤ c) (hc : c ≤ 9223372036854775807) :
    Calls Try.prog 23 #[.agg #[.int .i64 R, .int .i64 C, .slice A n c], .int .i64 row, .int .i64 fr, .int .i64 tt, .agg #[.int .i64 d1, .int .i64 d2, .int .i64 d3, .int .i64 d4]] w (GrP w R C (fillG R C cs row fr tt (d1, d2, d3, d4))) := by
  by_cases h : gridB R C cs = true ∧ cellB (d1, d2, d3, d4) = true
  · rw [show fillG R C cs row fr tt (d1, d2, d3, d4) = _ from if_pos h]
    obtain ⟨Rn, Cn, rfl, rfl, h1, h2, h3, h4, hl, -⟩ := gridB_out h.1
    rw [Int.toNat_natCast, Int.toNat_natCast]
    exact (rfill_go Rn Cn A n c cs row fr tt d1 d2 d3 d4 w h1 h2 h3 h4 (by rw [← hr.1]; exact hl) hr hn hc h.1 h.2).mono fun _ _ h9 => h9.toP
  · rw [show fillG R C cs row fr tt (d1, d2, d3, d4) = _ from if_neg h]
    exact rfill_no R C A n c cs row fr tt d1 d2 d3 d4 w hr hn hc h
def scrollG (R C : Int) (cs : List C4) (tp bt num : Int) (d : C4) : List C4 := if gridB R C cs = true ∧ cellB d = true ∧ (0 ≤ tp ∧ tp ≤ bt ∧ bt < R) then tab R.toNat C.toNat (scrollF R.toNat C.toNat cs tp bt (clampS R.toNat num) d) else cs
set_option maxRecDepth 100000 in
set_option maxHeartbeats 4000000 in
theorem rscroll_no (R C : Int) (A : Option Addr) (n c : Nat) (cs : List C4) (tp bt num d1 d2 d3 d4 : Int) (w : World) (hr : Rg w A n cs) (hn : n ≤ c) (hc : c ≤ 9223372036854775807) (h : ¬ (gridB R C cs = true ∧ cellB (d1, d2, d3, d4) = true ∧ (0 ≤ tp ∧ tp ≤ bt ∧ bt < R))) :
    Calls Try.prog 25 #[.agg #[.int .i64 R, .int .i64 C, .slice A n c], .int .i64 tp, .int .i64 bt, .int .i64 num, .agg #[.int .i64 d1, .int .i64 d2, .int .i64 d3, .int .i64 d4]] w (GrP w R C cs) := by
  have HR := Lib.hid hr
  clear hr
  cases hv : gridB R C cs
  · have HV := Lib.hid hv
    clear h
    go_enter Try.func25, Try.ntmps25
    go_wp2_with (first
      | (go_at_call 12; refine (rgvalid_any _ _ _ _ _ cs _ (by exact HR.out.up BWX) hn hc).mono ?_; rintro ee wv ⟨rfl, hbv⟩; rw [HV.out]; have HB0 := Lib.hid (((Bx.lit (w := w) (cs := #[.int .i64 R, .int .i64 C, .slice A n c]) (T := 25) rfl rfl).up (show Bw _ (((w.alloc _).alloc _).alloc _) from BWX)).up hbv); have HB1 := Lib.hid (((Bx.lit (w := w.alloc (.cells #[.int .i64 R, .int .i64 C, .slice A n c] 25)) (g := w.heap.size + 1) (cs := #[.int .i64 d1, .int .i64 d2, .int .i64 d3, .int .i64 d4]) (T := 39) SZX rfl).up (show Bw _ (((w.alloc _).alloc _).alloc _) from BWX)).up hbv); have HB2 := Lib.hid ((Bx.lit (w := (w.alloc (.cells #[.int .i64 R, .int .i64 C, .slice A n c] 25)).alloc (.cells #[.int .i64 d1, .int .i64 d2, .int .i64 d3, .int .i64 d4] 39)) (g := w.heap.size + 1 + 1) (cs := #[.int .i64 0, .int .i64 0, .slice none 0 0]) (T := 25) SZX rfl).up hbv); have hbw0 : Bw w wv := Bw.trans (show Bw w _ from BWX) hbv; (have x0 := (HB0.out 0 (by simp)).1; have x1 := (HB0.out 1 (by simp)).1; have x2 := (HB0.out 2 (by simp)).1; simp only [List.getElem_cons_zero, List.getElem_cons_succ] at x0 x1 x2); (have y0 := (HB1.out 0 (by simp)).1; have y1 := (HB1.out 1 (by simp)).1; have y2 := (HB1.out 2 (by simp)).1; have y3 := (HB1.out 3 (by simp)).1; simp only [List.getElem_cons_zero, List.getElem_cons_succ] at y0 y1 y2 y3); (have u0 := (HB2.out 0 (by simp)).1; have u1 := (HB2.out 1 (by simp)).1; have u2 := (HB2.out 2 (by simp)).1; have z0 := (HB2.out 0 (by simp)).2; have z1 := (HB2.out 1 (by simp)).2; have z2 := (HB2.out 2 (by simp)).2; simp only [List.getElem_cons_zero, List.getElem_cons_succ] at u0 u1 u2); have hz2 := HB2.out.lt (by simp); clear hbv)
      | (go_at_call 33; refine (rcell_any d1 d2 d3 d4 _).mono ?_; rintro ee wu ⟨rfl, hbc⟩; rw [HCV.out]; have HC0 := Lib.hid (HB0.out.up hbc); have HC2 := Lib.hid (HB2.out.up hbc); have hbw1 : Bw w wu := Bw.trans hbw0 hbc; clear hbc x0 x1 x2 y0 y1 y2 y3 u0 u1 u2 z0 z1 z2 hz2; (have x0 := (HC0.out 0 (by simp)).1; have x1 := (HC0.out 1 (by simp)).1; have x2 := (HC0.out 2 (by simp)).1; simp only [List.getElem_cons_zero, List.getElem_cons_succ] at x0 x1 x2); (have u0 := (HC2.out 0 (by simp)).1; have u1 := (HC2.out 1 (by simp)).1; have u2 := (HC2.out 2 (by simp)).1; have z0 := (HC2.out 0 (by simp)).2; have z1 := (HC2.out 1 (by simp)).2; have z2 := (HC2.out 2 (by simp)).2; simp only [List.getElem_cons_zero, List.getElem_cons_succ] at u0 u1 u2); have hz2 := HC2.out.lt (by simp))
      | fail)
    refine bodyPost_ret (by simp [results, Try.results25, go_sem, u0, u1, u2, z0, z1, z2]; rfl) rfl ?_
    exact ⟨A, n, c, rfl, HR.out.up BWX, hn, hc, BWX⟩
  · have HV := Lib.hid hv
    cases hcv : cellB (d1, d2, d3, d4)
    · have HCV := Lib.hid hcv
      clear h
      go_enter Try.func25, Try.ntmps25
      go_wp2_with (first
        | (go_at_call 12; refine (rgvalid_any _ _ _ _ _ cs _ (by exact HR.out.up BWX) hn hc).mono ?_; rintro ee wv ⟨rfl, hbv⟩; rw [HV.out]; have HB0 := Lib.hid (((Bx.lit (w := w) (cs := #[.int .i64 R, .int .i64 C, .slice A n c]) (T := 25) rfl rfl).up (show Bw _ (((w.alloc _).alloc _).alloc _) from BWX)).up hbv); have HB1 := Lib.hid (((Bx.lit (w := w.alloc (.cells #[.int .i64 R, .int .i64 C, .slice A n c] 25)) (g := w.heap.size + 1) (cs := #[.int .i64 d1, .int .i64 d2, .int .i64 d3, .int .i64 d4]) (T := 39) SZX rfl).up (show Bw _ (((w.alloc _).alloc _).alloc _) from BWX)).up hbv); have HB2 := Lib.hid ((Bx.lit (w := (w.alloc (.cells #[.int .i64 R, .int .i64 C, .slice A n c] 25)).alloc (.cells #[.int .i64 d1, .int .i64 d2, .int .i64 d3, .int .i64 d4] 39)) (g := w.heap.size + 1 + 1) (cs := #[.int .i64 0, .int .i64 0, .slice none 0 0]) (T := 25) SZX rfl).up hbv); have hbw0 : Bw w wv := Bw.trans (show Bw w _ from BWX) hbv; (have x0 := (HB0.out 0 (by simp)).1; have x1 := (HB0.out 1 (by simp)).1; have x2 := (HB0.out 2 (by simp)).1; simp only [List.getElem_cons_zero, List.getElem_cons_succ] at x0 x1 x2); (have y0 := (HB1.out 0 (by simp)).1; have y1 := (HB1.out 1 (by simp)).1; have y2 := (HB1.out 2 (by simp)).1; have y3 := (HB1.out 3 (by simp)).1; simp only [List.getElem_cons_zero, List.getElem_cons_succ] at y0 y1 y2 y3); (have u0 := (HB2.out 0 (by simp)).1; have u1 := (HB2.out 1 (by simp)).1; have u2 := (HB2.out 2 (by simp)).1; have z0 := (HB2.out 0 (by simp)).2; have z1 := (HB2.out 1 (by simp)).2; have z2 := (HB2.out 2 (by simp)).2; simp only [List.getElem_cons_zero, List.getElem_cons_succ] at u0 u1 u2); have hz2 := HB2.out.lt (by simp); clear hbv)
        | (go_at_call 33; refine (rcell_any d1 d2 d3 d4 _).mono ?_; rintro ee wu ⟨rfl, hbc⟩; rw [HCV.out]; have HC0 := Lib.hid (HB0.out.up hbc); have HC2 := Lib.hid (HB2.out.up hbc); have hbw1 : Bw w wu := Bw.trans hbw0 hbc; clear hbc x0 x1 x2 y0 y1 y2 y3 u0 u1 u2 z0 z1 z2 hz2; (have x0 := (HC0.out 0 (by simp)).1; have x1 := (HC0.out 1 (by simp)).1; have x2 := (HC0.out 2 (by simp)).1; simp only [List.getElem_cons_zero, List.getElem_cons_succ] at x0 x1 x2); (have u0 := (HC2.out 0 (by simp)).1; have u1 := (HC2.out 1 (by simp)).1; have u2 := (HC2.out 2 (by simp)).1; have z0 := (HC2.out 0 (by simp)).2; have z1 := (HC2.out 1 (by simp)).2; have z2 := (HC2.out 2 (by simp)).2; simp only [List.getElem_cons_zero, List.getElem_cons_succ] at u0 u1 u2); have hz2 := HC2.out.lt (by simp))
        | fail)
      refine bodyPost_ret (by simp [results, Try.results25, go_sem, u0, u1, u2, z0, z1, z2]; rfl) rfl ?_
      exact ⟨A, n, c, rfl, HR.out.up BWX, hn, hc, BWX⟩
    · have HCV := Lib.hid hcv
      have hw : (tp < 0) ∨ (0 ≤ tp ∧ bt < tp) ∨ (0 ≤ tp ∧ tp ≤ bt ∧ R ≤ bt) := by
        rw [hv, hcv] at h
        simp only [true_and] at h
        omega
      clear h hv hcv
      rcases hw with h | ⟨h, h2⟩ | ⟨h, h2, h3⟩
      all_goals
        go_enter Try.func25, Try.ntmps25
        go_wp2_with (first
          | (go_at_call 12; refine (rgvalid_any _ _ _ _ _ cs _ (by exact HR.out.up BWX) hn hc).mono ?_; rintro ee wv ⟨rfl, hbv⟩; rw [HV.out]; have HB0 := Lib.hid (((Bx.lit (w := w) (cs := #[.int .i64 R, .int .i64 C, .slice A n c]) (T := 25) rfl rfl).up (show Bw _ (((w.alloc _).alloc _).alloc _) from BWX)).up hbv); have HB1 := Lib.hid (((Bx.lit (w := w.alloc (.cells #[.int .i64 R, .int .i64 C, .slice A n c] 25)) (g := w.heap.size + 1) (cs := #[.int .i64 d1, .int .i64 d2, .int .i64 d3, .int .i64 d4]) (T := 39) SZX rfl).up (show Bw _ (((w.alloc _).alloc _).alloc _) from BWX)).up hbv); have HB2 := Lib.hid ((Bx.lit (w := (w.alloc (.cells #[.int .i64 R, .int .i64 C, .slice A n c] 25)).alloc (.cells #[.int .i64 d1, .int .i64 d2, .int .i64 d3, .int .i64 d4] 39)) (g := w.heap.size + 1 + 1) (cs := #[.int .i64 0, .int .i64 0, .slice none 0 0]) (T := 25) SZX rfl).up hbv); have hbw0 : Bw w wv := Bw.trans (show Bw w _ from BWX) hbv; (have x0 := (HB0.out 0 (by simp)).1; have x1 := (HB0.out 1 (by simp)).1; have x2 := (HB0.out 2 (by simp)).1; simp only [List.getElem_cons_zero, List.getElem_cons_succ] at x0 x1 x2); (have y0 := (HB1.out 0 (by simp)).1; have y1 := (HB1.out 1 (by simp)).1; have y2 := (HB1.out 2 (by simp)).1; have y3 := (HB1.out 3 (by simp)).1; simp only [List.getElem_cons_zero, List.getElem_cons_succ] at y0 y1 y2 y3); (have u0 := (HB2.out 0 (by simp)).1; have u1 := (HB2.out 1 (by simp)).1; have u2 := (HB2.out 2 (by simp)).1; have z0 := (HB2.out 0 (by simp)).2; have z1 := (HB2.out 1 (by simp)).2; have z2 := (HB2.out 2 (by simp)).2; simp only [List.getElem_cons_zero, List.getElem_cons_succ] at u0 u1 u2); have hz2 := HB2.out.lt (by simp); clear hbv)
          | (go_at_call 33; refine (rcell_any d1 d2 d3 d4 _).mono ?_; rintro ee wu ⟨rfl, hbc⟩; rw [HCV.out]; have HC0 := Lib.hid (HB0.out.up hbc); have HC2 := Lib.hid (HB2.out.up hbc); have hbw1 : Bw w wu := Bw.trans hbw0 hbc; clear hbc x0 x1 x2 y0 y1 y2 y3 u0 u1 u2 z0 z1 z2 hz2; (have x0 := (HC0.out 0 (by simp)).1; have x1 := (HC0.out 1 (by simp)).1; have x2 := (HC0.out 2 (by simp)).1; simp only [List.getElem_cons_zero, List.getElem_cons_succ] at x0 x1 x2); (have u0 := (HC2.out 0 (by simp)).1; have u1 := (HC2.out 1 (by simp)).1; have u2 := (HC2.out 2 (by simp)).1; have z0 := (HC2.out 0 (by simp)).2; have z1 := (HC2.out 1 (by simp)).2; have z2 := (HC2.out 2 (by simp)).2; simp only [List.getElem_cons_zero, List.getElem_cons_succ] at u0 u1 u2); have hz2 := HC2.out.lt (by simp))
          | fail)
        refine bodyPost_ret (by simp [results, Try.results25, go_sem, u0, u1, u2, z0, z1, z2]; rfl) rfl ?_
        exact ⟨A, n, c, rfl, HR.out.up BWX, hn, hc, BWX⟩
theorem rscroll_any (R C : Int) (A : Option Addr) (n c : Nat) (cs : List C4) (tp bt num d1 d2 d3 d4 : Int) (w : World) (hr : Rg w A n cs) (hn : n ≤ c) (hc : c ≤ 9223372036854775807) :
    Calls Try.prog 25 #[.agg #[.int .i64 R, .int .i64 C, .slice A n c], .int .i64 tp, .int .i64 bt, .int .i64 num, .agg #[.int .i64 d1, .int .i64 d2, .int .i64 d3, .int .i64 d4]] w (GrP w R C (scrollG R C cs tp bt num (d1, d2, d3, d4))) := by
  by_cases h : gridB R C cs = true ∧ cellB (d1, d2, d3, d4) = true ∧ (0 ≤ tp ∧ tp ≤ bt ∧ bt < R)
  · rw [show scrollG R C cs tp bt num (d1, d2, d3, d4) = _ from if_pos h]
    obtain ⟨Rn, Cn, rfl, rfl, h1, h2, h3, h4, hl, -⟩ := gridB_out h.1
    rw [Int.toNat_natCast, Int.toNat_natCast]
    exact (rscroll_go Rn Cn A n c cs tp bt num d1 d2 d3 d4 w h1 h2 h3 h4 (by rw [← hr.1]; exact hl) hr hn hc h.1 h.2.1 h.2.2.1 h.2.2.2.1 h.2.2.2.2).mono fun _ _ h9 => h9.toP
  · rw [show scrollG R C cs tp bt num (d1, d2, d3, d4) = _ from if_neg h]
    exact rscroll_no R C A n c cs tp bt num d1 d2 d3 d4 w hr hn hc h
def shiftG (R C : Int) (cs : List C4) (row col num : Int) (d : C4) : List C4 := if gridB R C cs = true ∧ cellB d = true ∧ (0 ≤ row ∧ row < R ∧ 0 ≤ col ∧ col < C) then tab R.toNat C.toNat (shiftF R.toNat C.toNat cs row col (clampS C.toNat num) d) else cs
set_option maxRecDepth 100000 in
set_option maxHeartbeats 4000000 in
theorem rshift_no (R C : Int) (A : Option Addr) (n c : Nat) (cs : List C4) (row col num d1 d2 d3 d4 : Int) (w : World) (hr : Rg w A n cs) (hn : n ≤ c) (hc : c ≤ 9223372036854775807) (h : ¬ (gridB R C cs = true ∧ cellB (d1, d2, d3, d4) = true ∧ (0 ≤ row ∧ row < R ∧ 0 ≤ col ∧ col < C))) :
    Calls Try.prog 27 #[.agg #[.int .i64 R, .int .i64 C, .slice A n c], .int .i64 row, .int .i64 col, .int .i64 num, .agg #[.int .i64 d1, .int .i64 d2, .int .i64 d3, .int .i64 d4]] w (GrP w R C cs) := by
  have HR := Lib.hid hr
  clear hr
  cases hv : gridB R C cs
  · have HV := Lib.hid hv
    clear h
    go_enter Try.func27, Try.ntmps27
    go_wp2_with (first
      | (go_at_call 12; refine (rgvalid_any _ _ _ _ _ cs _ (by exact HR.out.up BWX) hn hc).mono ?_; rintro ee wv ⟨rfl, hbv⟩; rw [HV.out]; have HB0 := Lib.hid (((Bx.lit (w := w) (cs := #[.int .i64 R, .int .i64 C, .slice A n c]) (T := 25) rfl rfl).up (show Bw _ (((w.alloc _).alloc _).alloc _) from BWX)).up hbv); have HB1 := Lib.hid (((Bx.lit (w := w.alloc (.cells #[.int .i64 R, .int .i64 C, .slice A n c] 25)) (g := w.heap.size + 1) (cs := #[.int .i64 d1, .int .i64 d2, .int .i64 d3, .int .i64 d4]) (T := 39) SZX rfl).up (show Bw _ (((w.alloc _).alloc _).alloc _) from BWX)).up hbv); have HB2 := Lib.hid ((Bx.lit (w := (w.alloc (.cells #[.int .i64 R, .int .i64 C, .slice A n c] 25)).alloc (.cells #[.int .i64 d1, .int .i64 d2, .int .i64 d3, .int .i64 d4] 39)) (g := w.heap.size + 1 + 1) (cs := #[.int .i64 0, .int .i64 0, .slice none 0 0]) (T := 25) SZX rfl).up hbv); have hbw0 : Bw w wv := Bw.trans (show Bw w _ from BWX) hbv; (have x0 := (HB0.out 0 (by simp)).1; have x1 := (HB0.out 1 (by simp)).1; have x2 := (HB0.out 2 (by simp)).1; simp only [List.getElem_cons_zero, List.getElem_cons_succ] at x0 x1 x2); (have y0 := (HB1.out 0 (by simp)).1; have y1 := (HB1.out 1 (by simp)).1; have y2 := (HB1.out 2 (by simp)).1; have y3 := (HB1.out 3 (by simp)).1; simp only [List.getElem_cons_zero, List.getElem_cons_succ] at y0 y1 y2 y3); (have u0 := (HB2.out 0 (by simp)).1; have u1 := (HB2.out 1 (by simp)).1; have u2 := (HB2.out 2 (by simp)).1; have z0 := (HB2.out 0 (by simp)).2; have z1 := (HB2.out 1 (by simp)).2; have z2 := (HB2.out 2 (by simp)).2; simp only [List.getElem_cons_zero, List.getElem_cons_succ] at u0 u1 u2); have hz2 := HB2.out.lt (by simp); clear hbv)
      | (go_at_call 33; refine (rcell_any d1 d2 d3 d4 _).mono ?_; rintro ee wu ⟨rfl, hbc⟩; rw [HCV.out]; have HC0 := Lib.hid (HB0.out.up hbc); have HC2 := Lib.hid (HB2.out.up hbc); have hbw1 : Bw w wu := Bw.trans hbw0 hbc; clear hbc x0 x1 x2 y0 y1 y2 y3 u0 u1 u2 z0 z1 z2 hz2; (have x0 := (HC0.out 0 (by simp)).1; have x1 := (HC0.out 1 (by simp)).1; have x2 := (HC0.out 2 (by simp)).1; simp only [List.getElem_cons_zero, List.getElem_cons_succ] at x0 x1 x2); (have u0 := (HC2.out 0 (by simp)).1; have u1 := (HC2.out 1 (by simp)).1; have u2 := (HC2.out 2 (by simp)).1; have z0 := (HC2.out 0 (by simp)).2; have z1 := (HC2.out 1 (by simp)).2; have z2 := (HC2.out 2 (by simp)).2; simp only [List.getElem_cons_zero, List.getElem_cons_succ] at u0 u1 u2); have hz2 := HC2.out.lt (by simp))
      | fail)
    refine bodyPost_ret (by simp [results, Try.results27, go_sem, u0, u1, u2, z0, z1, z2]; rfl) rfl ?_
    exact ⟨A, n, c, rfl, HR.out.up BWX, hn, hc, BWX⟩
  · have HV := Lib.hid hv
    cases hcv : cellB (d1, d2, d3, d4)
    · have HCV := Lib.hid hcv
      clear h
      go_enter Try.func27, Try.ntmps27
      go_wp2_with (first
        | (go_at_call 12; refine (rgvalid_any _ _ _ _ _ cs _ (by exact HR.out.up BWX) hn hc).mono ?_; rintro ee wv ⟨rfl, hbv⟩; rw [HV.out]; have HB0 := Lib.hid (((Bx.lit (w := w) (cs := #[.int .i64 R, .int .i64 C, .slice A n c]) (T := 25) rfl rfl).up (show Bw _ (((w.alloc _).alloc _).alloc _) from BWX)).up hbv); have HB1 := Lib.hid (((Bx.lit (w := w.alloc (.cells #[.int .i64 R, .int .i64 C, .slice A n c] 25)) (g := w.heap.size + 1) (cs := #[.int .i64 d1, .int .i64 d2, .int .i64 d3, .int .i64 d4]) (T := 39) SZX rfl).up (show Bw _ (((w.alloc _).alloc _).alloc _) from BWX)).up hbv); have HB2 := Lib.hid ((Bx.lit (w := (w.alloc (.cells #[.int .i64 R, .int .i64 C, .slice A n c] 25)).alloc (.cells #[.int .i64 d1, .int .i64 d2, .int .i64 d3, .int .i64 d4] 39)) (g := w.heap.size + 1 + 1) (cs := #[.int .i64 0, .int .i64 0, .slice none 0 0]) (T := 25) SZX rfl).up hbv); have hbw0 : Bw w wv := Bw.trans (show Bw w _ from BWX) hbv; (have x0 := (HB0.out 0 (by simp)).1; have x1 := (HB0.out 1 (by simp)).1; have x2 := (HB0.out 2 (by simp)).1; simp only [List.getElem_cons_zero, List.getElem_cons_succ] at x0 x1 x2); (have y0 := (HB1.out 0 (by simp)).1; have y1 := (HB1.out 1 (by simp)).1; have y2 := (HB1.out 2 (by simp)).1; have y3 := (HB1.out 3 (by simp)).1; simp only [List.getElem_cons_zero, List.getElem_cons_succ] at y0 y1 y2 y3); (have u0 := (HB2.out 0 (by simp)).1; have u1 := (HB2.out 1 (by simp)).1; have u2 := (HB2.out 2 (by simp)).1; have z0 := (HB2.out 0 (by simp)).2; have z1 := (HB2.out 1 (by simp)).2; have z2 := (HB2.out 2 (by simp)).2; simp only [List.getElem_cons_zero, List.getElem_cons_succ] at u0 u1 u2); have hz2 := HB2.out.lt (by simp); clear hbv)
        | (go_at_call 33; refine (rcell_any d1 d2 d3 d4 _).mono ?_; rintro ee wu ⟨rfl, hbc⟩; rw [HCV.out]; have HC0 := Lib.hid (HB0.out.up hbc); have HC2 := Lib.hid (HB2.out.up hbc); have hbw1 : Bw w wu := Bw.trans hbw0 hbc; clear hbc x0 x1 x2 y0 y1 y2 y3 u0 u1 u2 z0 z1 z2 hz2; (have x0 := (HC0.out 0 (by simp)).1; have x1 := (HC0.out 1 (by simp)).1; have x2 := (HC0.out 2 (by simp)).1; simp only [List.getElem_cons_zero, List.getElem_cons_succ] at x0 x1 x2); (have u0 := (HC2.out 0 (by simp)).1; have u1 := (HC2.out 1 (by simp)).1; have u2 := (HC2.out 2 (by simp)).1; have z0 := (HC2.out 0 (by simp)).2; have z1 := (HC2.out 1 (by simp)).2; have z2 := (HC2.out 2 (by simp)).2; simp only [List.getElem_cons_zero, List.getElem_cons_succ] at u0 u1 u2); have hz2 := HC2.out.lt (by simp))
        | fail)
      refine bodyPost_ret (by simp [results, Try.results27, go_sem, u0, u1, u2, z0, z1, z2]; rfl) rfl ?_
      exact ⟨A, n, c, rfl, HR.out.up BWX, hn, hc, BWX⟩
    · have HCV := Lib.hid hcv
      have hw : (row < 0) ∨ (0 ≤ row ∧ R ≤ row) ∨ ((0 ≤ row ∧ row < R) ∧ col < 0) ∨ ((0 ≤ row ∧ row < R) ∧ 0 ≤ col ∧ C ≤ col) := by
        rw [hv, hcv] at h
        simp only [true_and] at h
        omega
      clear h hv hcv
      rcases hw with h | ⟨h, h2⟩ | ⟨⟨h, h2⟩, h3⟩ | ⟨⟨h, h2⟩, h3, h4⟩
      all_goals
        go_enter Try.func27, Try.ntmps27
        go_wp2_with (first
          | (go_at_call 12; refine (rgvalid_any _ _ _ _ _ cs _ (by exact HR.out.up BWX) hn hc).mono ?_; rintro ee wv ⟨rfl, hbv⟩; rw [HV.out]; have HB0 := Lib.hid (((Bx.lit (w := w) (cs := #[.int .i64 R, .int .i64 C, .slice A n c]) (T := 25) rfl rfl).up (show Bw _ (((w.alloc _).alloc _).alloc _) from BWX)).up hbv); have HB1 := Lib.hid (((Bx.lit (w := w.alloc (.cells #[.int .i64 R, .int .i64 C, .slice A n c] 25)) (g := w.heap.size + 1) (cs := #[.int .i64 d1, .int .i64 d2, .int .i64 d3, .int .i64 d4]) (T := 39) SZX rfl).up (show Bw _ (((w.alloc _).alloc _).alloc _) from BWX)).up hbv); have HB2 := Lib.hid ((Bx.lit (w := (w.alloc (.cells #[.int .i64 R, .int .i64 C, .slice A n c] 25)).alloc (.cells #[.int .i64 d1, .int .i64 d2, .int .i64 d3, .int .i64 d4] 39)) (g := w.heap.size + 1 + 1) (cs := #[.int .i64 0, .int .i64 0, .slice none 0 0]) (T := 25) SZX rfl).up hbv); have hbw0 : Bw w wv := Bw.trans (show Bw w _ from BWX) hbv; (have x0 := (HB0.out 0 (by simp)).1; have x1 := (HB0.out 1 (by simp)).1; have x2 := (HB0.out 2 (by simp)).1; simp only [List.getElem_cons_zero, List.getElem_cons_succ] at x0 x1 x2); (have y0 := (HB1.out 0 (by simp)).1; have y1 := (HB1.out 1 (by simp)).1; have y2 := (HB1.out 2 (by simp)).1; have y3 := (HB1.out 3 (by simp)).1; simp only [List.getElem_cons_zero, List.getElem_cons_succ] at y0 y1 y2 y3); (have u0 := (HB2.out 0 (by simp)).1; have u1 := (HB2.out 1 (by simp)).1; have u2 := (HB2.out 2 (by simp)).1; have z0 := (HB2.out 0 (by simp)).2; have z1 := (HB2.out 1 (by simp)).2; have z2 := (HB2.out 2 (by simp)).2; simp only [List.getElem_cons_zero, List.getElem_cons_succ] at u0 u1 u2); have hz2 := HB2.out.lt (by simp); clear hbv)
          | (go_at_call 33; refine (rcell_any d1 d2 d3 d4 _).mono ?_; rintro ee wu ⟨rfl, hbc⟩; rw [HCV.out]; have HC0 := Lib.hid (HB0.out.up hbc); have HC2 := Lib.hid (HB2.out.up hbc); have hbw1 : Bw w wu := Bw.trans hbw0 hbc; clear hbc x0 x1 x2 y0 y1 y2 y3 u0 u1 u2 z0 z1 z2 hz2; (have x0 := (HC0.out 0 (by simp)).1; have x1 := (HC0.out 1 (by simp)).1; have x2 := (HC0.out 2 (by simp)).1; simp only [List.getElem_cons_zero, List.getElem_cons_succ] at x0 x1 x2); (have u0 := (HC2.out 0 (by simp)).1; have u1 := (HC2.out 1 (by simp)).1; have u2 := (HC2.out 2 (by simp)).1; have z0 := (HC2.out 0 (by simp)).2; have z1 := (HC2.out 1 (by simp)).2; have z2 := (HC2.out 2 (by simp)).2; simp only [List.getElem_cons_zero, List.getElem_cons_succ] at u0 u1 u2); have hz2 := HC2.out.lt (by simp))
          | fail)
        refine bodyPost_ret (by simp [results, Try.results27, go_sem, u0, u1, u2, z0, z1, z2]; rfl) rfl ?_
        exact ⟨A, n, c, rfl, HR.out.up BWX, hn, hc, BWX⟩
theorem rshift_any (R C : Int) (A : Option Addr) (n c : Nat) (cs : List C4) (row col num d1 d2 d3 d4 : Int) (w : World) (hr : Rg w A n cs) (hn : n ≤ c) (hc : c ≤ 9223372036854775807) :
    Calls Try.prog 27 #[.agg #[.int .i64 R, .int .i64 C, .slice A n c], .int .i64 row, .int .i64 col, .int .i64 num, .agg #[.int .i64 d1, .int .i64 d2, .int .i64 d3, .int .i64 d4]] w (GrP w R C (shiftG R C cs row col num (d1, d2, d3, d4))) := by
  by_cases h : gridB R C cs = true ∧ cellB (d1, d2, d3, d4) = true ∧ (0 ≤ row ∧ row < R ∧ 0 ≤ col ∧ col < C)
  · rw [show shiftG R C cs row col num (d1, d2, d3, d4) = _ from if_pos h]
    obtain ⟨Rn, Cn, rfl, rfl, h1, h2, h3, h4, hl, -⟩ := gridB_out h.1
    rw [Int.toNat_natCast, Int.toNat_natCast]
    exact (rshift_go Rn Cn A n c cs row col num d1 d2 d3 d4 w h1 h2 h3 h4 (by rw [← hr.1]; exact hl) hr hn hc h.1 h.2.1 h.2.2.1 h.2.2.2.1 h.2.2.2.2.1 h.2.2.2.2.2).mono fun _ _ h9 => h9.toP
  · rw [show shiftG R C cs row col num (d1, d2, d3, d4) = _ from if_neg h]
    exact rshift_no R C A n c cs row col num d1 d2 d3 d4 w hr hn hc h
end Go.Proofs.Ytccfpehcadpkiaa

/- Walks of cursor.Valid, cursor.right, cursor.tab, cursor.Move and of their references: each returns what the plain function mv says. -/
namespace Go.Proofs.Ytccfpehcadpkiaa
open Go.RowKit

def vldB (r c rows cols : Int) : Bool := decide (0 ≤ r ∧ r < rows ∧ 0 ≤ c ∧ c < cols)
def rgtB (t b rows : Int) : Bool := decide (0 ≤ t ∧ t ≤ b ∧ b < rows)

def tabN (c k cols : Int) : Int := if (cols - 1) / 8 - c / 8 < k then cols - 1 else (c / 8 + k) * 8
def mv (r c : Int) (b : Bool) (kind n t m rows cols : Int) : Int × Int × Bool :=
  if vldB r c rows cols && rgtB t m rows then
    if kind = 1 then (r - min (max n 1) (r - (if t ≤ r then t else 0)), c, false)
    else if kind = 2 then (r + min (max n 1) ((if r ≤ m then m else rows - 1) - r), c, false)
    else if kind = 3 then (r, c + min (max n 1) (cols - 1 - c), false)
    else if kind = 4 then (r, c - min (max n 1) c, false)
    else if kind = 5 then (r, 0, false)
    else if kind = 6 then (r, min (max n 0) (cols - 1), false)
    else if kind = 7 then (min (max n 0) (rows - 1), c, false)
    else if kind = 8 then (r, tabN c (max n 1) cols, false)
    else (r, c, b)
  else (r, c, b)
def curV (x : Int × Int × Bool) : Value := .agg #[.int .i64 x.1, .int .i64 x.2.1, .bool x.2.2]

theorem curV_ext {a c : Int} {b : Bool} {x : Int × Int × Bool} (h1 : a = x.1) (h2 : c = x.2.1) (h3 : b = x.2.2) : Ending.returned (.agg #[.int .i64 a, .int .i64 c, .bool b]) = .returned (curV x) := by
  subst h1; subst h2; subst h3; rfl

theorem mv_other {r c : Int} {b : Bool} {kind n t m rows cols : Int} (h : kind < 1 ∨ 8 < kind) : mv r c b kind n t m rows cols = (r, c, b) := by
  unfold mv
  simp only [show kind ≠ 1 from by omega, show kind ≠ 2 from by omega, show kind ≠ 3 from by omega, show kind ≠ 4 from by omega, show kind ≠ 5 from by omega, show kind ≠ 6 from by omega, show kind ≠ 7 from by omega, show kind ≠ 8 from by omega, if_false, ite_self]
end Go.Proofs.Ytccfpehcadpkiaa

/- Walks of the reference's Valid and Right. -/
namespace Go.Proofs.Ytccfpehcadpkiaa
open Go.RowKit

theorem rcvalid_any (r c rows cols : Int) (b : Bool) (w : World) :
    Calls Try.prog 72 #[.agg #[.int .i64 r, .int .i64 c, .bool b], .int .i64 rows, .int .i64 cols] w fun e w' => e = .returned (.bool (vldB r c rows cols)) ∧ w.alloc (.cells #[.int .i64 r, .int .i64 c, .bool b] 53) = w' := by
  go_enter Try.func72, Try.ntmps72
  go_wp2
  all_goals go_ret
  all_goals refine ⟨ret_bool ?_, rfl⟩
  all_goals (rw [Bool.eq_iff_iff]; simp [vldB]; omega)

theorem rright_any (t b rows : Int) (w : World) :
    Calls Try.prog 73 #[.agg #[.int .i64 t, .int .i64 b], .int .i64 rows] w fun e w' => e = .returned (.bool (rgtB t b rows)) ∧ w.alloc (.cells #[.int .i64 t, .int .i64 b] 55) = w' := by
  go_enter Try.func73, Try.ntmps73
  go_wp2
  all_goals go_ret
  all_goals refine ⟨ret_bool ?_, rfl⟩
  all_goals (rw [Bool.eq_iff_iff]; simp [rgtB]; omega)

end Go.Proofs.Ytccfpehcadpkiaa
