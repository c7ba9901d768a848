/- The program's Resize. -/
import Derived.Test.YtccfpehcadpkiaaM34
import Derived.Test.YtccfpehcadpkiaaM19
set_option linter.unusedSimpArgs false
set_option linter.unusedVariables false
namespace Go.Proofs.Ytccfpehcadpkiaa
open Go.RowKit
theorem tkY {p : Prop} (h : p := by intro w hSw; (try dsimp only at hSw); go_simp; try with_reducible rfl) : p := h
theorem tkQ {P : Program} {ops : Array Oper} {Q : Exit → Act → World → Prop} {md : Region.Mode} {S : World → Prop} (i : Nat) {oi : Oper} {v : Value} {fuel : Nat} {listed : Array Bool} {a : Act} {w : World} (hi : ops[i]? = some oi) (hy : YieldsIf P ops S oi v a)
  (h : wpAnyH P md ops Q S fuel (listed.setIfInBounds i true) (a.put oi.dst v) w) (hs : Region.noSelect ops = true := by kernel_rfl) (hf : Region.free md ops listed i = true := by kernel_rfl) (hr : (Region.ready md ops listed).contains i = true := by kernel_rfl)
  (hQ : ∀ c a w, Q (.panic c) (a.put oi.dst v) w → Q (.panic c) a w := by exact fun _ _ _ h => h) (hS : S w := by assumption) : wpAnyH P md ops Q S (fuel + 1) listed a w := wpAnyH_take hi hs hf hr hQ hy hS h

theorem Rg.lt0 {w : World} {A : Option Addr} {n : Nat} {cs : List C4} (h : Rg w A n cs) (h0 : 0 < cs.length) : ∀ ad, A = some ad → ad.block < w.heap.size := fun ad e => by
 obtain ⟨g, o, e2, hx⟩ := h.2 (by have := h.1; omega)
 rw [e2] at e
 cases e
 simpa using lt_of_cell (hx 0 h0).1
set_option maxRecDepth 100000 in
set_option maxHeartbeats 8000000 in
theorem gresize_no (R C : Int) (A : Option Addr) (n c : Nat) (cs : List C4) (rows cols : Int) (w : World) (hr : Rg w A n cs) (hn : n ≤ c) (hn3 : n ≤ 4398046511103) (hc : c ≤ 9223372036854775807) (hv : gridB R C cs = false) :
  Calls Try.prog 28 #[.agg #[.int .i64 R, .int .i64 C, .slice A n c], .int .i64 rows, .int .i64 cols] w (GrN w R C cs) := by
 have HR := Lib.hid hr
 have HV := Lib.hid hv
 clear hr hv
 go_enter Try.func28, Try.ntmps28
 go_upto_region 1 with (fail)
 generalize hw1 : (w.alloc (.cells #[.int .i64 R, .int .i64 C, .slice A n c] 25)).alloc _ = w1
 obtain ⟨hb0, hb1, hbw, hz⟩ := sb2 hw1
 have HB0 := Lib.hid hb0
 have HB1 := Lib.hid (show ∃ old, Sb w1 (w.heap.size + 1) old 25 ∧ old.size = 3 from ⟨_, hb1, rfl⟩)
 have hz1 : w.heap.size + 1 < w1.heap.size := by omega
 clear hw1 hb0 hb1 hz
 have x0 := HB0.out.cell 0 (v := .int .i64 R) rfl
 have x1 := HB0.out.cell 1 (v := .int .i64 C) rfl
 have x2 := HB0.out.cell 2 (v := .slice A n c) rfl
 go_upto_region 3 with (first
  | (go_at_call 11; refine (ggvalid_any R C A n c cs _ (by exact HR.out.up BWX) hn hc).mono ?_; rintro ee wv ⟨rfl, hbv⟩; rw [HV.out]; clear x0 x1 x2; have x2 := (HB0.out.up hbv).cell 2 (v := .slice A n c) rfl; have f2 := (HB0.out.up hbv).free 2; have hb1k := hbv; have hzv := hbv.size)
  | (go_at_call 34; refine (gclone_any A n c cs _ (by exact HR.out.up BWX) hn hn3 hc).mono ?_; rintro ee wk ⟨vk, rfl, hown, hbk⟩; have hzk := hbk.size; have hb1q := Bw.trans hb1k hbk; clear x2 f2; have x2 := (HB0.out.up hb1q).cell 2 (v := .slice A n c) rfl; have f2 := (HB0.out.up hb1q).free 2; obtain ⟨Ak, ck, rfl, hkc, hkm⟩ := own_form hown; have HOWN := Lib.hid (own_mono hown (show w.heap.size + 2 ≤ _ by omega)); clear hown)
  | fail)
 have hbq := hb1q
 have HB0k := Lib.hid (HB0.out.up hbq)
 have HB1k := Lib.hid (Exists.elim HB1.out (fun old h => (⟨old, h.1.up hbq, h.2⟩ : ∃ old, Sb wk (w.heap.size + 1) old 25 ∧ old.size = 3)))
 have hbwk : Bw w wk := Bw.trans hbw hbq
 have hzk3 : w.heap.size + 1 < wk.heap.size := by have := hbq.size; omega
 clear x2 f2
 generalize hw3 : World.setCell wk ⟨w.heap.size, 2, none⟩ (.slice Ak n ck) = w3
 have HS3 := Lib.hid (show Sb w3 w.heap.size (grV R C Ak n ck) 25 from by rw [← hw3]; exact HB0k.out.set 2 _ rfl)
 have hg3 : wk.grownBy w3 (some w.heap.size) := by rw [← hw3]; exact grown_set (grown_refl wk _) _ _
 have HO3 := Lib.hid (show w3.ownsRow (w.heap.size + 2) 39 4 (.slice Ak n ck) n (flat cs) from by rw [← hw3]; exact own_set_below HOWN.out (by omega) _)
 have HB13 := Lib.hid (Exists.elim HB1k.out (fun old h => (⟨old, h.1.far hg3 (by intro e; have := Option.some.inj e; omega), h.2⟩ : ∃ old, Sb w3 (w.heap.size + 1) old 25 ∧ old.size = 3)))
 have hbw3 : Bw w w3 := Bw.grown hbwk hg3 (fun k hk => by cases hk; omega)
 have hz3 : w.heap.size + 1 < w3.heap.size := by have := hg3.size; omega
 clear hw3 hg3 HOWN HB0k HB1k hb1q hbq
 have z0 := HS3.out.cell 0 (v := .int .i64 R) rfl
 have z1 := HS3.out.cell 1 (v := .int .i64 C) rfl
 have z2 := HS3.out.cell 2 (v := .slice Ak n ck) rfl
 go_wp2_with (first
  | ((with_reducible refine wpList_store_gr R C Ak n ck (w.heap.size + 1) (.tmp 6) (.tmp 16) rfl rfl ?_ ?_ ?_ ?_); (focus rfl); (focus rfl); (focus (exact HB13.out)); intro w4 hS4 hg4; have HS4 := Lib.hid hS4; have HG4 := Lib.hid hg4; clear hS4 hg4)
  | fail)
 refine bodyPost_ret (results_gr rfl _ _ (w.heap.size + 1) R C Ak n ck (by rfl) HS4.out) rfl ?_
 have hO4 := HO3.out.kept HG4.out (.inr (fun e => by have := (HO3.out.lt _ e).1; omega))
 exact ⟨Ak, n, ck, rfl, Rg.of_own hO4, hkc, hkm, (fun ad e => by have := own_new hO4 ad e; omega), Bw.grown hbw3 HG4.out (fun k hk => by cases hk; omega)⟩

/-- The grid R' x C' in box g7, its m first rows copied. -/
def RzR (w : World) (Rn Cn : Nat) (A : Option Addr) (n c : Nat) (cs : List C4) (g7 gp R' C' n2 c2 m : Nat) (sp : List Value) (wr : World) : Prop :=
 Sb wr w.heap.size (grV Rn Cn A n c) 25 ∧ Sb wr g7 (grV R' C' (some ⟨gp, 0, none⟩) n2 c2) 25 ∧ (∃ old, Sb wr (w.heap.size + 1) old 25 ∧ old.size = 3) ∧ Wc wr gp (rowsTo R' C' m (resF Rn Cn cs)) sp ∧ Rg wr A n cs ∧ Bw w wr

set_option maxRecDepth 100000 in
set_option maxHeartbeats 8000000 in
theorem gresize_go (Rn Cn : Nat) (A : Option Addr) (n c : Nat) (cs : List C4) (rows cols : Int) (w : World) (hr : Rg w A n cs) (hn : n ≤ c) (hc : c ≤ 9223372036854775807) (hR1 : 1 ≤ Rn) (hR2 : Rn ≤ 30) (hC1 : 1 ≤ Cn) (hC2 : Cn ≤ 100) (hl : cs.length = Rn * Cn) (hv : gridB Rn Cn cs = true) :
  Calls Try.prog 28 #[.agg #[.int .i64 (Rn : Int), .int .i64 (Cn : Int), .slice A n c], .int .i64 rows, .int .i64 cols] w (GrN w (clamp rows 30) (clamp cols 100) (tab (clamp rows 30).toNat (clamp cols 100).toNat (resF Rn Cn cs))) := by
 have HR := Lib.hid hr
 have HV := Lib.hid hv
 have HL := Lib.hid hl
 have hcl : 0 < cs.length := by rw [hl]; exact Nat.mul_pos (by omega) (by omega)
 have hAlt := hr.lt0 hcl
 have hnl := hr.1
 have HNL := Lib.hid hnl
 obtain ⟨gs, os, rfl, -⟩ := hr.2 (by omega)
 have hgs : gs < w.heap.size := hAlt _ rfl
 have h1 := clamp_bd rows 30 (by omega)
 have h2 := clamp_bd cols 100 (by omega)
 have HN := Lib.hid (gnew16_own rows cols)
 obtain ⟨R', hR⟩ : ∃ R' : Nat, clamp rows 30 = R' := ⟨(clamp rows 30).toNat, by omega⟩
 obtain ⟨C', hC⟩ : ∃ C' : Nat, clamp cols 100 = C' := ⟨(clamp cols 100).toNat, by omega⟩
 rw [hR] at h1 HN ⊢
 rw [hC] at h2 HN ⊢
 simp only [Int.toNat_natCast]
 clear hR hC hr hv hl hnl hAlt
 obtain ⟨h1, h3⟩ := h1
 obtain ⟨h2, h4⟩ := h2
 obtain ⟨M, hM⟩ : ∃ M : Nat, ((R' : Int) ≤ Rn ∧ M = R') ∨ ((Rn : Int) < R' ∧ M = Rn) := by
  rcases Decidable.em ((Rn : Int) < (R' : Int)) with h | h
  ·exact ⟨Rn, .inr ⟨h, rfl⟩⟩
  ·exact ⟨R', .inl ⟨by omega, rfl⟩⟩
 have hM1 : M ≤ R' := by omega
 have hM2 : M ≤ Rn := by omega
 have HM := Lib.hid hM
 clear hM
 go_enter Try.func28, Try.ntmps28
 go_upto_region 1 with (fail)
 generalize hw1 : (w.alloc (.cells #[.int .i64 (Rn : Int), .int .i64 (Cn : Int), .slice (some ⟨gs, os, none⟩) n c] 25)).alloc _ = w1
 obtain ⟨hb0, hb1, hbw, hz⟩ := sb2 hw1
 have HB0 := Lib.hid hb0
 have HB1 := Lib.hid (show ∃ old, Sb w1 (w.heap.size + 1) old 25 ∧ old.size = 3 from ⟨_, hb1, rfl⟩)
 have hz1 : w.heap.size + 1 < w1.heap.size := by omega
 clear hw1 hb0 hb1 hz
 have x0 := HB0.out.cell 0 (v := .int .i64 (Rn : Int)) rfl
 have x1 := HB0.out.cell 1 (v := .int .i64 (Cn : Int)) rfl
 have x2 := HB0.out.cell 2 (v := .slice (some ⟨gs, os, none⟩) n c) rfl
 go_upto_region 5 with (first
  | (go_at_call 11; refine (ggvalid_any (Rn : Int) (Cn : Int) _ n c cs _ (by exact HR.out.up BWX) hn hc).mono ?_; rintro ee wv ⟨rfl, hbv⟩; rw [HV.out]; clear x0 x1 x2; have hzv := hbv.size)
  | (go_at_call 18; refine (HN.out _).mono ?_; rintro ee w2 ⟨A2, n2, c2, rfl, hown, hn2, hc2, hb2⟩; have hzb2 := hb2.size; have HOWN := Lib.hid hown; clear hown)
  | ((with_reducible refine wpList_store_gr (R' : Int) (C' : Int) A2 n2 c2 w2.heap.size (.tmp 7) (.tmp 19) rfl rfl ?_ ?_ ?_ ?_); (focus rfl); (focus rfl); (focus (exact ⟨_, heap_at rfl, rfl⟩)); intro w3 hS3 hg3; have HS3 := Lib.hid hS3; have HG3 := Lib.hid hg3; clear hS3 hg3)
  | fail)
 have hg3 := HG3.out
 have hb13 : Bw w1 w2 := Bw.trans hbv (by simpa using hb2)
 have hbw2 : Bw w w2 := Bw.trans hbw hb13
 have hb23 : Bw w2 w3 := Bw.grown (show Bw w2 (w2.alloc _) from BWX) hg3 (fun k hk => by cases hk; omega)
 have hw1v : w1.heap.size ≤ wv.heap.size := hzv
 have hown := HOWN.out
 have hlen := hown.1
 rw [flat_len] at hlen
 have hn2' : n2 = R' * C' := by
  have e : (List.replicate ((R' : Int) * (C' : Int)).toNat blk).length = R' * C' := by
   rw [List.length_replicate]
   have : ((R' : Int) * (C' : Int)) = ((R' * C' : Nat) : Int) := by simp
   rw [this]
   rfl
  rw [e] at hlen
  omega
 have hpos : 1 ≤ R' * C' := Nat.mul_pos (by omega) (by omega)
 obtain ⟨gp, sp, rfl, hgp1, hwc⟩ := Wc.of_own hown (by omega)
 have hgp2 := hwc.lt
 have hrep : (List.replicate ((R' : Int) * (C' : Int)).toNat blk) = rowsTo R' C' 0 (resF Rn Cn cs) := by
  rw [rowsTo_zero]
  have : ((R' : Int) * (C' : Int)) = ((R' * C' : Nat) : Int) := by simp
  rw [this]
  rfl
 rw [hrep] at hwc
 have hgpz : w.heap.size + 1 < gp := by first | omega | (simp at hgp1; omega)
 have HST := Lib.hid (show RzR w Rn Cn (some ⟨gs, os, none⟩) n c cs w2.heap.size gp R' C' n2 c2 0 sp w3 from ⟨HB0.out.up (Bw.trans hb13 hb23), HS3.out, Exists.elim HB1.out (fun old h => ⟨old, h.1.up (Bw.trans hb13 hb23), h.2⟩), hwc.up hb23, HR.out.up (Bw.trans hbw2 hb23), Bw.trans hbw2 hb23⟩)
 have hgpg : gp < w2.heap.size := hgp2
 have HN2 := Lib.hid hn2'
 obtain ⟨g7, hg7⟩ : ∃ g7, w2.heap.size = g7 := ⟨_, rfl⟩
 rw [hg7] at HST hgpg
 simp only [hg7]
 have y0 := HST.out.2.1.cell 0 (v := .int .i64 R') rfl
 have z0 := HST.out.1.cell 0 (v := .int .i64 (Rn : Int)) rfl
 clear hn2' hrep hwc hgp1 hgp2 hown hlen hb13 hbw2 hb23 hg3 HS3 HG3 HOWN HB0 HB1 HR hg7 hbv hb2 hzb2 hw1v hzv hz1
 dsimp only [Act.put]
 go_cut [24, 25] (fun s24 s25 w' => s24 = .int .i64 M ∧ s25 = .int .i64 0 ∧ w3 = w')
 case first =>
  go_wp2_with fail
  all_goals
   go_meet
   case rel => exact ⟨congrArg (Value.int .i64) (by have h9 := HM.out; omega), rfl, rfl⟩
 case rest =>
 obtain ⟨rfl, rfl, rfl⟩ := hcut
 clear y0 z0
 go_wp2_with fail
 go_loopw [25] (fun i wr => ∃ k : Nat, i = .int .i64 k ∧ k ≤ M ∧ RzR w Rn Cn (some ⟨gs, os, none⟩) n c cs g7 gp R' C' n2 c2 k sp wr) (fun i _ => M - (intOf i).toNat)
 case atStart => exact ⟨0, rfl, by omega, HST.out⟩
 case round =>
  rename_i wr
  obtain ⟨k, rfl, hk, hS0, hS7, hold, hW, hRg, hbwr⟩ := hrel
  have HS0 := Lib.hid hS0
  have HS7 := Lib.hid hS7
  have HOLD := Lib.hid hold
  have HWC := Lib.hid hW
  have HRG := Lib.hid hRg
  have HBW := Lib.hid hbwr
  clear hS0 hS7 hold hW hRg hbwr
  by_cases hlt : k < M
  ·have hkM : (k : Int) < M := by omega
   obtain ⟨p, hp⟩ : ∃ p : Nat, k * C' = p := ⟨_, rfl⟩
   obtain ⟨p2, hp2⟩ : ∃ p2 : Nat, p + C' = p2 := ⟨_, rfl⟩
   obtain ⟨s, hs⟩ : ∃ s : Nat, k * Cn = s := ⟨_, rfl⟩
   obtain ⟨s2, hs2⟩ : ∃ s2 : Nat, s + Cn = s2 := ⟨_, rfl⟩
   have hpi : (k : Int) * (C' : Int) = (p : Int) := by rw [← hp]; simp
   have hpj : ((k : Int) + 1) * (C' : Int) = (p2 : Int) := by rw [Int.add_mul, hpi, ← hp2]; simp
   have hsi : (k : Int) * (Cn : Int) = (s : Int) := by rw [← hs]; simp
   have hsj : ((k : Int) + 1) * (Cn : Int) = (s2 : Int) := by rw [Int.add_mul, hsi, ← hs2]; simp
   have hp2n : p2 ≤ n2 := by
    have := Nat.mul_le_mul_right C' (show k + 1 ≤ R' by omega)
    rw [HN2.out, ← hp2, ← hp]
    rw [Nat.add_mul, Nat.one_mul] at this
    exact this
   have hs2n : s2 ≤ n := by
    have := Nat.mul_le_mul_right Cn (show k + 1 ≤ Rn by omega)
    rw [← HNL.out, HL.out, ← hs2, ← hs]
    rw [Nat.add_mul, Nat.one_mul] at this
    exact this
   have hpm : p2 ≤ 3000 := by
    have := Nat.mul_le_mul (show k + 1 ≤ 30 by omega) (show C' ≤ 100 by omega)
    rw [Nat.add_mul, Nat.one_mul] at this
    omega
   have hsm : s2 ≤ 3000 := by
    have := Nat.mul_le_mul (show k + 1 ≤ 30 by omega) (show Cn ≤ 100 by omega)
    rw [Nat.add_mul, Nat.one_mul] at this
    omega
   have hpd : p2 - p = C' := by omega
   have hsd : s2 - s = Cn := by omega
   have hb1 : (0 : Int) ≤ (p : Int) := by omega
   have hb2 : (p : Int) ≤ (p2 : Int) := by omega
   have hb3 : (p2 : Int) ≤ (c2 : Int) := by omega
   have hd1 : (0 : Int) ≤ (s : Int) := by omega
   have hd2 : (s : Int) ≤ (s2 : Int) := by omega
   have hd3 : (s2 : Int) ≤ (c : Int) := by omega
   have hcq : ¬ c2 = p := by omega
   have hcq2 : ¬ c = s := by omega
   have hw1 : IntKind.i64.wrap ((k : Int) + 1) = (k : Int) + 1 := IntWalk.i64_in _ (by omega)
   have hw2 : IntKind.i64.wrap (p : Int) = (p : Int) := IntWalk.i64_in _ (by omega)
   have hw3 : IntKind.i64.wrap (p2 : Int) = (p2 : Int) := IntWalk.i64_in _ (by omega)
   have hw4 : IntKind.i64.wrap (s : Int) = (s : Int) := IntWalk.i64_in _ (by omega)
   have hw5 : IntKind.i64.wrap (s2 : Int) = (s2 : Int) := IntWalk.i64_in _ (by omega)
   have hgn : gp ≠ gs := by omega
   have hlens : (rowsTo R' C' k (resF Rn Cn cs)).length = n2 := by rw [rowsTo_len, HN2.out]
   have F1 : (flat ((cs.drop s).take (min Cn C'))).length = Nat.min Cn C' * 4 := by
    have h1 := HNL.out
    rw [flat_len, List.length_take, List.length_drop]
    have e : min (min Cn C') (cs.length - s) = Nat.min Cn C' := by show _ = min Cn C'; omega
    rw [e]
   have F2 : ∀ w', Bw wr w' → ∀ j v, (flat ((cs.drop s).take (min Cn C')))[j]? = some v → w'.cell? ((⟨gs, os + s * 4, none⟩ : Addr).add j) = some v := fun w' hb j v hv => ((HRG.out.up hb).sub s (min Cn C') (by omega)).news j v hv
   have F3 : p * 4 + (flat ((cs.drop s).take (min Cn C'))).length ≤ (flat (rowsTo R' C' k (resF Rn Cn cs)) ++ sp).toArray.size := by
    have h1 := HNL.out
    rw [flat_len, List.length_take, List.length_drop, List.size_toArray, List.length_append, flat_len, hlens]
    omega
   have HF := Lib.hid (And.intro F1 (And.intro F2 F3))
   have HLAW := Lib.hid (show cpyC (rowsTo R' C' k (resF Rn Cn cs)) p cs s (min Cn C') = rowsTo R' C' (k + 1) (resF Rn Cn cs) from by rw [← hp, ← hs]; exact rowsTo_step (by omega) (by omega) (by omega) HL.out)
   have HP := Lib.hid (And.intro hp (And.intro hp2 (And.intro hs (And.intro hs2 hlens))))
   clear F1 F2 F3 hp hp2 hs hs2 hlens
   have HY := Lib.hid (show ∀ w', Bw wr w' → (w'.cell? ⟨g7, 2, none⟩ = some (.slice (some ⟨gp, 0, none⟩) n2 c2) ∧ w'.cell? ⟨g7, 1, none⟩ = some (.int .i64 (C' : Int)) ∧ w'.cell? ⟨w.heap.size, 2, none⟩ = some (.slice (some ⟨gs, os, none⟩) n c) ∧ w'.cell? ⟨w.heap.size, 1, none⟩ = some (.int .i64 (Cn : Int))) from fun w' hb => ⟨(HS7.out.up hb).cell 2 rfl, (HS7.out.up hb).cell 1 rfl, (HS0.out.up hb).cell 2 rfl, (HS0.out.up hb).cell 1 rfl⟩)
   have HYg := Lib.hid (show ∀ w', wr.grownBy w' (some gp) → (w'.cell? ⟨g7, 2, none⟩ = some (.slice (some ⟨gp, 0, none⟩) n2 c2) ∧ w'.cell? ⟨g7, 1, none⟩ = some (.int .i64 (C' : Int)) ∧ w'.cell? ⟨w.heap.size, 2, none⟩ = some (.slice (some ⟨gs, os, none⟩) n c) ∧ w'.cell? ⟨w.heap.size, 1, none⟩ = some (.int .i64 (Cn : Int))) from fun w' hb => ⟨(HS7.out.far hb (by intro e; have := Option.some.inj e; omega)).cell 2 rfl, (HS7.out.far hb (by intro e; have := Option.some.inj e; omega)).cell 1 rfl, (HS0.out.far hb (by intro e; have := Option.some.inj e; omega)).cell 2 rfl, (HS0.out.far hb (by intro e; have := Option.some.inj e; omega)).cell 1 rfl⟩)
   go_upto_region 8 with (fail)
   refine wp_region_held_drew (S := (fun w' => w'.cell? ⟨g7, 2, none⟩ = some (.slice (some ⟨gp, 0, none⟩) n2 c2) ∧ w'.cell? ⟨g7, 1, none⟩ = some (.int .i64 (C' : Int)) ∧ w'.cell? ⟨w.heap.size, 2, none⟩ = some (.slice (some ⟨gs, os, none⟩) n c) ∧ w'.cell? ⟨w.heap.size, 1, none⟩ = some (.int .i64 (Cn : Int)))) (by kernel_rfl) ?_ (fun hHeld => ?_)
   ·(try dsimp only); (first | (exact HYg.out _ ((grown_bw (Bw.drew (Bw.refl wr)) (some gp)).trans HG4.out)) | (refine HY.out _ ?_; (repeat (first | with_reducible (first | assumption | exact Bw.refl _ | refine Bw.alloc ?_ _ | refine Bw.more ?_ _ _ | refine Bw.drew ?_ | refine Bw.drewN ?_ _) | ((with_reducible refine Bw.set2 ?_ ?_ _); (focus exact SZX)) | with_reducible refine Bw.trans ?_ (by assumption))); done))
   refine tkQ 0 rfl (Or.inl ⟨by rfl, tkY⟩) ?_
   refine tkQ 1 rfl (Or.inl ⟨by rfl, tkY⟩) ?_
   refine tkQ 2 rfl (Or.inl ⟨by rfl, tkY⟩) ?_
   (try simp only [Act.put, List.getElem_toArray, List.getElem_cons_zero, List.getElem_cons_succ, List.setIfInBounds_toArray, List.set_cons_zero, List.set_cons_succ])
   refine tkQ 3 rfl (Or.inl ⟨by rfl, tkY⟩) ?_
   refine tkQ 4 rfl (Or.inl ⟨by rfl, tkY⟩) ?_
   refine tkQ 5 rfl (Or.inl ⟨by rfl, tkY⟩) ?_
   (try simp only [Act.put, List.getElem_toArray, List.getElem_cons_zero, List.getElem_cons_succ, List.setIfInBounds_toArray, List.set_cons_zero, List.set_cons_succ])
   refine tkQ 6 rfl (Or.inl ⟨by rfl, tkY⟩) ?_
   refine tkQ 7 rfl (Or.inl ⟨by rfl, tkY⟩) ?_
   refine tkQ 8 rfl (Or.inl ⟨by rfl, tkY⟩) ?_
   (try simp only [Act.put, List.getElem_toArray, List.getElem_cons_zero, List.getElem_cons_succ, List.setIfInBounds_toArray, List.set_cons_zero, List.set_cons_succ])
   refine tkQ 9 rfl (Or.inl ⟨by rfl, tkY⟩) ?_
   refine tkQ 10 rfl (Or.inl ⟨by rfl, tkY⟩) ?_
   refine tkQ 11 rfl (Or.inl ⟨by rfl, tkY⟩) ?_
   (try simp only [Act.put, List.getElem_toArray, List.getElem_cons_zero, List.getElem_cons_succ, List.setIfInBounds_toArray, List.set_cons_zero, List.set_cons_succ])
   refine tkQ 12 rfl (Or.inl ⟨by rfl, tkY⟩) ?_
   refine tkQ 13 rfl (Or.inl ⟨by rfl, tkY⟩) ?_
   refine tkQ 14 rfl (Or.inl ⟨by rfl, tkY⟩) ?_
   (try simp only [Act.put, List.getElem_toArray, List.getElem_cons_zero, List.getElem_cons_succ, List.setIfInBounds_toArray, List.set_cons_zero, List.set_cons_succ])
   refine tkQ 15 rfl (Or.inl ⟨by rfl, tkY⟩) ?_
   refine tkQ 16 rfl (Or.inl ⟨by rfl, tkY⟩) ?_
   refine tkQ 17 rfl (Or.inl ⟨by rfl, tkY⟩) ?_
   (try simp only [Act.put, List.getElem_toArray, List.getElem_cons_zero, List.getElem_cons_succ, List.setIfInBounds_toArray, List.set_cons_zero, List.set_cons_succ])
   refine tkQ 18 rfl (Or.inl ⟨by rfl, tkY⟩) ?_
   refine tkQ 19 rfl (Or.inl ⟨by rfl, tkY⟩) ?_
   refine tkQ 20 rfl (Or.inl ⟨by rfl, tkY⟩) ?_
   (try simp only [Act.put, List.getElem_toArray, List.getElem_cons_zero, List.getElem_cons_succ, List.setIfInBounds_toArray, List.set_cons_zero, List.set_cons_succ])
   refine tkQ 21 rfl (Or.inl ⟨by rfl, tkY⟩) ?_
   refine tkQ 22 rfl (Or.inl ⟨by rfl, tkY⟩) ?_
   refine tkQ 23 rfl (Or.inl ⟨by rfl, tkY⟩) ?_
   (try simp only [Act.put, List.getElem_toArray, List.getElem_cons_zero, List.getElem_cons_succ, List.setIfInBounds_toArray, List.set_cons_zero, List.set_cons_succ])
   refine wpAnyH_ready (rs := [24]) (by kernel_rfl) (by simp) ?_
   refine AllReadyH.cons rfl (fun K hK => ?_) ?_
   ·(refine (if_pos (by kernel_rfl)).mpr ?_); (refine wp_copyS (.tmp 39) (.tmp 51) 23 23 rfl 39 4 Try.underlying23 infoCs gp (p * 4) C' (c2 - p) ⟨gs, os + s * 4, none⟩ Cn (c - s) rfl rfl (flat (rowsTo R' C' k (resF Rn Cn cs)) ++ sp).toArray 39 (HWC.out.up (Bw.drew (Bw.refl wr))) (flat ((cs.drop s).take (min Cn C'))) HF.out.1 (HF.out.2.1 _ (Bw.drew (Bw.refl wr))) HF.out.2.2 (flat_one _) ?_); intro w4 hcell hg4; have HC4 := Lib.hid hcell; have HG4 := Lib.hid hg4; clear hcell hg4
    refine hK.out _ _ ?_ (fun hHeld => ?_)
    ·(try dsimp only); (first | (exact HYg.out _ ((grown_bw (Bw.drew (Bw.refl wr)) (some gp)).trans HG4.out)) | (refine HY.out _ ?_; (repeat (first | with_reducible (first | assumption | exact Bw.refl _ | refine Bw.alloc ?_ _ | refine Bw.more ?_ _ _ | refine Bw.drew ?_ | refine Bw.drewN ?_ _) | ((with_reducible refine Bw.set2 ?_ ?_ _); (focus exact SZX)) | with_reducible refine Bw.trans ?_ (by assumption))); done))
    clear hK K
    (try simp only [Act.put, List.getElem_toArray, List.getElem_cons_zero, List.getElem_cons_succ, List.setIfInBounds_toArray, List.set_cons_zero, List.set_cons_succ])
    refine wpAnyH_done (by kernel_rfl) ?_ _
    go_wp2_with fail
    go_roundw
    case rel =>
     have hgg := (grown_bw (show Bw wr wr.drew from BWX) (some gp)).trans HG4.out
     obtain ⟨q1, q2, q3, q4, q5⟩ := HP.out
     have hq := HNL.out
     have hq2 := HN2.out
     refine ⟨k + 1, by go_num, by omega, HS0.out.far hgg (by intro e; have := Option.some.inj e; omega), HS7.out.far hgg (by intro e; have := Option.some.inj e; omega), Exists.elim HOLD.out (fun old h => ⟨old, h.1.far hgg (by intro e; have := Option.some.inj e; omega), h.2⟩), ?_, HRG.out.far hgg (fun ad e e2 => by cases e; exact hgn (Option.some.inj e2).symm), Bw.grown HBW.out hgg (fun j hj => by cases hj; omega)⟩
     rw [← HLAW.out]
     exact Wc.copied (by rw [q5]; omega) (by omega) HC4.out
    case measure => simp [intOf]; omega
   exact AllReadyH.nil
  ·have hkM : ¬ (k : Int) < M := by omega
   obtain rfl : k = M := by omega
   have hall : rowsTo R' C' k (resF Rn Cn cs) = tab R' C' (resF Rn Cn cs) := rowsTo_all (by omega) (by have := HM.out; omega)
   have HALL := Lib.hid hall
   clear hall
   have y0 := HS7.out.cell 0 (v := .int .i64 R') rfl
   have y1 := HS7.out.cell 1 (v := .int .i64 C') rfl
   have y2 := HS7.out.cell 2 (v := .slice (some ⟨gp, 0, none⟩) n2 c2) rfl
   have hbz := HBW.out.size
   go_wp2_with (first
    | ((with_reducible refine wpList_store_gr (R' : Int) (C' : Int) (some ⟨gp, 0, none⟩) n2 c2 (w.heap.size + 1) (.tmp 6) (.tmp 54) rfl rfl ?_ ?_ ?_ ?_); (focus rfl); (focus rfl); (focus (exact HOLD.out)); intro w4 hS4 hg4; have HS4 := Lib.hid hS4; have HG4 := Lib.hid hg4; clear hS4 hg4)
    | fail)
   refine bodyPost_ret (results_gr rfl _ _ (w.heap.size + 1) R' C' (some ⟨gp, 0, none⟩) n2 c2 (by rfl) HS4.out) rfl ?_
   have hrg := HWC.out.rg
   rw [HALL.out, tab_len, ← HN2.out] at hrg
   exact ⟨_, n2, c2, rfl, hrg.far HG4.out (fun ad e e2 => by cases e; have := Option.some.inj e2; simp at this; omega), hn2, hc2, (fun ad e => by cases e; show w.heap.size ≤ gp; omega), Bw.grown HBW.out HG4.out (fun j hj => by cases hj; omega)⟩

/-- The program's Resize, at whatever arguments. -/
theorem gresize_any (R C : Int) (A : Option Addr) (n c : Nat) (cs : List C4) (rows cols : Int) (w : World) (hr : Rg w A n cs) (hn : n ≤ c) (hn3 : n ≤ 4398046511103) (hc : c ≤ 9223372036854775807) :
  Calls Try.prog 28 #[.agg #[.int .i64 R, .int .i64 C, .slice A n c], .int .i64 rows, .int .i64 cols] w (GrN w (rsR R C cs rows) (rsC R C cs cols) (rsG R C cs rows cols)) := by
 cases hv : gridB R C cs
 ·rw [show rsR R C cs rows = R by unfold rsR; rw [hv]; simp, show rsC R C cs cols = C by unfold rsC; rw [hv]; simp, show rsG R C cs rows cols = cs by unfold rsG; rw [hv]; simp]
  exact gresize_no R C A n c cs rows cols w hr hn hn3 hc hv
 ·rw [show rsR R C cs rows = clamp rows 30 by unfold rsR; rw [if_pos hv], show rsC R C cs cols = clamp cols 100 by unfold rsC; rw [if_pos hv], show rsG R C cs rows cols = tab (clamp rows 30).toNat (clamp cols 100).toNat (resF R.toNat C.toNat cs) by unfold rsG; rw [if_pos hv]]
  obtain ⟨Rn, Cn, rfl, rfl, h1, h2, h3, h4, h5, -⟩ := gridB_out hv
  exact gresize_go Rn Cn A n c cs rows cols w hr hn hc h1 h2 h3 h4 h5 hv
end Go.Proofs.Ytccfpehcadpkiaa
