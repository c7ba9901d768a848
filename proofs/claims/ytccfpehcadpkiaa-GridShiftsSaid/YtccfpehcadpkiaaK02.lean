/- The law GridShifts. -/
import Derived.Test.YtccfpehcadpkiaaM34
import Derived.Deep.RegionHeld3
set_option linter.unusedSimpArgs false
set_option linter.unusedVariables false
namespace Go.Proofs.Ytccfpehcadpkiaa
open Go.RowKit
theorem tkY {p : Prop} (h : p := by intro w hSw; (try dsimp only at hSw); go_simp; try with_reducible rfl) : p := h

theorem tkZ {p : Prop} (h : p := by intro w hSw; (try dsimp only at hSw); go_simp; try with_reducible rfl) : p := h
theorem tkQ {P : Program} {ops : Array Oper} {Q : Exit → Act → World → Prop} {md : Region.Mode} {S : World → Prop} (i : Nat) {oi : Oper} {v : Value} {fuel : Nat} {listed : Array Bool} {a : Act} {w : World} (hi : ops[i]? = some oi) (hy : YieldsIf P ops S oi v a)
  (h : wpAnyH P md ops Q S fuel (listed.setIfInBounds i true) (a.put oi.dst v) w) (hs : Region.noSelect ops = true := by kernel_rfl) (hf : Region.free md ops listed i = true := by kernel_rfl) (hr : (Region.ready md ops listed).contains i = true := by kernel_rfl)
  (hQ : ∀ c a w, Q (.panic c) (a.put oi.dst v) w → Q (.panic c) a w := by exact fun _ _ _ h => h) (hS : S w := by assumption) : wpAnyH P md ops Q S (fuel + 1) listed a w := wpAnyH_take hi hs hf hr hQ hy hS h
theorem atF_get {Rn Cn : Nat} {cs : List C4} {r k : Nat} {d : C4} (hr : r < Rn) (hk : k < Cn) (hl : cs.length = Rn * Cn) : cs[r * Cn + k]? = some (atF Rn Cn cs r k d) := by
 rw [atF_in hr hk hl]
 exact List.getElem?_eq_getElem _
theorem tab_at {Rn Cn r k : Nat} (F : Nat → Nat → C4) (hr : r < Rn) (hk : k < Cn) : (tab Rn Cn F)[r * Cn + k]? = some (F r k) := by
 have h := idx_lt (Rn := Rn) (Cn := Cn) hr hk
 rw [List.getElem?_eq_getElem (by rw [tab_len]; exact h), tab_get, (idx_parts hk).1, (idx_parts hk).2]
theorem atF_tab {Rn Cn r k : Nat} (F : Nat → Nat → C4) (d : C4) (hr : r < Rn) (hk : k < Cn) : atF Rn Cn (tab Rn Cn F) r k d = F r k := by
 have h := atF_get (cs := tab Rn Cn F) (d := d) hr hk (tab_len _ _ _)
 rw [tab_at F hr hk] at h
 exact (Option.some.inj h).symm
/-- A grid shifted, and shifted back. -/
theorem shifts_plain {Rn Cn : Nat} {cs : List C4} {row col n : Nat} {q : C4} (hg : gridB Rn Cn cs = true) (hq : cellB q = true) (hrow : row < Rn) (hcol : col < Cn) (hn : n < Cn + 2) :
  (shiftG Rn Cn cs row col n q).length = Rn * Cn ∧ gridB Rn Cn (shiftG Rn Cn cs row col n q) = true ∧ (shiftG Rn Cn (shiftG Rn Cn cs row col n q) row col (-(n : Int)) q).length = Rn * Cn ∧
  ∀ r k, r < Rn → k < Cn → ∃ g t b, cs[r * Cn + k]? = some g ∧ (shiftG Rn Cn cs row col n q)[r * Cn + k]? = some t ∧ (shiftG Rn Cn (shiftG Rn Cn cs row col n q) row col (-(n : Int)) q)[r * Cn + k]? = some b ∧
   (r = row ∧ col ≤ k ∧ Cn ≤ k + n → b = q) ∧ (¬ (r = row ∧ col ≤ k ∧ Cn ≤ k + n) → b = g) ∧ (r ≠ row ∨ k < col → t = g) ∧ (r = row ∧ col ≤ k ∧ k < col + n → t = q) := by
 obtain ⟨Rm, Cm, e1, e2, h1, h2, h3, h4, hl, hall⟩ := gridB_out hg
 obtain rfl : Rn = Rm := by omega
 obtain rfl : Cn = Cm := by omega
 have hT : shiftG Rn Cn cs row col n q = tab Rn Cn (shiftF Rn Cn cs row col (clampS Cn n) q) := by
  unfold shiftG
  rw [if_pos ⟨hg, hq, by omega, by omega, by omega, by omega⟩]
  simp
 have hgT : gridB Rn Cn (tab Rn Cn (shiftF Rn Cn cs row col (clampS Cn n) q)) = true := gridB_tab h1 h2 h3 h4 (fun r k _ _ => shiftF_ok hall hq r k)
 have hB : shiftG Rn Cn (tab Rn Cn (shiftF Rn Cn cs row col (clampS Cn n) q)) row col (-(n : Int)) q = tab Rn Cn (shiftF Rn Cn (tab Rn Cn (shiftF Rn Cn cs row col (clampS Cn n) q)) row col (clampS Cn (-(n : Int))) q) := by
  unfold shiftG
  rw [if_pos ⟨hgT, hq, by omega, by omega, by omega, by omega⟩]
  simp
 rw [hT]
 rw [hB]
 refine ⟨tab_len _ _ _, hgT, tab_len _ _ _, fun r k hr hk => ?_⟩
 refine ⟨_, _, _, atF_get (d := q) hr hk hl, tab_at _ hr hk, tab_at _ hr hk, ?_⟩
 obtain ⟨z, hz⟩ : ∃ z : Nat, clampS Cn n = z ∧ ((n ≤ Cn ∧ z = n) ∨ (Cn < n ∧ z = Cn)) := by
  unfold clampS
  by_cases h : n ≤ Cn
  ·exact ⟨n, by rw [if_neg (by omega), if_neg (by omega)], .inl ⟨h, rfl⟩⟩
  ·exact ⟨Cn, by rw [if_neg (by omega), if_pos (by omega)], .inr ⟨by omega, rfl⟩⟩
 have hz2 : clampS Cn (-(n : Int)) = -(z : Int) := by
  unfold clampS
  rcases hz.2 with ⟨h, rfl⟩ | ⟨h, rfl⟩
  ·rw [if_neg (by omega), if_neg (by omega)]
  ·rw [if_pos (by omega)]
 obtain ⟨hz1, hzc⟩ := hz
 rw [hz1, hz2]
 have hS : ∀ r' k' : Nat, r' < Rn → k' < Cn → shiftF Rn Cn cs row col z q r' k' = if (r' : Int) = row ∧ (col : Int) ≤ k' then (if (col : Int) ≤ k' - z then atF Rn Cn cs r' (k' - z) q else q) else atF Rn Cn cs r' k' q := fun _ _ _ _ => rfl
 have hlast : shiftF Rn Cn (tab Rn Cn (shiftF Rn Cn cs row col z q)) row col (-(z : Int)) q r k = if (r : Int) = row ∧ (col : Int) ≤ k then (if (col : Int) ≤ k - -(z : Int) then atF Rn Cn (tab Rn Cn (shiftF Rn Cn cs row col z q)) r (k - -(z : Int)) q else q) else atF Rn Cn (tab Rn Cn (shiftF Rn Cn cs row col z q)) r k q := rfl
 have hb1 : (r = row ∧ col ≤ k) → Cn ≤ k + z → shiftF Rn Cn (tab Rn Cn (shiftF Rn Cn cs row col z q)) row col (-(z : Int)) q r k = q := by
  rintro ⟨e, h⟩ h5
  rw [hlast, if_pos (by omega), if_pos (by omega), atF_out (by omega)]
 have hb2 : (r = row ∧ col ≤ k) → k + z < Cn → shiftF Rn Cn (tab Rn Cn (shiftF Rn Cn cs row col z q)) row col (-(z : Int)) q r k = atF Rn Cn cs r k q := by
  rintro ⟨e, h⟩ h5
  rw [hlast, if_pos (by omega), if_pos (by omega), show (k : Int) - -(z : Int) = ((k + z : Nat) : Int) by omega, atF_tab _ _ hr h5, hS r (k + z) hr h5, if_pos (by omega), if_pos (by omega), show ((k + z : Nat) : Int) - (z : Int) = (k : Int) by omega]
 have hb3 : ¬ (r = row ∧ col ≤ k) → shiftF Rn Cn (tab Rn Cn (shiftF Rn Cn cs row col z q)) row col (-(z : Int)) q r k = atF Rn Cn cs r k q := by
  intro h
  rw [hlast, if_neg (by omega), atF_tab _ _ hr hk, hS r k hr hk, if_neg (by omega)]
 refine ⟨fun ⟨a, b, c⟩ => hb1 ⟨a, b⟩ (by omega), fun h => ?_, fun h => ?_, fun ⟨a, b, c⟩ => ?_⟩
 ·by_cases h5 : r = row ∧ col ≤ k
  ·exact hb2 h5 (by omega)
  ·exact hb3 h5
 ·rw [hS r k hr hk, if_neg (by omega)]
 ·rw [hS r k hr hk, if_pos (by omega), if_neg (by omega)]

set_option maxRecDepth 100000 in
set_option maxHeartbeats 8000000 in
theorem shifts16_any (A : Option Addr) (n c : Nat) (xs : List Int) (row col num : Int) (w : World) (hr : RdI w A n xs) (hA : 0 < n → ∀ ad, A = some ad → ad.block < w.heap.size) (hn : n ≤ 9223372036854775807) :
  Calls Try.prog 5 #[.slice A n c, .int .i64 row, .int .i64 col, .int .i64 num] w fun e w' => e = .returned (.bool true) ∧ Bw w w' := by
 have HR := Lib.hid hr
 have HAA := Lib.hid hA
 clear hr hA
 go_enter Try.func5, Try.ntmps5
 go_upto_region 4 with (first
  | (go_at_call 8; refine (sane16_any _).mono ?_; rintro ee ws ⟨rfl, hbs⟩; have hzs := hbs.size)
  | (go_at_call 9; refine (made16_any A n c xs _ (HR.out.up (fun hz ad e => HAA.out hz ad e) hbs) (fun h0 ad e => by have := HAA.out h0 ad e; have := (hbs : Bw w _).size; omega) hn).mono ?_; rintro ee w2 ⟨Rn, Cn, Ag, ng, cg, cs, rfl, ⟨b1, b2, b3, b4⟩, hng, hrg, hgv, hngc, hcg, hnew, hb2⟩; have HRG := Lib.hid hrg; have HGV := Lib.hid hgv; have HNEW := Lib.hid hnew; have HNG := Lib.hid hng; have hbw2 : Bw w w2 := Bw.trans hbs hb2; have hz2 := hb2.size; clear hrg hgv hnew hng)
  | ((with_reducible refine wpList_store_gr (Rn : Int) (Cn : Int) Ag ng cg w2.heap.size (.tmp 9) (.tmp 20) rfl rfl ?_ ?_ ?_ ?_); (focus rfl); (focus rfl); (focus (exact ⟨_, heap_at rfl, rfl⟩)); intro w3 hS3 hg3; have HS3 := Lib.hid hS3; have HG3 := Lib.hid hg3; clear hS3 hg3)
  | fail)
 have hg3 := HG3.out
 have hng := HNG.out
 have hng1 : 1 ≤ ng := by rw [hng]; exact Nat.mul_pos (by omega) (by omega)
 have hng2 : ng ≤ 45 := by rw [hng]; exact Nat.le_trans (Nat.mul_le_mul b2 b4) (by omega)
 have hglt := HRG.out.lt (by have := HRG.out.1; omega)
 have hb23 : Bw w2 w3 := Bw.grown (show Bw w2 (w2.alloc _) from BWX) hg3 (fun k hk => by cases hk; omega)
 have hbw3 : Bw w w3 := Bw.trans hbw2 hb23
 obtain ⟨g, hgg⟩ : ∃ g, w2.heap.size = g := ⟨_, rfl⟩
 rw [hgg] at HS3
 simp only [hgg]
 have HR3 := Lib.hid (HRG.out.up hb23)
 have hgz : w.heap.size ≤ g := by rw [← hgg]; exact hbw2.size
 have hgne : ∀ ad, Ag = some ad → ad.block ≠ g := fun ad e => by have := hglt ad e; omega
 have HNE := Lib.hid hgne
 have hg3z : g < w3.heap.size := HS3.out.lt
 clear hg3 hng hglt hb23 hgg hgne HG3 HRG HNEW hbw2 hz2 hb2 hbs hzs HAA HR
 obtain ⟨r0, hr0⟩ : ∃ q : Nat, row % (Rn : Int) = q := ⟨(row % (Rn : Int)).toNat, by have := Int.emod_nonneg row (show (Rn : Int) ≠ 0 by omega); omega⟩
 have hr0b : r0 < Rn := by have := Int.emod_lt_of_pos row (show (0 : Int) < Rn by omega); omega
 obtain ⟨c0, hc0⟩ : ∃ q : Nat, col % (Cn : Int) = q := ⟨(col % (Cn : Int)).toNat, by have := Int.emod_nonneg col (show (Cn : Int) ≠ 0 by omega); omega⟩
 have hc0b : c0 < Cn := by have := Int.emod_lt_of_pos col (show (0 : Int) < Cn by omega); omega
 obtain ⟨m0, hm0⟩ : ∃ q : Nat, num % ((Cn : Int) + 2) = q := ⟨(num % ((Cn : Int) + 2)).toNat, by have := Int.emod_nonneg num (show (Cn : Int) + 2 ≠ 0 by omega); omega⟩
 have hm0b : m0 < Cn + 2 := by have := Int.emod_lt_of_pos num (show (0 : Int) < (Cn : Int) + 2 by omega); omega
 have HM := Lib.hid (And.intro hr0 (And.intro hc0 hm0))
 have HPL := Lib.hid (shifts_plain (q := (113, 0, 0, 0)) HGV.out (by decide) hr0b hc0b hm0b)
 clear hr0 hc0 hm0
 have hwc2 : IntKind.i64.wrap ((Cn : Int) + 2) = (Cn : Int) + 2 := IntWalk.i64_in _ (by omega)
 have HY := Lib.hid (show ∀ w', Bw w3 w' → (w'.cell? ⟨g, 0, none⟩ = some (.int .i64 (Rn : Int)) ∧ w'.cell? ⟨g, 1, none⟩ = some (.int .i64 (Cn : Int)) ∧ w'.cell? ⟨g, 2, none⟩ = some (.slice Ag ng cg)) from fun w' hb => ⟨(HS3.out.up hb).cell 0 rfl, (HS3.out.up hb).cell 1 rfl, (HS3.out.up hb).cell 2 rfl⟩)
 refine wp_region_held_drew (S := (fun w' => w'.cell? ⟨g, 0, none⟩ = some (.int .i64 (Rn : Int)) ∧ w'.cell? ⟨g, 1, none⟩ = some (.int .i64 (Cn : Int)) ∧ w'.cell? ⟨g, 2, none⟩ = some (.slice Ag ng cg))) (by kernel_rfl) ?_ (fun hHeld => ?_)
 ·(try dsimp only); (refine HY.out _ ?_; exact BWX)
 refine tkQ 0 rfl (Or.inl ⟨by rfl, tkY⟩) ?_
 (try simp only [Act.put, p1, p2, p3, p4, p5, p6])
 refine tkQ 1 rfl (Or.inl ⟨by rfl, tkY⟩) ?_
 (try simp only [Act.put, p1, p2, p3, p4, p5, p6])
 refine tkQ 2 rfl (Or.inl ⟨by rfl, tkY⟩) ?_
 (try simp only [Act.put, p1, p2, p3, p4, p5, p6])
 refine tkQ 4 rfl (Or.inl ⟨by rfl, tkY⟩) ?_
 (try simp only [Act.put, p1, p2, p3, p4, p5, p6])
 refine tkQ 5 rfl (Or.inl ⟨by rfl, tkY⟩) ?_
 (try simp only [Act.put, p1, p2, p3, p4, p5, p6])
 refine tkQ 6 rfl (Or.inl ⟨by rfl, tkY⟩) ?_
 (try simp only [Act.put, p1, p2, p3, p4, p5, p6])
 refine tkQ 8 rfl (Or.inl ⟨by rfl, tkY⟩) ?_
 (try simp only [Act.put, p1, p2, p3, p4, p5, p6])
 refine tkQ 9 rfl (Or.inl ⟨by rfl, tkY⟩) ?_
 (try simp only [Act.put, p1, p2, p3, p4, p5, p6])
 refine tkQ 10 rfl (Or.inl ⟨by rfl, tkY⟩) ?_
 (try simp only [Act.put, p1, p2, p3, p4, p5, p6])
 refine tkQ 11 rfl (Or.inl ⟨by rfl, tkY⟩) ?_
 (try simp only [Act.put, p1, p2, p3, p4, p5, p6])
 refine wpAnyH_ready (rs := [3]) (by kernel_rfl) (by simp) ?_
 refine AllReadyH.cons rfl (fun K hK => ?_) ?_
 ·go_simp
  (try rw [hwc2]); refine (mmod_any _ _ _ (by omega) (by omega)).mono ?_; rintro ee ww ⟨rfl, rfl⟩; (first | rw [HM.out.1] | rw [HM.out.2.1] | rw [HM.out.2.2]); go_wp2_with fail
  refine hK.out _ _ ?_ (fun hHeld => ?_)
  ·(try dsimp only); (refine HY.out _ ?_; exact BWX)
  clear hK K
  (try simp only [Act.put, p1, p2, p3, p4, p5, p6])
  refine wpAnyH_ready (rs := [7]) (by kernel_rfl) (by simp) ?_
  refine AllReadyH.cons rfl (fun K hK => ?_) ?_
  ·go_simp
   (try rw [hwc2]); refine (mmod_any _ _ _ (by omega) (by omega)).mono ?_; rintro ee ww ⟨rfl, rfl⟩; (first | rw [HM.out.1] | rw [HM.out.2.1] | rw [HM.out.2.2]); go_wp2_with fail
   refine hK.out _ _ ?_ (fun hHeld => ?_)
   ·(try dsimp only); (refine HY.out _ ?_; exact BWX)
   clear hK K
   (try simp only [Act.put, p1, p2, p3, p4, p5, p6])
   refine wpAnyH_ready (rs := [12]) (by kernel_rfl) (by simp) ?_
   refine AllReadyH.cons rfl (fun K hK => ?_) ?_
   ·go_simp
    (try rw [hwc2]); refine (mmod_any _ _ _ (by omega) (by omega)).mono ?_; rintro ee ww ⟨rfl, rfl⟩; (first | rw [HM.out.1] | rw [HM.out.2.1] | rw [HM.out.2.2]); go_wp2_with fail
    refine hK.out _ _ ?_ (fun hHeld => ?_)
    ·(try dsimp only); (refine HY.out _ ?_; exact BWX)
    clear hK K
    (try simp only [Act.put, p1, p2, p3, p4, p5, p6])
    refine wpAnyH_ready (rs := [13]) (by kernel_rfl) (by simp) ?_
    refine AllReadyH.cons rfl (fun K hK => ?_) ?_
    ·go_simp
     refine hK.out _ _ ?_ (fun hHeld => ?_)
     ·(try dsimp only); (refine HY.out _ ?_; exact BWX)
     clear hK K
     (try simp only [Act.put, p1, p2, p3, p4, p5, p6])
     refine wpAnyH_ready (rs := [14]) (by kernel_rfl) (by simp) ?_
     refine AllReadyH.cons rfl (fun K hK => ?_) ?_
     ·go_simp
      refine hK.out _ _ ?_ (fun hHeld => ?_)
      ·(try dsimp only); (refine HY.out _ ?_; exact BWX)
      clear hK K
      (try simp only [Act.put, p1, p2, p3, p4, p5, p6])
      refine wpAnyH_ready (rs := [15]) (by kernel_rfl) (by simp) ?_
      refine AllReadyH.cons rfl (fun K hK => ?_) ?_
      ·go_simp
       refine hK.out _ _ ?_ (fun hHeld => ?_)
       ·(try dsimp only); (refine HY.out _ ?_; exact BWX)
       clear hK K
       (try simp only [Act.put, p1, p2, p3, p4, p5, p6])
       refine wpAnyH_done (by kernel_rfl) ?_ _
       obtain ⟨wd, hwd⟩ : ∃ wd, w3.drew = wd := ⟨_, rfl⟩
       have hb3d : Bw w3 wd := by rw [← hwd]; exact BWX
       simp only [hwd]
       go_upto_region 6 with (fail)
       generalize hw4 : wd.alloc _ = w4
       obtain ⟨hbq, hbw4, hz4⟩ := sb1 hw4
       have HBQ := Lib.hid (show Sb w4 wd.heap.size #[.int .i64 113, .int .i64 0, .int .i64 0, .int .i64 0] 39 from hbq)
       have hb34 : Bw w3 w4 := Bw.trans hb3d hbw4
       have HS4 := Lib.hid (HS3.out.up hb34)
       have HR4 := Lib.hid (HR3.out.up hb34)
       have x0 := HS4.out.cell 0 (v := .int .i64 (Rn : Int)) rfl
       have x1 := HS4.out.cell 1 (v := .int .i64 (Cn : Int)) rfl
       have x2 := HS4.out.cell 2 (v := .slice Ag ng cg) rfl
       have q0 := HBQ.out.cell 0 (v := .int .i64 113) rfl
       have q1 := HBQ.out.cell 1 (v := .int .i64 0) rfl
       have q2 := HBQ.out.cell 2 (v := .int .i64 0) rfl
       have q3 := HBQ.out.cell 3 (v := .int .i64 0) rfl
       clear hw4 hbq hwd
       go_upto_region 7 with (first
        | (go_at_call 26; refine (gshift_any Rn Cn Ag ng cg cs r0 c0 m0 113 0 0 0 _ HR4.out hngc (by omega) hcg).mono ?_; rintro ee w5 ⟨A5, n5, c5, rfl, hr5, hn5, hc5, hnew5, hb45⟩; have HR5 := Lib.hid hr5; clear hr5 hnew5 x0 x1 x2 q0 q1 q2 q3)
        | ((with_reducible refine wpList_store_gr (Rn : Int) (Cn : Int) A5 n5 c5 w5.heap.size (.tmp 11) (.tmp 40) rfl rfl ?_ ?_ ?_ ?_); (focus rfl); (focus rfl); (focus (exact ⟨_, heap_at rfl, rfl⟩)); intro w6 hS6 hg6; have HS6 := Lib.hid hS6; have HG6 := Lib.hid hg6; clear hS6 hg6)
        | fail)
       have hb56 : Bw w5 w6 := Bw.grown (show Bw w5 (w5.alloc _) from BWX) HG6.out (fun k hk => by cases hk; omega)
       have hb46 : Bw w4 w6 := Bw.trans hb45 hb56
       obtain rfl : n5 = ng := by have h1 := HR5.out.1; have h2 := HPL.out.1; have h3 := HNG.out; omega
       have HR6 := Lib.hid (HR5.out.up hb56)
       obtain ⟨g11, hg11⟩ : ∃ g11, w5.heap.size = g11 := ⟨_, rfl⟩
       rw [hg11] at HS6
       simp only [hg11]
       have x0 := HS6.out.cell 0 (v := .int .i64 (Rn : Int)) rfl
       have x1 := HS6.out.cell 1 (v := .int .i64 (Cn : Int)) rfl
       have x2 := HS6.out.cell 2 (v := .slice A5 n5 c5) rfl
       have q0 := (HBQ.out.up hb46).cell 0 (v := .int .i64 113) rfl
       have q1 := (HBQ.out.up hb46).cell 1 (v := .int .i64 0) rfl
       have q2 := (HBQ.out.up hb46).cell 2 (v := .int .i64 0) rfl
       have q3 := (HBQ.out.up hb46).cell 3 (v := .int .i64 0) rfl
       clear HG6 hg11
       go_upto_region 8 with (first
        | (go_at_call 26; refine (gshift_any Rn Cn A5 n5 c5 _ r0 c0 (-(m0 : Int)) 113 0 0 0 _ HR6.out hn5 (by omega) hc5).mono ?_; rintro ee w7 ⟨A7, n7, c7, rfl, hr7, hn7, hc7, hnew7, hb67⟩; have HR7 := Lib.hid hr7; clear hr7 hnew7 x0 x1 x2 q0 q1 q2 q3)
        | ((with_reducible refine wpList_store_gr (Rn : Int) (Cn : Int) A7 n7 c7 w7.heap.size (.tmp 12) (.tmp 47) rfl rfl ?_ ?_ ?_ ?_); (focus rfl); (focus rfl); (focus (exact ⟨_, heap_at rfl, rfl⟩)); intro w8 hS8 hg8; have HS8 := Lib.hid hS8; have HG8 := Lib.hid hg8; clear hS8 hg8)
        | fail)
       have hb78 : Bw w7 w8 := Bw.grown (show Bw w7 (w7.alloc _) from BWX) HG8.out (fun k hk => by cases hk; omega)
       have hb68 : Bw w6 w8 := Bw.trans hb67 hb78
       have hb48 : Bw w4 w8 := Bw.trans hb46 hb68
       obtain rfl : n7 = n5 := by have h1 := HR7.out.1; have h2 := HPL.out.2.2.1; have h3 := HNG.out; omega
       obtain ⟨g12, hg12⟩ : ∃ g12, w7.heap.size = g12 := ⟨_, rfl⟩
       rw [hg12] at HS8
       simp only [hg12]
       obtain ⟨gq, hgq⟩ : ∃ gq, wd.heap.size = gq := ⟨_, rfl⟩
       rw [hgq] at HBQ
       simp only [hgq]
       have HRg := Lib.hid (HR4.out.up hb48)
       have HRt := Lib.hid (HR6.out.up hb68)
       have HRb := Lib.hid (HR7.out.up hb78)
       have HSg := Lib.hid (HS4.out.up hb48)
       have HSt := Lib.hid (HS6.out.up hb68)
       have HSq := Lib.hid (HBQ.out.up hb48)
       have hbw8 : Bw w w8 := Bw.trans hbw3 (Bw.trans hb34 hb48)
       have HBW := Lib.hid hbw8
       obtain ⟨gs, os, rfl, hcs⟩ := HRg.out.2 (by omega)
       obtain ⟨gt, ot, rfl, hct⟩ := HRt.out.2 (by omega)
       obtain ⟨gb, ob, rfl, hcb⟩ := HRb.out.2 (by omega)
       have HCS := Lib.hid (And.intro hcs (And.intro hct hcb))
       have x2 := HSg.out.cell 2 (v := .slice (some ⟨gs, os, none⟩) n7 cg) rfl
       have y2 := HSt.out.cell 2 (v := .slice (some ⟨gt, ot, none⟩) n7 c5) rfl
       have z2 := HS8.out.cell 2 (v := .slice (some ⟨gb, ob, none⟩) n7 c7) rfl
       clear HG8 hg12 hgq hcs hct hcb hb78 hb67 hb68 hb48 hb46 hb45 hb56 hb34 hb3d hbw8 hbw4 HR3 HR4 HR5 HR6 HR7 HS3 HS4 HS6 HBQ HY hbw3 hz4 HNE hgz hg3z
       go_upto_region 10 with (fail)
       clear x2 y2 z2
       go_wp2_with fail
       have HAT := Lib.hid (show ∀ wr, Bw w8 wr → ∀ r k : Nat, r < Rn → k < Cn → ∃ x1 x2 x3 x4 y1 y2 y3 y4 z1 z2 z3 z4 : Int, Ce wr gs (os + (r * Cn + k) * 4) (x1, x2, x3, x4) ∧ Ce wr gt (ot + (r * Cn + k) * 4) (y1, y2, y3, y4) ∧ Ce wr gb (ob + (r * Cn + k) * 4) (z1, z2, z3, z4) ∧
         (r = r0 ∧ c0 ≤ k ∧ Cn ≤ k + m0 → (z1, z2, z3, z4) = ((113, 0, 0, 0) : C4)) ∧ (¬ (r = r0 ∧ c0 ≤ k ∧ Cn ≤ k + m0) → (z1, z2, z3, z4) = ((x1, x2, x3, x4) : C4)) ∧ (r ≠ r0 ∨ k < c0 → (y1, y2, y3, y4) = ((x1, x2, x3, x4) : C4)) ∧ (r = r0 ∧ c0 ≤ k ∧ k < c0 + m0 → (y1, y2, y3, y4) = ((113, 0, 0, 0) : C4)) ∧ r * Cn + k < n7 from by
        intro wr hb r k hr hk
        obtain ⟨⟨x1, x2, x3, x4⟩, ⟨y1, y2, y3, y4⟩, ⟨z1, z2, z3, z4⟩, e1, e2, e3, h1, h2, h3, h4⟩ := HPL.out.2.2.2 r k hr hk
        obtain ⟨l1, e1⟩ := List.getElem?_eq_some_iff.1 e1
        obtain ⟨l2, e2⟩ := List.getElem?_eq_some_iff.1 e2
        obtain ⟨l3, e3⟩ := List.getElem?_eq_some_iff.1 e3
        have a1 := (HCS.out.1 _ l1).up hb
        have a2 := (HCS.out.2.1 _ l2).up hb
        have a3 := (HCS.out.2.2 _ l3).up hb
        rw [e1] at a1
        rw [e2] at a2
        rw [e3] at a3
        exact ⟨x1, x2, x3, x4, y1, y2, y3, y4, z1, z2, z3, z4, a1, a2, a3, h1, h2, h3, h4, by have := HRg.out.1; omega⟩)
       have hsz : g < w8.heap.size ∧ g11 < w8.heap.size ∧ g12 < w8.heap.size ∧ gq < w8.heap.size ∧ gs < w8.heap.size ∧ gt < w8.heap.size ∧ gb < w8.heap.size := by
        obtain ⟨x1, x2, x3, x4, y1, y2, y3, y4, z1, z2, z3, z4, a1, a2, a3, -⟩ := HAT.out w8 (Bw.refl _) 0 0 (by omega) (by omega)
        exact ⟨HSg.out.lt, HSt.out.lt, HS8.out.lt, HSq.out.lt, lt_of_cell a1.1, lt_of_cell a2.1, lt_of_cell a3.1⟩
       obtain ⟨s1, s2, s3, s4, s5, s6, s7⟩ := hsz
       clear HPL HCS HRg HRt HRb
       go_loopw [13] (fun i wr => ∃ r : Nat, i = .int .i64 r ∧ r ≤ Rn ∧ Bw w8 wr) (fun i _ => Rn - (intOf i).toNat)
       case atStart => exact ⟨0, rfl, by omega, BWX⟩
       case round =>
        obtain ⟨wy, hwy⟩ : ∃ wy : World, wy = wr := ⟨_, rfl⟩
        subst hwy
        obtain ⟨r, rfl, hr, hby⟩ := hrel
        have x0 := (HSg.out.up hby).cell 0 (v := .int .i64 (Rn : Int)) rfl
        by_cases hlt : r < Rn
        ·have hrI : (r : Int) < Rn := by omega
         go_wp2_with fail
         clear x0
         go_loopw [14] (fun i wr => ∃ k : Nat, i = .int .i64 k ∧ k ≤ Cn ∧ Bw w8 wr) (fun i _ => Cn - (intOf i).toNat)
         case atStart => exact ⟨0, rfl, by omega, hby⟩
         case round =>
          obtain ⟨wz, hwz⟩ : ∃ wz : World, wz = wr := ⟨_, rfl⟩
          subst hwz
          obtain ⟨k, rfl, hk, hbz⟩ := hrel
          have x1 := (HSg.out.up hbz).cell 1 (v := .int .i64 (Cn : Int)) rfl
          by_cases hlt2 : k < Cn
          ·have hkI : (k : Int) < Cn := by omega
           obtain ⟨u1, u2, u3, u4, v1, v2, v3, v4, t1, t2, t3, t4, a1, a2, a3, h1, h2, h3, h4, hpn⟩ := HAT.out wz hbz r k hlt hlt2
           obtain ⟨p, hp⟩ : ∃ p : Nat, r * Cn = p := ⟨_, rfl⟩
           rw [hp] at a1 a2 a3 hpn
           have hpi : (r : Int) * (Cn : Int) = (p : Int) := by rw [← hp]; simp
           have hpb : p ≤ 3000 := by omega
           clear hp
           have htn : ((p : Int) + (k : Int)).toNat = p + k := by omega
           have i1 : (0 : Int) ≤ (p : Int) + (k : Int) := by omega
           have i2 : (p : Int) + (k : Int) < (n7 : Int) := by omega
           have H1 := Lib.hid h1
           have H2 := Lib.hid h2
           have H3 := Lib.hid h3
           have H4 := Lib.hid h4
           clear h1 h2 h3 h4
           have x2 := (HSg.out.up hbz).cell 2 (v := .slice (some ⟨gs, os, none⟩) n7 cg) rfl
           have y2 := (HSt.out.up hbz).cell 2 (v := .slice (some ⟨gt, ot, none⟩) n7 c5) rfl
           have z2 := (HS8.out.up hbz).cell 2 (v := .slice (some ⟨gb, ob, none⟩) n7 c7) rfl
           have q0 := (HSq.out.up hbz).cell 0 (v := .int .i64 113) rfl
           have q1 := (HSq.out.up hbz).cell 1 (v := .int .i64 0) rfl
           have q2 := (HSq.out.up hbz).cell 2 (v := .int .i64 0) rfl
           have q3 := (HSq.out.up hbz).cell 3 (v := .int .i64 0) rfl
           have hzz := hbz.size
           have o1 : g < wz.heap.size := by omega
           have o2 : g11 < wz.heap.size := by omega
           have o3 : g12 < wz.heap.size := by omega
           have o4 : gq < wz.heap.size := by omega
           have o5 : gs < wz.heap.size := by omega
           have o6 : gt < wz.heap.size := by omega
           have o7 : gb < wz.heap.size := by omega
           obtain ⟨a11, a12, a13, a14⟩ := a1
           obtain ⟨a21, a22, a23, a24⟩ := a2
           obtain ⟨a31, a32, a33, a34⟩ := a3
           dsimp only at a11 a12 a13 a14 a21 a22 a23 a24 a31 a32 a33 a34
           have hways : (r ≠ r0) ∨ (r = r0 ∧ k < c0 ∧ (c0 : Int) < (Cn : Int) - (m0 : Int)) ∨ (r = r0 ∧ k < c0 ∧ (Cn : Int) - (m0 : Int) ≤ (c0 : Int)) ∨ (r = r0 ∧ c0 ≤ k ∧ Cn ≤ k + m0 ∧ k < c0 + m0) ∨ (r = r0 ∧ c0 ≤ k ∧ Cn ≤ k + m0 ∧ c0 + m0 ≤ k) ∨ (r = r0 ∧ c0 ≤ k ∧ k + m0 < Cn ∧ k < c0 + m0) ∨ (r = r0 ∧ c0 ≤ k ∧ k + m0 < Cn ∧ c0 + m0 ≤ k) := by omega
           rcases hways with h | ⟨rfl, h, h'⟩ | ⟨rfl, h, h'⟩ | ⟨rfl, h, h', h''⟩ | ⟨rfl, h, h', h''⟩ | ⟨rfl, h, h', h''⟩ | ⟨rfl, h, h', h''⟩
           ·have ez := (H2.out (by omega)).symm
            simp only [Prod.mk.injEq] at ez
            obtain ⟨rfl, rfl, rfl, rfl⟩ := ez
            have ey := (H3.out (by omega)).symm
            simp only [Prod.mk.injEq] at ey
            obtain ⟨rfl, rfl, rfl, rfl⟩ := ey
            have j1 : ¬ (r : Int) = (r0 : Int) := by omega
            have j1a : ((r : Int) == (r0 : Int)) = false := by rw [beq_eq_false_iff_ne]; exact j1
            have j1b : ((r : Int) != (r0 : Int)) = true := by rw [bne_iff_ne]; exact j1
            go_upto_region 20 with (fail)
            all_goals
             refine wp_region_held_drew (S := (fun w' => w'.cell? ⟨g12, 2, none⟩ = some (.slice (some ⟨gb, ob, none⟩) n7 c7) ∧ w'.cell? ⟨g11, 2, none⟩ = some (.slice (some ⟨gt, ot, none⟩) n7 c5) ∧ w'.cell? ⟨g, 2, none⟩ = some (.slice (some ⟨gs, os, none⟩) n7 cg) ∧ w'.cell? ⟨gq, 0, none⟩ = some (.int .i64 113) ∧ w'.cell? ⟨gq, 1, none⟩ = some (.int .i64 0) ∧ w'.cell? ⟨gq, 2, none⟩ = some (.int .i64 0) ∧ w'.cell? ⟨gq, 3, none⟩ = some (.int .i64 0) ∧ w'.cell? ⟨wz.heap.size, 0, none⟩ = some (.int .i64 u1) ∧ w'.cell? ⟨wz.heap.size, 1, none⟩ = some (.int .i64 u2) ∧ w'.cell? ⟨wz.heap.size, 2, none⟩ = some (.int .i64 u3) ∧ w'.cell? ⟨wz.heap.size, 3, none⟩ = some (.int .i64 u4) ∧ w'.cell? ⟨gs, os + (p + k) * 4, none⟩ = some (.int .i64 u1) ∧ w'.cell? ⟨gs, os + (p + k) * 4 + 1, none⟩ = some (.int .i64 u2) ∧ w'.cell? ⟨gs, os + (p + k) * 4 + 2, none⟩ = some (.int .i64 u3) ∧ w'.cell? ⟨gs, os + (p + k) * 4 + 3, none⟩ = some (.int .i64 u4) ∧ w'.cell? ⟨gt, ot + (p + k) * 4, none⟩ = some (.int .i64 u1) ∧ w'.cell? ⟨gt, ot + (p + k) * 4 + 1, none⟩ = some (.int .i64 u2) ∧ w'.cell? ⟨gt, ot + (p + k) * 4 + 2, none⟩ = some (.int .i64 u3) ∧ w'.cell? ⟨gt, ot + (p + k) * 4 + 3, none⟩ = some (.int .i64 u4) ∧ w'.cell? ⟨gb, ob + (p + k) * 4, none⟩ = some (.int .i64 u1) ∧ w'.cell? ⟨gb, ob + (p + k) * 4 + 1, none⟩ = some (.int .i64 u2) ∧ w'.cell? ⟨gb, ob + (p + k) * 4 + 2, none⟩ = some (.int .i64 u3) ∧ w'.cell? ⟨gb, ob + (p + k) * 4 + 3, none⟩ = some (.int .i64 u4))) (by kernel_rfl) ?_ (fun hHeld => ?_)
             ·(try dsimp only); (first | exact hHeld | (refine ⟨?_, ?_, ?_, ?_, ?_, ?_, ?_, ?_, ?_, ?_, ?_, ?_, ?_, ?_, ?_, ?_, ?_, ?_, ?_, ?_, ?_, ?_, ?_⟩ <;> exact CELAX))
             refine tkQ 0 rfl (Or.inl ⟨by rfl, tkZ⟩) ?_
             refine tkQ 1 rfl (Or.inl ⟨by rfl, tkZ⟩) ?_
             refine tkQ 2 rfl (Or.inl ⟨by rfl, tkZ⟩) ?_
             (try simp only [Act.put, p1, p2, p3, p4, p5, p6])
             refine tkQ 3 rfl (Or.inl ⟨by rfl, tkZ⟩) ?_
             refine tkQ 4 rfl (Or.inl ⟨by rfl, tkZ⟩) ?_
             refine tkQ 5 rfl (Or.inl ⟨by rfl, tkZ⟩) ?_
             (try simp only [Act.put, p1, p2, p3, p4, p5, p6])
             refine tkQ 6 rfl (Or.inl ⟨by rfl, tkZ⟩) ?_
             refine tkQ 7 rfl (Or.inl ⟨by rfl, tkZ⟩) ?_
             refine tkQ 8 rfl (Or.inl ⟨by rfl, tkZ⟩) ?_
             (try simp only [Act.put, p1, p2, p3, p4, p5, p6])
             refine tkQ 9 rfl (Or.inl ⟨by rfl, tkZ⟩) ?_
             refine tkQ 10 rfl (Or.inl ⟨by rfl, tkZ⟩) ?_
             refine tkQ 11 rfl (Or.inl ⟨by rfl, tkZ⟩) ?_
             (try simp only [Act.put, p1, p2, p3, p4, p5, p6])
             refine tkQ 12 rfl (Or.inr ⟨by rfl, rfl⟩) ?_
             refine tkQ 13 rfl (Or.inr ⟨by rfl, rfl⟩) ?_
             refine tkQ 14 rfl (Or.inr ⟨by rfl, rfl⟩) ?_
             (try simp only [Act.put, p1, p2, p3, p4, p5, p6])
             refine tkQ 15 rfl (Or.inl ⟨by rfl, tkZ⟩) ?_
             refine tkQ 16 rfl (Or.inl ⟨by rfl, tkZ⟩) ?_
             refine tkQ 17 rfl (Or.inl ⟨by rfl, tkZ⟩) ?_
             (try simp only [Act.put, p1, p2, p3, p4, p5, p6])
             refine tkQ 18 rfl (Or.inl ⟨by rfl, tkZ⟩) ?_
             refine tkQ 19 rfl (Or.inl ⟨by rfl, tkZ⟩) ?_
             refine tkQ 20 rfl (Or.inl ⟨by rfl, tkZ⟩) ?_
             (try simp only [Act.put, p1, p2, p3, p4, p5, p6])
             refine tkQ 21 rfl (Or.inl ⟨by rfl, tkZ⟩) ?_
             refine tkQ 22 rfl (Or.inl ⟨by rfl, tkZ⟩) ?_
             refine tkQ 23 rfl (Or.inl ⟨by rfl, tkZ⟩) ?_
             (try simp only [Act.put, p1, p2, p3, p4, p5, p6])
             refine tkQ 24 rfl (Or.inl ⟨by rfl, tkZ⟩) ?_
             refine tkQ 25 rfl (Or.inl ⟨by rfl, tkZ⟩) ?_
             refine tkQ 26 rfl (Or.inl ⟨by rfl, tkZ⟩) ?_
             (try simp only [Act.put, p1, p2, p3, p4, p5, p6])
             refine tkQ 27 rfl (Or.inl ⟨by rfl, tkZ⟩) ?_
             refine tkQ 28 rfl (Or.inl ⟨by rfl, tkZ⟩) ?_
             refine tkQ 29 rfl (Or.inl ⟨by rfl, tkZ⟩) ?_
             (try simp only [Act.put, p1, p2, p3, p4, p5, p6])
             refine tkQ 30 rfl (Or.inl ⟨by rfl, tkZ⟩) ?_
             refine tkQ 31 rfl (Or.inl ⟨by rfl, tkZ⟩) ?_
             refine tkQ 32 rfl (Or.inl ⟨by rfl, tkZ⟩) ?_
             (try simp only [Act.put, p1, p2, p3, p4, p5, p6])
             refine tkQ 33 rfl (Or.inl ⟨by rfl, tkZ⟩) ?_
             refine tkQ 34 rfl (Or.inl ⟨by rfl, tkZ⟩) ?_
             refine tkQ 35 rfl (Or.inr ⟨by rfl, rfl⟩) ?_
             (try simp only [Act.put, p1, p2, p3, p4, p5, p6])
             refine tkQ 36 rfl (Or.inr ⟨by rfl, rfl⟩) ?_
             refine tkQ 37 rfl (Or.inr ⟨by rfl, rfl⟩) ?_
             refine tkQ 38 rfl (Or.inl ⟨by rfl, tkZ⟩) ?_
             (try simp only [Act.put, p1, p2, p3, p4, p5, p6])
             refine tkQ 39 rfl (Or.inl ⟨by rfl, tkZ⟩) ?_
             refine tkQ 40 rfl (Or.inr ⟨by rfl, rfl⟩) ?_
             refine tkQ 41 rfl (Or.inr ⟨by rfl, rfl⟩) ?_
             (try simp only [Act.put, p1, p2, p3, p4, p5, p6])
             refine tkQ 42 rfl (Or.inr ⟨by rfl, rfl⟩) ?_
             refine tkQ 43 rfl (Or.inr ⟨by rfl, rfl⟩) ?_
             refine tkQ 44 rfl (Or.inr ⟨by rfl, rfl⟩) ?_
             (try simp only [Act.put, p1, p2, p3, p4, p5, p6])
             refine tkQ 45 rfl (Or.inl ⟨by rfl, tkZ⟩) ?_
             refine tkQ 46 rfl (Or.inl ⟨by rfl, tkZ⟩) ?_
             refine tkQ 47 rfl (Or.inr ⟨by rfl, rfl⟩) ?_
             (try simp only [Act.put, p1, p2, p3, p4, p5, p6])
             refine tkQ 48 rfl (Or.inr ⟨by rfl, rfl⟩) ?_
             refine tkQ 49 rfl (Or.inr ⟨by rfl, rfl⟩) ?_
             refine tkQ 50 rfl (Or.inr ⟨by rfl, rfl⟩) ?_
             (try simp only [Act.put, p1, p2, p3, p4, p5, p6])
             refine tkQ 51 rfl (Or.inr ⟨by rfl, rfl⟩) ?_
             refine tkQ 52 rfl (Or.inr ⟨by rfl, rfl⟩) ?_
             refine tkQ 53 rfl (Or.inr ⟨by rfl, rfl⟩) ?_
             (try simp only [Act.put, p1, p2, p3, p4, p5, p6])
             refine tkQ 54 rfl (Or.inl ⟨by rfl, tkZ⟩) ?_
             refine tkQ 55 rfl (Or.inl ⟨by rfl, tkZ⟩) ?_
             (try simp only [Act.put, p1, p2, p3, p4, p5, p6])
             refine wpAnyH_done (by kernel_rfl) ?_ _
             go_wp2_with fail
             go_roundw
             case rel => exact ⟨k + 1, by go_num, by omega, Bw.trans hbz BWX⟩
             case measure => simp [intOf]; omega
           ·have ez := (H2.out (by omega)).symm
            simp only [Prod.mk.injEq] at ez
            obtain ⟨rfl, rfl, rfl, rfl⟩ := ez
            have ey := (H3.out (by omega)).symm
            simp only [Prod.mk.injEq] at ey
            obtain ⟨rfl, rfl, rfl, rfl⟩ := ey
            have j2 : (k : Int) < (c0 : Int) := by omega
            have j2n : ¬ (c0 : Int) ≤ (k : Int) := by omega
            have j5n : ¬ (Cn : Int) - (m0 : Int) ≤ (c0 : Int) := by omega
            have j3n : ¬ (Cn : Int) - (m0 : Int) ≤ (k : Int) := by omega
            go_upto_region 20 with (fail)
            all_goals
             refine wp_region_held_drew (S := (fun w' => w'.cell? ⟨g12, 2, none⟩ = some (.slice (some ⟨gb, ob, none⟩) n7 c7) ∧ w'.cell? ⟨g11, 2, none⟩ = some (.slice (some ⟨gt, ot, none⟩) n7 c5) ∧ w'.cell? ⟨g, 2, none⟩ = some (.slice (some ⟨gs, os, none⟩) n7 cg) ∧ w'.cell? ⟨gq, 0, none⟩ = some (.int .i64 113) ∧ w'.cell? ⟨gq, 1, none⟩ = some (.int .i64 0) ∧ w'.cell? ⟨gq, 2, none⟩ = some (.int .i64 0) ∧ w'.cell? ⟨gq, 3, none⟩ = some (.int .i64 0) ∧ w'.cell? ⟨wz.heap.size, 0, none⟩ = some (.int .i64 u1) ∧ w'.cell? ⟨wz.heap.size, 1, none⟩ = some (.int .i64 u2) ∧ w'.cell? ⟨wz.heap.size, 2, none⟩ = some (.int .i64 u3) ∧ w'.cell? ⟨wz.heap.size, 3, none⟩ = some (.int .i64 u4) ∧ w'.cell? ⟨gs, os + (p + k) * 4, none⟩ = some (.int .i64 u1) ∧ w'.cell? ⟨gs, os + (p + k) * 4 + 1, none⟩ = some (.int .i64 u2) ∧ w'.cell? ⟨gs, os + (p + k) * 4 + 2, none⟩ = some (.int .i64 u3) ∧ w'.cell? ⟨gs, os + (p + k) * 4 + 3, none⟩ = some (.int .i64 u4) ∧ w'.cell? ⟨gt, ot + (p + k) * 4, none⟩ = some (.int .i64 u1) ∧ w'.cell? ⟨gt, ot + (p + k) * 4 + 1, none⟩ = some (.int .i64 u2) ∧ w'.cell? ⟨gt, ot + (p + k) * 4 + 2, none⟩ = some (.int .i64 u3) ∧ w'.cell? ⟨gt, ot + (p + k) * 4 + 3, none⟩ = some (.int .i64 u4) ∧ w'.cell? ⟨gb, ob + (p + k) * 4, none⟩ = some (.int .i64 u1) ∧ w'.cell? ⟨gb, ob + (p + k) * 4 + 1, none⟩ = some (.int .i64 u2) ∧ w'.cell? ⟨gb, ob + (p + k) * 4 + 2, none⟩ = some (.int .i64 u3) ∧ w'.cell? ⟨gb, ob + (p + k) * 4 + 3, none⟩ = some (.int .i64 u4))) (by kernel_rfl) ?_ (fun hHeld => ?_)
             ·(try dsimp only); (first | exact hHeld | (refine ⟨?_, ?_, ?_, ?_, ?_, ?_, ?_, ?_, ?_, ?_, ?_, ?_, ?_, ?_, ?_, ?_, ?_, ?_, ?_, ?_, ?_, ?_, ?_⟩ <;> exact CELAX))
             refine tkQ 0 rfl (Or.inl ⟨by rfl, tkZ⟩) ?_
             refine tkQ 1 rfl (Or.inl ⟨by rfl, tkZ⟩) ?_
             refine tkQ 2 rfl (Or.inl ⟨by rfl, tkZ⟩) ?_
             (try simp only [Act.put, p1, p2, p3, p4, p5, p6])
             refine tkQ 3 rfl (Or.inl ⟨by rfl, tkZ⟩) ?_
             refine tkQ 4 rfl (Or.inl ⟨by rfl, tkZ⟩) ?_
             refine tkQ 5 rfl (Or.inl ⟨by rfl, tkZ⟩) ?_
             (try simp only [Act.put, p1, p2, p3, p4, p5, p6])
             refine tkQ 6 rfl (Or.inl ⟨by rfl, tkZ⟩) ?_
             refine tkQ 7 rfl (Or.inl ⟨by rfl, tkZ⟩) ?_
             refine tkQ 8 rfl (Or.inl ⟨by rfl, tkZ⟩) ?_
             (try simp only [Act.put, p1, p2, p3, p4, p5, p6])
             refine tkQ 9 rfl (Or.inl ⟨by rfl, tkZ⟩) ?_
             refine tkQ 10 rfl (Or.inl ⟨by rfl, tkZ⟩) ?_
             refine tkQ 11 rfl (Or.inl ⟨by rfl, tkZ⟩) ?_
             (try simp only [Act.put, p1, p2, p3, p4, p5, p6])
             refine tkQ 12 rfl (Or.inl ⟨by rfl, tkZ⟩) ?_
             refine tkQ 13 rfl (Or.inl ⟨by rfl, tkZ⟩) ?_
             refine tkQ 14 rfl (Or.inl ⟨by rfl, tkZ⟩) ?_
             (try simp only [Act.put, p1, p2, p3, p4, p5, p6])
             refine tkQ 15 rfl (Or.inl ⟨by rfl, tkZ⟩) ?_
             refine tkQ 16 rfl (Or.inl ⟨by rfl, tkZ⟩) ?_
             refine tkQ 17 rfl (Or.inl ⟨by rfl, tkZ⟩) ?_
             (try simp only [Act.put, p1, p2, p3, p4, p5, p6])
             refine tkQ 18 rfl (Or.inl ⟨by rfl, tkZ⟩) ?_
             refine tkQ 19 rfl (Or.inl ⟨by rfl, tkZ⟩) ?_
             refine tkQ 20 rfl (Or.inl ⟨by rfl, tkZ⟩) ?_
             (try simp only [Act.put, p1, p2, p3, p4, p5, p6])
             refine tkQ 21 rfl (Or.inl ⟨by rfl, tkZ⟩) ?_
             refine tkQ 22 rfl (Or.inl ⟨by rfl, tkZ⟩) ?_
             refine tkQ 23 rfl (Or.inl ⟨by rfl, tkZ⟩) ?_
             (try simp only [Act.put, p1, p2, p3, p4, p5, p6])
             refine tkQ 24 rfl (Or.inl ⟨by rfl, tkZ⟩) ?_
             refine tkQ 25 rfl (Or.inl ⟨by rfl, tkZ⟩) ?_
             refine tkQ 26 rfl (Or.inl ⟨by rfl, tkZ⟩) ?_
             (try simp only [Act.put, p1, p2, p3, p4, p5, p6])
             refine tkQ 27 rfl (Or.inl ⟨by rfl, tkZ⟩) ?_
             refine tkQ 28 rfl (Or.inl ⟨by rfl, tkZ⟩) ?_
             refine tkQ 29 rfl (Or.inl ⟨by rfl, tkZ⟩) ?_
             (try simp only [Act.put, p1, p2, p3, p4, p5, p6])
             refine tkQ 30 rfl (Or.inl ⟨by rfl, tkZ⟩) ?_
             refine tkQ 31 rfl (Or.inl ⟨by rfl, tkZ⟩) ?_
             refine tkQ 32 rfl (Or.inl ⟨by rfl, tkZ⟩) ?_
             (try simp only [Act.put, p1, p2, p3, p4, p5, p6])
             refine tkQ 33 rfl (Or.inl ⟨by rfl, tkZ⟩) ?_
             refine tkQ 34 rfl (Or.inl ⟨by rfl, tkZ⟩) ?_
             refine tkQ 35 rfl (Or.inl ⟨by rfl, tkZ⟩) ?_
             (try simp only [Act.put, p1, p2, p3, p4, p5, p6])
             refine tkQ 36 rfl (Or.inl ⟨by rfl, tkZ⟩) ?_
             refine tkQ 37 rfl (Or.inl ⟨by rfl, tkZ⟩) ?_
             refine tkQ 38 rfl (Or.inl ⟨by rfl, tkZ⟩) ?_
             (try simp only [Act.put, p1, p2, p3, p4, p5, p6])
             refine tkQ 39 rfl (Or.inl ⟨by rfl, tkZ⟩) ?_
             refine tkQ 40 rfl (Or.inr ⟨by rfl, rfl⟩) ?_
             refine tkQ 41 rfl (Or.inr ⟨by rfl, rfl⟩) ?_
             (try simp only [Act.put, p1, p2, p3, p4, p5, p6])
             refine tkQ 42 rfl (Or.inr ⟨by rfl, rfl⟩) ?_
             refine tkQ 43 rfl (Or.inr ⟨by rfl, rfl⟩) ?_
             refine tkQ 44 rfl (Or.inr ⟨by rfl, rfl⟩) ?_
             (try simp only [Act.put, p1, p2, p3, p4, p5, p6])
             refine tkQ 45 rfl (Or.inl ⟨by rfl, tkZ⟩) ?_
             refine tkQ 46 rfl (Or.inl ⟨by rfl, tkZ⟩) ?_
             refine tkQ 47 rfl (Or.inr ⟨by rfl, rfl⟩) ?_
             (try simp only [Act.put, p1, p2, p3, p4, p5, p6])
             refine tkQ 48 rfl (Or.inr ⟨by rfl, rfl⟩) ?_
             refine tkQ 49 rfl (Or.inr ⟨by rfl, rfl⟩) ?_
             refine tkQ 50 rfl (Or.inr ⟨by rfl, rfl⟩) ?_
             (try simp only [Act.put, p1, p2, p3, p4, p5, p6])
             refine tkQ 51 rfl (Or.inr ⟨by rfl, rfl⟩) ?_
             refine tkQ 52 rfl (Or.inr ⟨by rfl, rfl⟩) ?_
             refine tkQ 53 rfl (Or.inr ⟨by rfl, rfl⟩) ?_
             (try simp only [Act.put, p1, p2, p3, p4, p5, p6])
             refine tkQ 54 rfl (Or.inl ⟨by rfl, tkZ⟩) ?_
             refine tkQ 55 rfl (Or.inl ⟨by rfl, tkZ⟩) ?_
             (try simp only [Act.put, p1, p2, p3, p4, p5, p6])
             refine wpAnyH_done (by kernel_rfl) ?_ _
             go_wp2_with fail
             go_roundw
             case rel => exact ⟨k + 1, by go_num, by omega, Bw.trans hbz BWX⟩
             case measure => simp [intOf]; omega
           ·have ez := (H2.out (by omega)).symm
            simp only [Prod.mk.injEq] at ez
            obtain ⟨rfl, rfl, rfl, rfl⟩ := ez
            have ey := (H3.out (by omega)).symm
            simp only [Prod.mk.injEq] at ey
            obtain ⟨rfl, rfl, rfl, rfl⟩ := ey
            have j2 : (k : Int) < (c0 : Int) := by omega
            have j2n : ¬ (c0 : Int) ≤ (k : Int) := by omega
            have j5n : ¬ (c0 : Int) < (Cn : Int) - (m0 : Int) := by omega
            go_upto_region 20 with (fail)
            all_goals
             refine wp_region_held_drew (S := (fun w' => w'.cell? ⟨g12, 2, none⟩ = some (.slice (some ⟨gb, ob, none⟩) n7 c7) ∧ w'.cell? ⟨g11, 2, none⟩ = some (.slice (some ⟨gt, ot, none⟩) n7 c5) ∧ w'.cell? ⟨g, 2, none⟩ = some (.slice (some ⟨gs, os, none⟩) n7 cg) ∧ w'.cell? ⟨gq, 0, none⟩ = some (.int .i64 113) ∧ w'.cell? ⟨gq, 1, none⟩ = some (.int .i64 0) ∧ w'.cell? ⟨gq, 2, none⟩ = some (.int .i64 0) ∧ w'.cell? ⟨gq, 3, none⟩ = some (.int .i64 0) ∧ w'.cell? ⟨wz.heap.size, 0, none⟩ = some (.int .i64 u1) ∧ w'.cell? ⟨wz.heap.size, 1, none⟩ = some (.int .i64 u2) ∧ w'.cell? ⟨wz.heap.size, 2, none⟩ = some (.int .i64 u3) ∧ w'.cell? ⟨wz.heap.size, 3, none⟩ = some (.int .i64 u4) ∧ w'.cell? ⟨gs, os + (p + k) * 4, none⟩ = some (.int .i64 u1) ∧ w'.cell? ⟨gs, os + (p + k) * 4 + 1, none⟩ = some (.int .i64 u2) ∧ w'.cell? ⟨gs, os + (p + k) * 4 + 2, none⟩ = some (.int .i64 u3) ∧ w'.cell? ⟨gs, os + (p + k) * 4 + 3, none⟩ = some (.int .i64 u4) ∧ w'.cell? ⟨gt, ot + (p + k) * 4, none⟩ = some (.int .i64 u1) ∧ w'.cell? ⟨gt, ot + (p + k) * 4 + 1, none⟩ = some (.int .i64 u2) ∧ w'.cell? ⟨gt, ot + (p + k) * 4 + 2, none⟩ = some (.int .i64 u3) ∧ w'.cell? ⟨gt, ot + (p + k) * 4 + 3, none⟩ = some (.int .i64 u4) ∧ w'.cell? ⟨gb, ob + (p + k) * 4, none⟩ = some (.int .i64 u1) ∧ w'.cell? ⟨gb, ob + (p + k) * 4 + 1, none⟩ = some (.int .i64 u2) ∧ w'.cell? ⟨gb, ob + (p + k) * 4 + 2, none⟩ = some (.int .i64 u3) ∧ w'.cell? ⟨gb, ob + (p + k) * 4 + 3, none⟩ = some (.int .i64 u4))) (by kernel_rfl) ?_ (fun hHeld => ?_)
             ·(try dsimp only); (first | exact hHeld | (refine ⟨?_, ?_, ?_, ?_, ?_, ?_, ?_, ?_, ?_, ?_, ?_, ?_, ?_, ?_, ?_, ?_, ?_, ?_, ?_, ?_, ?_, ?_, ?_⟩ <;> exact CELAX))
             refine tkQ 0 rfl (Or.inl ⟨by rfl, tkZ⟩) ?_
             refine tkQ 1 rfl (Or.inl ⟨by rfl, tkZ⟩) ?_
             refine tkQ 2 rfl (Or.inl ⟨by rfl, tkZ⟩) ?_
             (try simp only [Act.put, p1, p2, p3, p4, p5, p6])
             refine tkQ 3 rfl (Or.inl ⟨by rfl, tkZ⟩) ?_
             refine tkQ 4 rfl (Or.inl ⟨by rfl, tkZ⟩) ?_
             refine tkQ 5 rfl (Or.inl ⟨by rfl, tkZ⟩) ?_
             (try simp only [Act.put, p1, p2, p3, p4, p5, p6])
             refine tkQ 6 rfl (Or.inl ⟨by rfl, tkZ⟩) ?_
             refine tkQ 7 rfl (Or.inl ⟨by rfl, tkZ⟩) ?_
             refine tkQ 8 rfl (Or.inl ⟨by rfl, tkZ⟩) ?_
             (try simp only [Act.put, p1, p2, p3, p4, p5, p6])
             refine tkQ 9 rfl (Or.inl ⟨by rfl, tkZ⟩) ?_
             refine tkQ 10 rfl (Or.inl ⟨by rfl, tkZ⟩) ?_
             refine tkQ 11 rfl (Or.inl ⟨by rfl, tkZ⟩) ?_
             (try simp only [Act.put, p1, p2, p3, p4, p5, p6])
             refine tkQ 12 rfl (Or.inl ⟨by rfl, tkZ⟩) ?_
             refine tkQ 13 rfl (Or.inl ⟨by rfl, tkZ⟩) ?_
             refine tkQ 14 rfl (Or.inl ⟨by rfl, tkZ⟩) ?_
             (try simp only [Act.put, p1, p2, p3, p4, p5, p6])
             refine tkQ 15 rfl (Or.inl ⟨by rfl, tkZ⟩) ?_
             refine tkQ 16 rfl (Or.inl ⟨by rfl, tkZ⟩) ?_
             refine tkQ 17 rfl (Or.inl ⟨by rfl, tkZ⟩) ?_
             (try simp only [Act.put, p1, p2, p3, p4, p5, p6])
             refine tkQ 18 rfl (Or.inl ⟨by rfl, tkZ⟩) ?_
             refine tkQ 19 rfl (Or.inl ⟨by rfl, tkZ⟩) ?_
             refine tkQ 20 rfl (Or.inl ⟨by rfl, tkZ⟩) ?_
             (try simp only [Act.put, p1, p2, p3, p4, p5, p6])
             refine tkQ 21 rfl (Or.inl ⟨by rfl, tkZ⟩) ?_
             refine tkQ 22 rfl (Or.inl ⟨by rfl, tkZ⟩) ?_
             refine tkQ 23 rfl (Or.inl ⟨by rfl, tkZ⟩) ?_
             (try simp only [Act.put, p1, p2, p3, p4, p5, p6])
             refine tkQ 24 rfl (Or.inl ⟨by rfl, tkZ⟩) ?_
             refine tkQ 25 rfl (Or.inl ⟨by rfl, tkZ⟩) ?_
             refine tkQ 26 rfl (Or.inl ⟨by rfl, tkZ⟩) ?_
             (try simp only [Act.put, p1, p2, p3, p4, p5, p6])
             refine tkQ 27 rfl (Or.inl ⟨by rfl, tkZ⟩) ?_
             refine tkQ 28 rfl (Or.inl ⟨by rfl, tkZ⟩) ?_
             refine tkQ 29 rfl (Or.inl ⟨by rfl, tkZ⟩) ?_
             (try simp only [Act.put, p1, p2, p3, p4, p5, p6])
             refine tkQ 30 rfl (Or.inl ⟨by rfl, tkZ⟩) ?_
             refine tkQ 31 rfl (Or.inl ⟨by rfl, tkZ⟩) ?_
             refine tkQ 32 rfl (Or.inl ⟨by rfl, tkZ⟩) ?_
             (try simp only [Act.put, p1, p2, p3, p4, p5, p6])
             refine tkQ 33 rfl (Or.inl ⟨by rfl, tkZ⟩) ?_
             refine tkQ 34 rfl (Or.inl ⟨by rfl, tkZ⟩) ?_
             refine tkQ 35 rfl (Or.inl ⟨by rfl, tkZ⟩) ?_
             (try simp only [Act.put, p1, p2, p3, p4, p5, p6])
             refine tkQ 36 rfl (Or.inl ⟨by rfl, tkZ⟩) ?_
             refine tkQ 37 rfl (Or.inl ⟨by rfl, tkZ⟩) ?_
             refine tkQ 38 rfl (Or.inl ⟨by rfl, tkZ⟩) ?_
             (try simp only [Act.put, p1, p2, p3, p4, p5, p6])
             refine tkQ 39 rfl (Or.inl ⟨by rfl, tkZ⟩) ?_
             refine tkQ 40 rfl (Or.inr ⟨by rfl, rfl⟩) ?_
             refine tkQ 41 rfl (Or.inr ⟨by rfl, rfl⟩) ?_
             (try simp only [Act.put, p1, p2, p3, p4, p5, p6])
             refine tkQ 42 rfl (Or.inr ⟨by rfl, rfl⟩) ?_
             refine tkQ 43 rfl (Or.inr ⟨by rfl, rfl⟩) ?_
             refine tkQ 44 rfl (Or.inr ⟨by rfl, rfl⟩) ?_
             (try simp only [Act.put, p1, p2, p3, p4, p5, p6])
             refine tkQ 45 rfl (Or.inl ⟨by rfl, tkZ⟩) ?_
             refine tkQ 46 rfl (Or.inl ⟨by rfl, tkZ⟩) ?_
             refine tkQ 47 rfl (Or.inr ⟨by rfl, rfl⟩) ?_
             (try simp only [Act.put, p1, p2, p3, p4, p5, p6])
             refine tkQ 48 rfl (Or.inr ⟨by rfl, rfl⟩) ?_
             refine tkQ 49 rfl (Or.inr ⟨by rfl, rfl⟩) ?_
             refine tkQ 50 rfl (Or.inr ⟨by rfl, rfl⟩) ?_
             (try simp only [Act.put, p1, p2, p3, p4, p5, p6])
             refine tkQ 51 rfl (Or.inr ⟨by rfl, rfl⟩) ?_
             refine tkQ 52 rfl (Or.inr ⟨by rfl, rfl⟩) ?_
             refine tkQ 53 rfl (Or.inr ⟨by rfl, rfl⟩) ?_
             (try simp only [Act.put, p1, p2, p3, p4, p5, p6])
             refine tkQ 54 rfl (Or.inl ⟨by rfl, tkZ⟩) ?_
             refine tkQ 55 rfl (Or.inl ⟨by rfl, tkZ⟩) ?_
             (try simp only [Act.put, p1, p2, p3, p4, p5, p6])
             refine wpAnyH_done (by kernel_rfl) ?_ _
             go_wp2_with fail
             go_roundw
             case rel => exact ⟨k + 1, by go_num, by omega, Bw.trans hbz BWX⟩
             case measure => simp [intOf]; omega
           ·have ez := (H1.out (by omega)).symm
            simp only [Prod.mk.injEq] at ez
            obtain ⟨rfl, rfl, rfl, rfl⟩ := ez
            have ey := (H4.out (by omega)).symm
            simp only [Prod.mk.injEq] at ey
            obtain ⟨rfl, rfl, rfl, rfl⟩ := ey
            have j2 : (c0 : Int) ≤ (k : Int) := by omega
            have j2n : ¬ (k : Int) < (c0 : Int) := by omega
            have hmx : (if (c0 : Int) < (Cn : Int) - (m0 : Int) then (Cn : Int) - (m0 : Int) else (c0 : Int)) ≤ (k : Int) := by split <;> omega
            have j3 : (Cn : Int) - (m0 : Int) ≤ (k : Int) := by omega
            have j3n : ¬ (k : Int) < (Cn : Int) - (m0 : Int) := by omega
            have hwcm : IntKind.i64.wrap ((c0 : Int) + (m0 : Int)) = (c0 : Int) + (m0 : Int) := IntWalk.i64_in _ (by omega)
            have j4 : (k : Int) < (c0 : Int) + (m0 : Int) := by omega
            go_upto_region 20 with (fail)
            all_goals
             refine wp_region_held_drew (S := (fun w' => w'.cell? ⟨g12, 2, none⟩ = some (.slice (some ⟨gb, ob, none⟩) n7 c7) ∧ w'.cell? ⟨g11, 2, none⟩ = some (.slice (some ⟨gt, ot, none⟩) n7 c5) ∧ w'.cell? ⟨g, 2, none⟩ = some (.slice (some ⟨gs, os, none⟩) n7 cg) ∧ w'.cell? ⟨gq, 0, none⟩ = some (.int .i64 113) ∧ w'.cell? ⟨gq, 1, none⟩ = some (.int .i64 0) ∧ w'.cell? ⟨gq, 2, none⟩ = some (.int .i64 0) ∧ w'.cell? ⟨gq, 3, none⟩ = some (.int .i64 0) ∧ w'.cell? ⟨wz.heap.size, 0, none⟩ = some (.int .i64 113) ∧ w'.cell? ⟨wz.heap.size, 1, none⟩ = some (.int .i64 0) ∧ w'.cell? ⟨wz.heap.size, 2, none⟩ = some (.int .i64 0) ∧ w'.cell? ⟨wz.heap.size, 3, none⟩ = some (.int .i64 0) ∧ w'.cell? ⟨gs, os + (p + k) * 4, none⟩ = some (.int .i64 u1) ∧ w'.cell? ⟨gs, os + (p + k) * 4 + 1, none⟩ = some (.int .i64 u2) ∧ w'.cell? ⟨gs, os + (p + k) * 4 + 2, none⟩ = some (.int .i64 u3) ∧ w'.cell? ⟨gs, os + (p + k) * 4 + 3, none⟩ = some (.int .i64 u4) ∧ w'.cell? ⟨gt, ot + (p + k) * 4, none⟩ = some (.int .i64 113) ∧ w'.cell? ⟨gt, ot + (p + k) * 4 + 1, none⟩ = some (.int .i64 0) ∧ w'.cell? ⟨gt, ot + (p + k) * 4 + 2, none⟩ = some (.int .i64 0) ∧ w'.cell? ⟨gt, ot + (p + k) * 4 + 3, none⟩ = some (.int .i64 0) ∧ w'.cell? ⟨gb, ob + (p + k) * 4, none⟩ = some (.int .i64 113) ∧ w'.cell? ⟨gb, ob + (p + k) * 4 + 1, none⟩ = some (.int .i64 0) ∧ w'.cell? ⟨gb, ob + (p + k) * 4 + 2, none⟩ = some (.int .i64 0) ∧ w'.cell? ⟨gb, ob + (p + k) * 4 + 3, none⟩ = some (.int .i64 0))) (by kernel_rfl) ?_ (fun hHeld => ?_)
             ·(try dsimp only); (first | exact hHeld | (refine ⟨?_, ?_, ?_, ?_, ?_, ?_, ?_, ?_, ?_, ?_, ?_, ?_, ?_, ?_, ?_, ?_, ?_, ?_, ?_, ?_, ?_, ?_, ?_⟩ <;> exact CELAX))
             refine tkQ 0 rfl (Or.inl ⟨by rfl, tkZ⟩) ?_
             refine tkQ 1 rfl (Or.inl ⟨by rfl, tkZ⟩) ?_
             refine tkQ 2 rfl (Or.inl ⟨by rfl, tkZ⟩) ?_
             (try simp only [Act.put, p1, p2, p3, p4, p5, p6])
             refine tkQ 3 rfl (Or.inl ⟨by rfl, tkZ⟩) ?_
             refine tkQ 4 rfl (Or.inl ⟨by rfl, tkZ⟩) ?_
             refine tkQ 5 rfl (Or.inl ⟨by rfl, tkZ⟩) ?_
             (try simp only [Act.put, p1, p2, p3, p4, p5, p6])
             refine tkQ 6 rfl (Or.inl ⟨by rfl, tkZ⟩) ?_
             refine tkQ 7 rfl (Or.inl ⟨by rfl, tkZ⟩) ?_
             refine tkQ 8 rfl (Or.inl ⟨by rfl, tkZ⟩) ?_
             (try simp only [Act.put, p1, p2, p3, p4, p5, p6])
             refine tkQ 9 rfl (Or.inl ⟨by rfl, tkZ⟩) ?_
             refine tkQ 10 rfl (Or.inl ⟨by rfl, tkZ⟩) ?_
             refine tkQ 11 rfl (Or.inl ⟨by rfl, tkZ⟩) ?_
             (try simp only [Act.put, p1, p2, p3, p4, p5, p6])
             refine tkQ 12 rfl (Or.inl ⟨by rfl, tkZ⟩) ?_
             refine tkQ 13 rfl (Or.inl ⟨by rfl, tkZ⟩) ?_
             refine tkQ 14 rfl (Or.inl ⟨by rfl, tkZ⟩) ?_
             (try simp only [Act.put, p1, p2, p3, p4, p5, p6])
             refine tkQ 15 rfl (Or.inl ⟨by rfl, tkZ⟩) ?_
             refine tkQ 16 rfl (Or.inl ⟨by rfl, tkZ⟩) ?_
             refine tkQ 17 rfl (Or.inr ⟨by rfl, rfl⟩) ?_
             (try simp only [Act.put, p1, p2, p3, p4, p5, p6])
             refine tkQ 18 rfl (Or.inr ⟨by rfl, rfl⟩) ?_
             refine tkQ 19 rfl (Or.inr ⟨by rfl, rfl⟩) ?_
             refine tkQ 20 rfl (Or.inr ⟨by rfl, rfl⟩) ?_
             (try simp only [Act.put, p1, p2, p3, p4, p5, p6])
             refine tkQ 21 rfl (Or.inr ⟨by rfl, rfl⟩) ?_
             refine tkQ 22 rfl (Or.inr ⟨by rfl, rfl⟩) ?_
             refine tkQ 23 rfl (Or.inr ⟨by rfl, rfl⟩) ?_
             (try simp only [Act.put, p1, p2, p3, p4, p5, p6])
             refine tkQ 24 rfl (Or.inr ⟨by rfl, rfl⟩) ?_
             refine tkQ 25 rfl (Or.inr ⟨by rfl, rfl⟩) ?_
             refine tkQ 26 rfl (Or.inr ⟨by rfl, rfl⟩) ?_
             (try simp only [Act.put, p1, p2, p3, p4, p5, p6])
             refine tkQ 27 rfl (Or.inr ⟨by rfl, rfl⟩) ?_
             refine tkQ 28 rfl (Or.inl ⟨by rfl, tkZ⟩) ?_
             refine tkQ 29 rfl (Or.inl ⟨by rfl, tkZ⟩) ?_
             (try simp only [Act.put, p1, p2, p3, p4, p5, p6])
             refine tkQ 30 rfl (Or.inl ⟨by rfl, tkZ⟩) ?_
             refine tkQ 31 rfl (Or.inl ⟨by rfl, tkZ⟩) ?_
             refine tkQ 32 rfl (Or.inl ⟨by rfl, tkZ⟩) ?_
             (try simp only [Act.put, p1, p2, p3, p4, p5, p6])
             refine tkQ 33 rfl (Or.inl ⟨by rfl, tkZ⟩) ?_
             refine tkQ 34 rfl (Or.inl ⟨by rfl, tkZ⟩) ?_
             refine tkQ 35 rfl (Or.inl ⟨by rfl, tkZ⟩) ?_
             (try simp only [Act.put, p1, p2, p3, p4, p5, p6])
             refine tkQ 36 rfl (Or.inl ⟨by rfl, tkZ⟩) ?_
             refine tkQ 37 rfl (Or.inl ⟨by rfl, tkZ⟩) ?_
             refine tkQ 38 rfl (Or.inl ⟨by rfl, tkZ⟩) ?_
             (try simp only [Act.put, p1, p2, p3, p4, p5, p6])
             refine tkQ 39 rfl (Or.inl ⟨by rfl, tkZ⟩) ?_
             refine tkQ 40 rfl (Or.inl ⟨by rfl, tkZ⟩) ?_
             refine tkQ 41 rfl (Or.inl ⟨by rfl, tkZ⟩) ?_
             (try simp only [Act.put, p1, p2, p3, p4, p5, p6])
             refine tkQ 42 rfl (Or.inl ⟨by rfl, tkZ⟩) ?_
             refine tkQ 43 rfl (Or.inl ⟨by rfl, tkZ⟩) ?_
             refine tkQ 44 rfl (Or.inl ⟨by rfl, tkZ⟩) ?_
             (try simp only [Act.put, p1, p2, p3, p4, p5, p6])
             refine tkQ 45 rfl (Or.inl ⟨by rfl, tkZ⟩) ?_
             refine tkQ 46 rfl (Or.inl ⟨by rfl, tkZ⟩) ?_
             refine tkQ 47 rfl (Or.inl ⟨by rfl, tkZ⟩) ?_
             (try simp only [Act.put, p1, p2, p3, p4, p5, p6])
             refine tkQ 48 rfl (Or.inl ⟨by rfl, tkZ⟩) ?_
             refine tkQ 49 rfl (Or.inl ⟨by rfl, tkZ⟩) ?_
             refine tkQ 50 rfl (Or.inl ⟨by rfl, tkZ⟩) ?_
             (try simp only [Act.put, p1, p2, p3, p4, p5, p6])
             refine tkQ 51 rfl (Or.inl ⟨by rfl, tkZ⟩) ?_
             refine tkQ 52 rfl (Or.inl ⟨by rfl, tkZ⟩) ?_
             refine tkQ 53 rfl (Or.inl ⟨by rfl, tkZ⟩) ?_
             (try simp only [Act.put, p1, p2, p3, p4, p5, p6])
             refine tkQ 54 rfl (Or.inl ⟨by rfl, tkZ⟩) ?_
             refine tkQ 55 rfl (Or.inl ⟨by rfl, tkZ⟩) ?_
             (try simp only [Act.put, p1, p2, p3, p4, p5, p6])
             refine wpAnyH_done (by kernel_rfl) ?_ _
             go_wp2_with fail
             go_roundw
             case rel => exact ⟨k + 1, by go_num, by omega, Bw.trans hbz BWX⟩
             case measure => simp [intOf]; omega
           ·have ez := (H1.out (by omega)).symm
            simp only [Prod.mk.injEq] at ez
            obtain ⟨rfl, rfl, rfl, rfl⟩ := ez
            have j2 : (c0 : Int) ≤ (k : Int) := by omega
            have j2n : ¬ (k : Int) < (c0 : Int) := by omega
            have hmx : (if (c0 : Int) < (Cn : Int) - (m0 : Int) then (Cn : Int) - (m0 : Int) else (c0 : Int)) ≤ (k : Int) := by split <;> omega
            have j3 : (Cn : Int) - (m0 : Int) ≤ (k : Int) := by omega
            have j3n : ¬ (k : Int) < (Cn : Int) - (m0 : Int) := by omega
            have hwcm : IntKind.i64.wrap ((c0 : Int) + (m0 : Int)) = (c0 : Int) + (m0 : Int) := IntWalk.i64_in _ (by omega)
            have j4 : (c0 : Int) + (m0 : Int) ≤ (k : Int) := by omega
            have j4n : ¬ (k : Int) < (c0 : Int) + (m0 : Int) := by omega
            go_upto_region 20 with (fail)
            all_goals
             refine wp_region_held_drew (S := (fun w' => w'.cell? ⟨g12, 2, none⟩ = some (.slice (some ⟨gb, ob, none⟩) n7 c7) ∧ w'.cell? ⟨g11, 2, none⟩ = some (.slice (some ⟨gt, ot, none⟩) n7 c5) ∧ w'.cell? ⟨g, 2, none⟩ = some (.slice (some ⟨gs, os, none⟩) n7 cg) ∧ w'.cell? ⟨gq, 0, none⟩ = some (.int .i64 113) ∧ w'.cell? ⟨gq, 1, none⟩ = some (.int .i64 0) ∧ w'.cell? ⟨gq, 2, none⟩ = some (.int .i64 0) ∧ w'.cell? ⟨gq, 3, none⟩ = some (.int .i64 0) ∧ w'.cell? ⟨wz.heap.size, 0, none⟩ = some (.int .i64 113) ∧ w'.cell? ⟨wz.heap.size, 1, none⟩ = some (.int .i64 0) ∧ w'.cell? ⟨wz.heap.size, 2, none⟩ = some (.int .i64 0) ∧ w'.cell? ⟨wz.heap.size, 3, none⟩ = some (.int .i64 0) ∧ w'.cell? ⟨gs, os + (p + k) * 4, none⟩ = some (.int .i64 u1) ∧ w'.cell? ⟨gs, os + (p + k) * 4 + 1, none⟩ = some (.int .i64 u2) ∧ w'.cell? ⟨gs, os + (p + k) * 4 + 2, none⟩ = some (.int .i64 u3) ∧ w'.cell? ⟨gs, os + (p + k) * 4 + 3, none⟩ = some (.int .i64 u4) ∧ w'.cell? ⟨gt, ot + (p + k) * 4, none⟩ = some (.int .i64 v1) ∧ w'.cell? ⟨gt, ot + (p + k) * 4 + 1, none⟩ = some (.int .i64 v2) ∧ w'.cell? ⟨gt, ot + (p + k) * 4 + 2, none⟩ = some (.int .i64 v3) ∧ w'.cell? ⟨gt, ot + (p + k) * 4 + 3, none⟩ = some (.int .i64 v4) ∧ w'.cell? ⟨gb, ob + (p + k) * 4, none⟩ = some (.int .i64 113) ∧ w'.cell? ⟨gb, ob + (p + k) * 4 + 1, none⟩ = some (.int .i64 0) ∧ w'.cell? ⟨gb, ob + (p + k) * 4 + 2, none⟩ = some (.int .i64 0) ∧ w'.cell? ⟨gb, ob + (p + k) * 4 + 3, none⟩ = some (.int .i64 0))) (by kernel_rfl) ?_ (fun hHeld => ?_)
             ·(try dsimp only); (first | exact hHeld | (refine ⟨?_, ?_, ?_, ?_, ?_, ?_, ?_, ?_, ?_, ?_, ?_, ?_, ?_, ?_, ?_, ?_, ?_, ?_, ?_, ?_, ?_, ?_, ?_⟩ <;> exact CELAX))
             refine tkQ 0 rfl (Or.inl ⟨by rfl, tkZ⟩) ?_
             refine tkQ 1 rfl (Or.inl ⟨by rfl, tkZ⟩) ?_
             refine tkQ 2 rfl (Or.inl ⟨by rfl, tkZ⟩) ?_
             (try simp only [Act.put, p1, p2, p3, p4, p5, p6])
             refine tkQ 3 rfl (Or.inl ⟨by rfl, tkZ⟩) ?_
             refine tkQ 4 rfl (Or.inl ⟨by rfl, tkZ⟩) ?_
             refine tkQ 5 rfl (Or.inl ⟨by rfl, tkZ⟩) ?_
             (try simp only [Act.put, p1, p2, p3, p4, p5, p6])
             refine tkQ 6 rfl (Or.inl ⟨by rfl, tkZ⟩) ?_
             refine tkQ 7 rfl (Or.inl ⟨by rfl, tkZ⟩) ?_
             refine tkQ 8 rfl (Or.inl ⟨by rfl, tkZ⟩) ?_
             (try simp only [Act.put, p1, p2, p3, p4, p5, p6])
             refine tkQ 9 rfl (Or.inl ⟨by rfl, tkZ⟩) ?_
             refine tkQ 10 rfl (Or.inl ⟨by rfl, tkZ⟩) ?_
             refine tkQ 11 rfl (Or.inl ⟨by rfl, tkZ⟩) ?_
             (try simp only [Act.put, p1, p2, p3, p4, p5, p6])
             refine tkQ 12 rfl (Or.inl ⟨by rfl, tkZ⟩) ?_
             refine tkQ 13 rfl (Or.inl ⟨by rfl, tkZ⟩) ?_
             refine tkQ 14 rfl (Or.inl ⟨by rfl, tkZ⟩) ?_
             (try simp only [Act.put, p1, p2, p3, p4, p5, p6])
             refine tkQ 15 rfl (Or.inl ⟨by rfl, tkZ⟩) ?_
             refine tkQ 16 rfl (Or.inl ⟨by rfl, tkZ⟩) ?_
             refine tkQ 17 rfl (Or.inr ⟨by rfl, rfl⟩) ?_
             (try simp only [Act.put, p1, p2, p3, p4, p5, p6])
             refine tkQ 18 rfl (Or.inr ⟨by rfl, rfl⟩) ?_
             refine tkQ 19 rfl (Or.inr ⟨by rfl, rfl⟩) ?_
             refine tkQ 20 rfl (Or.inr ⟨by rfl, rfl⟩) ?_
             (try simp only [Act.put, p1, p2, p3, p4, p5, p6])
             refine tkQ 21 rfl (Or.inr ⟨by rfl, rfl⟩) ?_
             refine tkQ 22 rfl (Or.inr ⟨by rfl, rfl⟩) ?_
             refine tkQ 23 rfl (Or.inr ⟨by rfl, rfl⟩) ?_
             (try simp only [Act.put, p1, p2, p3, p4, p5, p6])
             refine tkQ 24 rfl (Or.inr ⟨by rfl, rfl⟩) ?_
             refine tkQ 25 rfl (Or.inr ⟨by rfl, rfl⟩) ?_
             refine tkQ 26 rfl (Or.inr ⟨by rfl, rfl⟩) ?_
             (try simp only [Act.put, p1, p2, p3, p4, p5, p6])
             refine tkQ 27 rfl (Or.inr ⟨by rfl, rfl⟩) ?_
             refine tkQ 28 rfl (Or.inl ⟨by rfl, tkZ⟩) ?_
             refine tkQ 29 rfl (Or.inl ⟨by rfl, tkZ⟩) ?_
             (try simp only [Act.put, p1, p2, p3, p4, p5, p6])
             refine tkQ 30 rfl (Or.inl ⟨by rfl, tkZ⟩) ?_
             refine tkQ 31 rfl (Or.inl ⟨by rfl, tkZ⟩) ?_
             refine tkQ 32 rfl (Or.inl ⟨by rfl, tkZ⟩) ?_
             (try simp only [Act.put, p1, p2, p3, p4, p5, p6])
             refine tkQ 33 rfl (Or.inl ⟨by rfl, tkZ⟩) ?_
             refine tkQ 34 rfl (Or.inl ⟨by rfl, tkZ⟩) ?_
             refine tkQ 35 rfl (Or.inl ⟨by rfl, tkZ⟩) ?_
             (try simp only [Act.put, p1, p2, p3, p4, p5, p6])
             refine tkQ 36 rfl (Or.inl ⟨by rfl, tkZ⟩) ?_
             refine tkQ 37 rfl (Or.inl ⟨by rfl, tkZ⟩) ?_
             refine tkQ 38 rfl (Or.inl ⟨by rfl, tkZ⟩) ?_
             (try simp only [Act.put, p1, p2, p3, p4, p5, p6])
             refine tkQ 39 rfl (Or.inl ⟨by rfl, tkZ⟩) ?_
             refine tkQ 40 rfl (Or.inl ⟨by rfl, tkZ⟩) ?_
             refine tkQ 41 rfl (Or.inl ⟨by rfl, tkZ⟩) ?_
             (try simp only [Act.put, p1, p2, p3, p4, p5, p6])
             refine tkQ 42 rfl (Or.inl ⟨by rfl, tkZ⟩) ?_
             refine tkQ 43 rfl (Or.inl ⟨by rfl, tkZ⟩) ?_
             refine tkQ 44 rfl (Or.inl ⟨by rfl, tkZ⟩) ?_
             (try simp only [Act.put, p1, p2, p3, p4, p5, p6])
             refine tkQ 45 rfl (Or.inl ⟨by rfl, tkZ⟩) ?_
             refine tkQ 46 rfl (Or.inl ⟨by rfl, tkZ⟩) ?_
             refine tkQ 47 rfl (Or.inr ⟨by rfl, rfl⟩) ?_
             (try simp only [Act.put, p1, p2, p3, p4, p5, p6])
             refine tkQ 48 rfl (Or.inr ⟨by rfl, rfl⟩) ?_
             refine tkQ 49 rfl (Or.inr ⟨by rfl, rfl⟩) ?_
             refine tkQ 50 rfl (Or.inr ⟨by rfl, rfl⟩) ?_
             (try simp only [Act.put, p1, p2, p3, p4, p5, p6])
             refine tkQ 51 rfl (Or.inr ⟨by rfl, rfl⟩) ?_
             refine tkQ 52 rfl (Or.inr ⟨by rfl, rfl⟩) ?_
             refine tkQ 53 rfl (Or.inr ⟨by rfl, rfl⟩) ?_
             (try simp only [Act.put, p1, p2, p3, p4, p5, p6])
             refine tkQ 54 rfl (Or.inl ⟨by rfl, tkZ⟩) ?_
             refine tkQ 55 rfl (Or.inl ⟨by rfl, tkZ⟩) ?_
             (try simp only [Act.put, p1, p2, p3, p4, p5, p6])
             refine wpAnyH_done (by kernel_rfl) ?_ _
             go_wp2_with fail
             go_roundw
             case rel => exact ⟨k + 1, by go_num, by omega, Bw.trans hbz BWX⟩
             case measure => simp [intOf]; omega
           ·have ez := (H2.out (by omega)).symm
            simp only [Prod.mk.injEq] at ez
            obtain ⟨rfl, rfl, rfl, rfl⟩ := ez
            have ey := (H4.out (by omega)).symm
            simp only [Prod.mk.injEq] at ey
            obtain ⟨rfl, rfl, rfl, rfl⟩ := ey
            have j2 : (c0 : Int) ≤ (k : Int) := by omega
            have j2n : ¬ (k : Int) < (c0 : Int) := by omega
            have j5 : (c0 : Int) < (Cn : Int) - (m0 : Int) := by omega
            have j5n : ¬ (Cn : Int) - (m0 : Int) ≤ (c0 : Int) := by omega
            have j3 : (k : Int) < (Cn : Int) - (m0 : Int) := by omega
            have j3n : ¬ (Cn : Int) - (m0 : Int) ≤ (k : Int) := by omega
            have hwcm : IntKind.i64.wrap ((c0 : Int) + (m0 : Int)) = (c0 : Int) + (m0 : Int) := IntWalk.i64_in _ (by omega)
            have j4 : (k : Int) < (c0 : Int) + (m0 : Int) := by omega
            go_upto_region 20 with (fail)
            all_goals
             refine wp_region_held_drew (S := (fun w' => w'.cell? ⟨g12, 2, none⟩ = some (.slice (some ⟨gb, ob, none⟩) n7 c7) ∧ w'.cell? ⟨g11, 2, none⟩ = some (.slice (some ⟨gt, ot, none⟩) n7 c5) ∧ w'.cell? ⟨g, 2, none⟩ = some (.slice (some ⟨gs, os, none⟩) n7 cg) ∧ w'.cell? ⟨gq, 0, none⟩ = some (.int .i64 113) ∧ w'.cell? ⟨gq, 1, none⟩ = some (.int .i64 0) ∧ w'.cell? ⟨gq, 2, none⟩ = some (.int .i64 0) ∧ w'.cell? ⟨gq, 3, none⟩ = some (.int .i64 0) ∧ w'.cell? ⟨wz.heap.size, 0, none⟩ = some (.int .i64 u1) ∧ w'.cell? ⟨wz.heap.size, 1, none⟩ = some (.int .i64 u2) ∧ w'.cell? ⟨wz.heap.size, 2, none⟩ = some (.int .i64 u3) ∧ w'.cell? ⟨wz.heap.size, 3, none⟩ = some (.int .i64 u4) ∧ w'.cell? ⟨gs, os + (p + k) * 4, none⟩ = some (.int .i64 u1) ∧ w'.cell? ⟨gs, os + (p + k) * 4 + 1, none⟩ = some (.int .i64 u2) ∧ w'.cell? ⟨gs, os + (p + k) * 4 + 2, none⟩ = some (.int .i64 u3) ∧ w'.cell? ⟨gs, os + (p + k) * 4 + 3, none⟩ = some (.int .i64 u4) ∧ w'.cell? ⟨gt, ot + (p + k) * 4, none⟩ = some (.int .i64 113) ∧ w'.cell? ⟨gt, ot + (p + k) * 4 + 1, none⟩ = some (.int .i64 0) ∧ w'.cell? ⟨gt, ot + (p + k) * 4 + 2, none⟩ = some (.int .i64 0) ∧ w'.cell? ⟨gt, ot + (p + k) * 4 + 3, none⟩ = some (.int .i64 0) ∧ w'.cell? ⟨gb, ob + (p + k) * 4, none⟩ = some (.int .i64 u1) ∧ w'.cell? ⟨gb, ob + (p + k) * 4 + 1, none⟩ = some (.int .i64 u2) ∧ w'.cell? ⟨gb, ob + (p + k) * 4 + 2, none⟩ = some (.int .i64 u3) ∧ w'.cell? ⟨gb, ob + (p + k) * 4 + 3, none⟩ = some (.int .i64 u4))) (by kernel_rfl) ?_ (fun hHeld => ?_)
             ·(try dsimp only); (first | exact hHeld | (refine ⟨?_, ?_, ?_, ?_, ?_, ?_, ?_, ?_, ?_, ?_, ?_, ?_, ?_, ?_, ?_, ?_, ?_, ?_, ?_, ?_, ?_, ?_, ?_⟩ <;> exact CELAX))
             refine tkQ 0 rfl (Or.inl ⟨by rfl, tkZ⟩) ?_
             refine tkQ 1 rfl (Or.inl ⟨by rfl, tkZ⟩) ?_
             refine tkQ 2 rfl (Or.inl ⟨by rfl, tkZ⟩) ?_
             (try simp only [Act.put, p1, p2, p3, p4, p5, p6])
             refine tkQ 3 rfl (Or.inl ⟨by rfl, tkZ⟩) ?_
             refine tkQ 4 rfl (Or.inl ⟨by rfl, tkZ⟩) ?_
             refine tkQ 5 rfl (Or.inl ⟨by rfl, tkZ⟩) ?_
             (try simp only [Act.put, p1, p2, p3, p4, p5, p6])
             refine tkQ 6 rfl (Or.inl ⟨by rfl, tkZ⟩) ?_
             refine tkQ 7 rfl (Or.inl ⟨by rfl, tkZ⟩) ?_
             refine tkQ 8 rfl (Or.inl ⟨by rfl, tkZ⟩) ?_
             (try simp only [Act.put, p1, p2, p3, p4, p5, p6])
             refine tkQ 9 rfl (Or.inl ⟨by rfl, tkZ⟩) ?_
             refine tkQ 10 rfl (Or.inl ⟨by rfl, tkZ⟩) ?_
             refine tkQ 11 rfl (Or.inl ⟨by rfl, tkZ⟩) ?_
             (try simp only [Act.put, p1, p2, p3, p4, p5, p6])
             refine tkQ 12 rfl (Or.inl ⟨by rfl, tkZ⟩) ?_
             refine tkQ 13 rfl (Or.inl ⟨by rfl, tkZ⟩) ?_
             refine tkQ 14 rfl (Or.inl ⟨by rfl, tkZ⟩) ?_
             (try simp only [Act.put, p1, p2, p3, p4, p5, p6])
             refine tkQ 15 rfl (Or.inl ⟨by rfl, tkZ⟩) ?_
             refine tkQ 16 rfl (Or.inl ⟨by rfl, tkZ⟩) ?_
             refine tkQ 17 rfl (Or.inr ⟨by rfl, rfl⟩) ?_
             (try simp only [Act.put, p1, p2, p3, p4, p5, p6])
             refine tkQ 18 rfl (Or.inr ⟨by rfl, rfl⟩) ?_
             refine tkQ 19 rfl (Or.inr ⟨by rfl, rfl⟩) ?_
             refine tkQ 20 rfl (Or.inr ⟨by rfl, rfl⟩) ?_
             (try simp only [Act.put, p1, p2, p3, p4, p5, p6])
             refine tkQ 21 rfl (Or.inr ⟨by rfl, rfl⟩) ?_
             refine tkQ 22 rfl (Or.inr ⟨by rfl, rfl⟩) ?_
             refine tkQ 23 rfl (Or.inr ⟨by rfl, rfl⟩) ?_
             (try simp only [Act.put, p1, p2, p3, p4, p5, p6])
             refine tkQ 24 rfl (Or.inr ⟨by rfl, rfl⟩) ?_
             refine tkQ 25 rfl (Or.inr ⟨by rfl, rfl⟩) ?_
             refine tkQ 26 rfl (Or.inr ⟨by rfl, rfl⟩) ?_
             (try simp only [Act.put, p1, p2, p3, p4, p5, p6])
             refine tkQ 27 rfl (Or.inr ⟨by rfl, rfl⟩) ?_
             refine tkQ 28 rfl (Or.inl ⟨by rfl, tkZ⟩) ?_
             refine tkQ 29 rfl (Or.inl ⟨by rfl, tkZ⟩) ?_
             (try simp only [Act.put, p1, p2, p3, p4, p5, p6])
             refine tkQ 30 rfl (Or.inl ⟨by rfl, tkZ⟩) ?_
             refine tkQ 31 rfl (Or.inl ⟨by rfl, tkZ⟩) ?_
             refine tkQ 32 rfl (Or.inl ⟨by rfl, tkZ⟩) ?_
             (try simp only [Act.put, p1, p2, p3, p4, p5, p6])
             refine tkQ 33 rfl (Or.inl ⟨by rfl, tkZ⟩) ?_
             refine tkQ 34 rfl (Or.inl ⟨by rfl, tkZ⟩) ?_
             refine tkQ 35 rfl (Or.inl ⟨by rfl, tkZ⟩) ?_
             (try simp only [Act.put, p1, p2, p3, p4, p5, p6])
             refine tkQ 36 rfl (Or.inl ⟨by rfl, tkZ⟩) ?_
             refine tkQ 37 rfl (Or.inl ⟨by rfl, tkZ⟩) ?_
             refine tkQ 38 rfl (Or.inl ⟨by rfl, tkZ⟩) ?_
             (try simp only [Act.put, p1, p2, p3, p4, p5, p6])
             refine tkQ 39 rfl (Or.inl ⟨by rfl, tkZ⟩) ?_
             refine tkQ 40 rfl (Or.inl ⟨by rfl, tkZ⟩) ?_
             refine tkQ 41 rfl (Or.inl ⟨by rfl, tkZ⟩) ?_
             (try simp only [Act.put, p1, p2, p3, p4, p5, p6])
             refine tkQ 42 rfl (Or.inl ⟨by rfl, tkZ⟩) ?_
             refine tkQ 43 rfl (Or.inl ⟨by rfl, tkZ⟩) ?_
             refine tkQ 44 rfl (Or.inl ⟨by rfl, tkZ⟩) ?_
             (try simp only [Act.put, p1, p2, p3, p4, p5, p6])
             refine tkQ 45 rfl (Or.inl ⟨by rfl, tkZ⟩) ?_
             refine tkQ 46 rfl (Or.inl ⟨by rfl, tkZ⟩) ?_
             refine tkQ 47 rfl (Or.inl ⟨by rfl, tkZ⟩) ?_
             (try simp only [Act.put, p1, p2, p3, p4, p5, p6])
             refine tkQ 48 rfl (Or.inl ⟨by rfl, tkZ⟩) ?_
             refine tkQ 49 rfl (Or.inl ⟨by rfl, tkZ⟩) ?_
             refine tkQ 50 rfl (Or.inl ⟨by rfl, tkZ⟩) ?_
             (try simp only [Act.put, p1, p2, p3, p4, p5, p6])
             refine tkQ 51 rfl (Or.inl ⟨by rfl, tkZ⟩) ?_
             refine tkQ 52 rfl (Or.inl ⟨by rfl, tkZ⟩) ?_
             refine tkQ 53 rfl (Or.inl ⟨by rfl, tkZ⟩) ?_
             (try simp only [Act.put, p1, p2, p3, p4, p5, p6])
             refine tkQ 54 rfl (Or.inl ⟨by rfl, tkZ⟩) ?_
             refine tkQ 55 rfl (Or.inl ⟨by rfl, tkZ⟩) ?_
             (try simp only [Act.put, p1, p2, p3, p4, p5, p6])
             refine wpAnyH_done (by kernel_rfl) ?_ _
             go_wp2_with fail
             go_roundw
             case rel => exact ⟨k + 1, by go_num, by omega, Bw.trans hbz BWX⟩
             case measure => simp [intOf]; omega
           ·have ez := (H2.out (by omega)).symm
            simp only [Prod.mk.injEq] at ez
            obtain ⟨rfl, rfl, rfl, rfl⟩ := ez
            have j2 : (c0 : Int) ≤ (k : Int) := by omega
            have j2n : ¬ (k : Int) < (c0 : Int) := by omega
            have j5 : (c0 : Int) < (Cn : Int) - (m0 : Int) := by omega
            have j5n : ¬ (Cn : Int) - (m0 : Int) ≤ (c0 : Int) := by omega
            have j3 : (k : Int) < (Cn : Int) - (m0 : Int) := by omega
            have j3n : ¬ (Cn : Int) - (m0 : Int) ≤ (k : Int) := by omega
            have hwcm : IntKind.i64.wrap ((c0 : Int) + (m0 : Int)) = (c0 : Int) + (m0 : Int) := IntWalk.i64_in _ (by omega)
            have j4 : (c0 : Int) + (m0 : Int) ≤ (k : Int) := by omega
            have j4n : ¬ (k : Int) < (c0 : Int) + (m0 : Int) := by omega
            go_upto_region 20 with (fail)
            all_goals
             refine wp_region_held_drew (S := (fun w' => w'.cell? ⟨g12, 2, none⟩ = some (.slice (some ⟨gb, ob, none⟩) n7 c7) ∧ w'.cell? ⟨g11, 2, none⟩ = some (.slice (some ⟨gt, ot, none⟩) n7 c5) ∧ w'.cell? ⟨g, 2, none⟩ = some (.slice (some ⟨gs, os, none⟩) n7 cg) ∧ w'.cell? ⟨gq, 0, none⟩ = some (.int .i64 113) ∧ w'.cell? ⟨gq, 1, none⟩ = some (.int .i64 0) ∧ w'.cell? ⟨gq, 2, none⟩ = some (.int .i64 0) ∧ w'.cell? ⟨gq, 3, none⟩ = some (.int .i64 0) ∧ w'.cell? ⟨wz.heap.size, 0, none⟩ = some (.int .i64 u1) ∧ w'.cell? ⟨wz.heap.size, 1, none⟩ = some (.int .i64 u2) ∧ w'.cell? ⟨wz.heap.size, 2, none⟩ = some (.int .i64 u3) ∧ w'.cell? ⟨wz.heap.size, 3, none⟩ = some (.int .i64 u4) ∧ w'.cell? ⟨gs, os + (p + k) * 4, none⟩ = some (.int .i64 u1) ∧ w'.cell? ⟨gs, os + (p + k) * 4 + 1, none⟩ = some (.int .i64 u2) ∧ w'.cell? ⟨gs, os + (p + k) * 4 + 2, none⟩ = some (.int .i64 u3) ∧ w'.cell? ⟨gs, os + (p + k) * 4 + 3, none⟩ = some (.int .i64 u4) ∧ w'.cell? ⟨gt, ot + (p + k) * 4, none⟩ = some (.int .i64 v1) ∧ w'.cell? ⟨gt, ot + (p + k) * 4 + 1, none⟩ = some (.int .i64 v2) ∧ w'.cell? ⟨gt, ot + (p + k) * 4 + 2, none⟩ = some (.int .i64 v3) ∧ w'.cell? ⟨gt, ot + (p + k) * 4 + 3, none⟩ = some (.int .i64 v4) ∧ w'.cell? ⟨gb, ob + (p + k) * 4, none⟩ = some (.int .i64 u1) ∧ w'.cell? ⟨gb, ob + (p + k) * 4 + 1, none⟩ = some (.int .i64 u2) ∧ w'.cell? ⟨gb, ob + (p + k) * 4 + 2, none⟩ = some (.int .i64 u3) ∧ w'.cell? ⟨gb, ob + (p + k) * 4 + 3, none⟩ = some (.int .i64 u4))) (by kernel_rfl) ?_ (fun hHeld => ?_)
             ·(try dsimp only); (first | exact hHeld | (refine ⟨?_, ?_, ?_, ?_, ?_, ?_, ?_, ?_, ?_, ?_, ?_, ?_, ?_, ?_, ?_, ?_, ?_, ?_, ?_, ?_, ?_, ?_, ?_⟩ <;> exact CELAX))
             refine tkQ 0 rfl (Or.inl ⟨by rfl, tkZ⟩) ?_
             refine tkQ 1 rfl (Or.inl ⟨by rfl, tkZ⟩) ?_
             refine tkQ 2 rfl (Or.inl ⟨by rfl, tkZ⟩) ?_
             (try simp only [Act.put, p1, p2, p3, p4, p5, p6])
             refine tkQ 3 rfl (Or.inl ⟨by rfl, tkZ⟩) ?_
             refine tkQ 4 rfl (Or.inl ⟨by rfl, tkZ⟩) ?_
             refine tkQ 5 rfl (Or.inl ⟨by rfl, tkZ⟩) ?_
             (try simp only [Act.put, p1, p2, p3, p4, p5, p6])
             refine tkQ 6 rfl (Or.inl ⟨by rfl, tkZ⟩) ?_
             refine tkQ 7 rfl (Or.inl ⟨by rfl, tkZ⟩) ?_
             refine tkQ 8 rfl (Or.inl ⟨by rfl, tkZ⟩) ?_
             (try simp only [Act.put, p1, p2, p3, p4, p5, p6])
             refine tkQ 9 rfl (Or.inl ⟨by rfl, tkZ⟩) ?_
             refine tkQ 10 rfl (Or.inl ⟨by rfl, tkZ⟩) ?_
             refine tkQ 11 rfl (Or.inl ⟨by rfl, tkZ⟩) ?_
             (try simp only [Act.put, p1, p2, p3, p4, p5, p6])
             refine tkQ 12 rfl (Or.inl ⟨by rfl, tkZ⟩) ?_
             refine tkQ 13 rfl (Or.inl ⟨by rfl, tkZ⟩) ?_
             refine tkQ 14 rfl (Or.inl ⟨by rfl, tkZ⟩) ?_
             (try simp only [Act.put, p1, p2, p3, p4, p5, p6])
             refine tkQ 15 rfl (Or.inl ⟨by rfl, tkZ⟩) ?_
             refine tkQ 16 rfl (Or.inl ⟨by rfl, tkZ⟩) ?_
             refine tkQ 17 rfl (Or.inr ⟨by rfl, rfl⟩) ?_
             (try simp only [Act.put, p1, p2, p3, p4, p5, p6])
             refine tkQ 18 rfl (Or.inr ⟨by rfl, rfl⟩) ?_
             refine tkQ 19 rfl (Or.inr ⟨by rfl, rfl⟩) ?_
             refine tkQ 20 rfl (Or.inr ⟨by rfl, rfl⟩) ?_
             (try simp only [Act.put, p1, p2, p3, p4, p5, p6])
             refine tkQ 21 rfl (Or.inr ⟨by rfl, rfl⟩) ?_
             refine tkQ 22 rfl (Or.inr ⟨by rfl, rfl⟩) ?_
             refine tkQ 23 rfl (Or.inr ⟨by rfl, rfl⟩) ?_
             (try simp only [Act.put, p1, p2, p3, p4, p5, p6])
             refine tkQ 24 rfl (Or.inr ⟨by rfl, rfl⟩) ?_
             refine tkQ 25 rfl (Or.inr ⟨by rfl, rfl⟩) ?_
             refine tkQ 26 rfl (Or.inr ⟨by rfl, rfl⟩) ?_
             (try simp only [Act.put, p1, p2, p3, p4, p5, p6])
             refine tkQ 27 rfl (Or.inr ⟨by rfl, rfl⟩) ?_
             refine tkQ 28 rfl (Or.inl ⟨by rfl, tkZ⟩) ?_
             refine tkQ 29 rfl (Or.inl ⟨by rfl, tkZ⟩) ?_
             (try simp only [Act.put, p1, p2, p3, p4, p5, p6])
             refine tkQ 30 rfl (Or.inl ⟨by rfl, tkZ⟩) ?_
             refine tkQ 31 rfl (Or.inl ⟨by rfl, tkZ⟩) ?_
             refine tkQ 32 rfl (Or.inl ⟨by rfl, tkZ⟩) ?_
             (try simp only [Act.put, p1, p2, p3, p4, p5, p6])
             refine tkQ 33 rfl (Or.inl ⟨by rfl, tkZ⟩) ?_
             refine tkQ 34 rfl (Or.inl ⟨by rfl, tkZ⟩) ?_
             refine tkQ 35 rfl (Or.inl ⟨by rfl, tkZ⟩) ?_
             (try simp only [Act.put, p1, p2, p3, p4, p5, p6])
             refine tkQ 36 rfl (Or.inl ⟨by rfl, tkZ⟩) ?_
             refine tkQ 37 rfl (Or.inl ⟨by rfl, tkZ⟩) ?_
             refine tkQ 38 rfl (Or.inl ⟨by rfl, tkZ⟩) ?_
             (try simp only [Act.put, p1, p2, p3, p4, p5, p6])
             refine tkQ 39 rfl (Or.inl ⟨by rfl, tkZ⟩) ?_
             refine tkQ 40 rfl (Or.inl ⟨by rfl, tkZ⟩) ?_
             refine tkQ 41 rfl (Or.inl ⟨by rfl, tkZ⟩) ?_
             (try simp only [Act.put, p1, p2, p3, p4, p5, p6])
             refine tkQ 42 rfl (Or.inl ⟨by rfl, tkZ⟩) ?_
             refine tkQ 43 rfl (Or.inl ⟨by rfl, tkZ⟩) ?_
             refine tkQ 44 rfl (Or.inl ⟨by rfl, tkZ⟩) ?_
             (try simp only [Act.put, p1, p2, p3, p4, p5, p6])
             refine tkQ 45 rfl (Or.inl ⟨by rfl, tkZ⟩) ?_
             refine tkQ 46 rfl (Or.inl ⟨by rfl, tkZ⟩) ?_
             refine tkQ 47 rfl (Or.inr ⟨by rfl, rfl⟩) ?_
             (try simp only [Act.put, p1, p2, p3, p4, p5, p6])
             refine tkQ 48 rfl (Or.inr ⟨by rfl, rfl⟩) ?_
             refine tkQ 49 rfl (Or.inr ⟨by rfl, rfl⟩) ?_
             refine tkQ 50 rfl (Or.inr ⟨by rfl, rfl⟩) ?_
             (try simp only [Act.put, p1, p2, p3, p4, p5, p6])
             refine tkQ 51 rfl (Or.inr ⟨by rfl, rfl⟩) ?_
             refine tkQ 52 rfl (Or.inr ⟨by rfl, rfl⟩) ?_
             refine tkQ 53 rfl (Or.inr ⟨by rfl, rfl⟩) ?_
             (try simp only [Act.put, p1, p2, p3, p4, p5, p6])
             refine tkQ 54 rfl (Or.inl ⟨by rfl, tkZ⟩) ?_
             refine tkQ 55 rfl (Or.inl ⟨by rfl, tkZ⟩) ?_
             (try simp only [Act.put, p1, p2, p3, p4, p5, p6])
             refine wpAnyH_done (by kernel_rfl) ?_ _
             go_wp2_with fail
             go_roundw
             case rel => exact ⟨k + 1, by go_num, by omega, Bw.trans hbz BWX⟩
             case measure => simp [intOf]; omega
          ·have hkI : ¬ (k : Int) < Cn := by omega
           go_wp2_with fail
           go_roundw
           case rel => exact ⟨r + 1, by go_num, by omega, hbz⟩
           case measure => simp [intOf]; omega
        ·have hrI : ¬ (r : Int) < Rn := by omega
         go_wp2_with fail
         go_ret
         exact ⟨rfl, Bw.trans HBW.out hby⟩
      exact AllReadyH.nil
     exact AllReadyH.nil
    exact AllReadyH.nil
   exact AllReadyH.nil
  exact AllReadyH.nil
 exact AllReadyH.nil
end Go.Proofs.Ytccfpehcadpkiaa
