/- The law AttrBack: walked, where the attributes differ. -/
import Derived.Test.YtacekeobmijipaaDoorAtI
import Derived.Deep.AppendLies
set_option linter.unusedSimpArgs false
set_option linter.unusedVariables false
namespace Go.Proofs.YtacekeobmijipaaDoor
open Go.RowKit

/-- What stays while the law runs: the attribute in block G, the bytes, the old world. -/
def Hd (w : World) (G : Nat) (t1 t2 t3 : Int) (A : Option Addr) (N : Nat) (BL : List Int) (w' : World) : Prop :=
  (w'.cell? ⟨G, 0, none⟩ = some (.int .i64 t1) ∧ w'.cell? ⟨G, 1, none⟩ = some (.int .i64 t2) ∧ w'.cell? ⟨G, 2, none⟩ = some (.int .i64 t3)) ∧ Rd (.int .u8) w' A N BL ∧ Bw w w'
theorem Hd.up {w w1 w2 : World} {G : Nat} {t1 t2 t3 : Int} {A : Option Addr} {N : Nat} {BL : List Int} (h : Hd w G t1 t2 t3 A N BL w1) (hb : Bw w1 w2) : Hd w G t1 t2 t3 A N BL w2 :=
  ⟨⟨cell_bw hb h.1.1, cell_bw hb h.1.2.1, cell_bw hb h.1.2.2⟩, h.2.1.up hb, Bw.trans h.2.2 hb⟩
theorem Hd.grown {w w1 w2 : World} {G : Nat} {t1 t2 t3 : Int} {A : Option Addr} {N : Nat} {BL : List Int} (h : Hd w G t1 t2 t3 A N BL w1) {base m : Nat} {v : Value} {e : TypeId} {ys : List Value} (ho : w1.ownsRow base e 1 v m ys) (hg : w1.grownBy w2 v.ownBlock)
    (hG : G < base) (hA : ∀ ad, A = some ad → ad.block < base) (hw : w.heap.size ≤ base) : Hd w G t1 t2 t3 A N BL w2 := by
  have key : ∀ p x, p.block < base → w1.cell? p = some x → w2.cell? p = some x := by
    intro p x hp hx
    cases hob : v.ownBlock with
    | none => rw [hob] at hg; exact cell_bw (Bw.of_grown hg) hx
    | some r =>
      rw [hob] at hg
      have hr := (ho.lt r hob).1
      rw [grown_cell hg (lt_of_cell hx) (by omega)]
      exact hx
  refine ⟨⟨key _ _ hG h.1.1, key _ _ hG h.1.2.1, key _ _ hG h.1.2.2⟩, ⟨h.2.1.1, fun h0 => ?_⟩, Bw.row h.2.2 ho hg hw⟩
  obtain ⟨g, o, rfl, hx⟩ := h.2.1.2 h0
  have := hA _ rfl
  exact ⟨g, o, rfl, fun i hi => key _ _ this (hx i hi)⟩
theorem Hd.set {w w1 : World} {G : Nat} {t1 t2 t3 : Int} {A : Option Addr} {N : Nat} {BL : List Int} (h : Hd w G t1 t2 t3 A N BL w1) {base g j : Nat} (u : Value) (hg : base ≤ g)
    (hG : G < base) (hA : ∀ ad, A = some ad → ad.block < base) (hw : w.heap.size ≤ base) : Hd w G t1 t2 t3 A N BL (w1.setCell ⟨g, j, none⟩ u) := by
  have key : ∀ p x, p.block < base → w1.cell? p = some x → (w1.setCell ⟨g, j, none⟩ u).cell? p = some x := by
    intro p x hp hx
    rw [World.cell?_setCell_other]
    · exact hx
    · intro e; subst e; dsimp only at hp; omega
  refine ⟨⟨key _ _ hG h.1.1, key _ _ hG h.1.2.1, key _ _ hG h.1.2.2⟩, ⟨h.2.1.1, fun h0 => ?_⟩, h.2.2.set (by dsimp only; omega) _⟩
  obtain ⟨g', o, rfl, hx⟩ := h.2.1.2 h0
  have := hA _ rfl
  exact ⟨g', o, rfl, fun i hi => key _ _ this (hx i hi)⟩

theorem Hd.at {w w1 : World} {G : Nat} {t1 t2 t3 : Int} {g o l : Nat} {M BL : List Int} (h : Hd w G t1 t2 t3 (some ⟨g, o, none⟩) (l + 3) BL w1) (hB : BL = 27 :: 91 :: (M ++ [109])) (hl : l = M.length) (j : Nat) (hj : j < M.length) :
    w1.cell? ⟨g, o + 2 + j, none⟩ = some (.int .u8 M[j]) := by
  obtain ⟨g', o', e8, hx⟩ := h.2.1.2 (by omega)
  cases e8
  subst hB
  have := hx (j + 2) (by simp; omega)
  rw [show o + 2 + j = o + (j + 2) by omega, this]
  simp [hj]

set_option maxRecDepth 100000 in
set_option maxHeartbeats 4000000 in
theorem back_diff (n m k : Int) (w : World) (n0 : -9223372036854775808 ≤ n) (n1 : n ≤ 9223372036854775807) (m0 : -9223372036854775808 ≤ m) (m1 : m ≤ 9223372036854775807) (k0 : -9223372036854775808 ≤ k) (k1 : k ≤ 9223372036854775807) (ht : PowT w.heap.size w) (he : madeA n ≠ madeA m) :
    Calls Tryd.prog 5 #[.int .i64 n, .int .i64 m, .int .i64 k] w fun e w' => e = .returned (.bool true) ∧ Bw w w' := by
  have HT := Lib.hid ht
  obtain ⟨t1, t2, t3, hm⟩ : ∃ t1 t2 t3, madeA m = (t1, t2, t3) := ⟨_, _, _, rfl⟩
  obtain ⟨p1, p2, p3, hn⟩ : ∃ p1 p2 p3, madeA n = (p1, p2, p3) := ⟨_, _, _, rfl⟩
  obtain ⟨q1, q2, q3, hk⟩ : ∃ q1 q2 q3, madeA k = (q1, q2, q3) := ⟨_, _, _, rfl⟩
  have hmv : avB t1 t2 t3 = true := by have := madeA_valid m; rw [hm] at this; exact this
  have hnv : avB p1 p2 p3 = true := by have := madeA_valid n; rw [hn] at this; exact this
  rw [hn, hm] at he
  have hne : p1 ≠ t1 ∨ p2 ≠ t2 ∨ p3 ≠ t3 := by
    by_cases h1 : p1 = t1
    · by_cases h2 : p2 = t2
      · exact .inr (.inr fun h3 => he (by rw [h1, h2, h3]))
      · exact .inr (.inl h2)
    · exact .inl h1
  have HM := Lib.hid hm
  have HN := Lib.hid hn
  have HK := Lib.hid hk
  have HV := Lib.hid hmv
  have HNV := Lib.hid hnv
  have HNE := Lib.hid hne
  obtain ⟨D, hD⟩ : ∃ D, D = fullN t1 t2 t3 := ⟨_, rfl⟩
  have hbd := fullN_bd t1 t2 t3 hmv
  rw [← hD] at hbd
  have HD := Lib.hid hD
  have hback := full_back t1 t2 t3 hmv
  rw [← hD] at hback
  have HBK := Lib.hid hback
  have hgd := gd_all D [] 0 (by simp; omega) (by omega) (by omega) hbd.1
  have HGD := Lib.hid hgd
  obtain ⟨M, hMM⟩ : ∃ M, M = 48 :: D.flatMap wr1 := ⟨_, rfl⟩
  obtain ⟨BL, hBL⟩ : ∃ BL, BL = bytesOf D ++ [109] := ⟨_, rfl⟩
  have hBM : BL = 27 :: 91 :: (M ++ [109]) := by rw [hBL, hMM]; unfold bytesOf; simp
  obtain ⟨l, hl⟩ : ∃ l, l = M.length := ⟨_, rfl⟩
  have hl1 : 1 ≤ l := by rw [hl, hMM, List.length_cons]; omega
  have hl2 : l ≤ 200 := by
    have h1 := bytesOf_len D (fun d hd => by have := hbd.1 d hd; omega)
    have h2 : (bytesOf D ++ [109]).length = l + 3 := by rw [← hBL, hBM, hl]; simp
    rw [List.length_append] at h2
    simp only [List.length_cons, List.length_nil] at h2
    omega
  have hgM : gd ([], 0) M = true := by
    rw [hMM]
    show (okS ([], 0) && (okC 48 && gd (stp ([], 0) 48) (D.flatMap wr1))) = true
    rw [show stp ([], 0) 48 = ([], 0) from rfl, hgd.1]
    rfl
  have hfM : (fin ([], 0) M).1 ++ [(fin ([], 0) M).2] = 0 :: D := by
    rw [hMM]
    show (fin (stp ([], 0) 48) (D.flatMap wr1)).1 ++ [(fin (stp ([], 0) 48) (D.flatMap wr1)).2] = 0 :: D
    rw [show stp ([], 0) 48 = ([], 0) from rfl, hgd.2]
    rfl
  have HGM := Lib.hid hgM
  have HFM := Lib.hid hfM
  have HBL := Lib.hid hBL
  have HBM := Lib.hid hBM
  have HL := Lib.hid hl
  clear ht he hm hn hk hmv hnv hne hD hbd hback hgd hMM hBL hBM hgM hfM hl
  obtain ⟨j0, hj, hj0, hj1, hj2⟩ := info_parts infoI
  go_enter Tryd.func5, Tryd.ntmps5
  go_upto_region 4 with (first
    | (go_at_call 7; refine (sane15_any _ HT.out).mono ?_; rintro ee ws ⟨rfl, hbs⟩)
    | (go_at_call 8; refine (made15_any m _ m0 m1).mono ?_; rintro ee wm ⟨rfl, hbm⟩; rw [HM.out]; dsimp only [at3, atV])
    | fail)
  have hY : ∀ w', Bw (wm.alloc (.cells #[.int .i64 t1, .int .i64 t2, .int .i64 t3] 23)) w' → (w'.cell? ⟨wm.heap.size, 0, none⟩ = some (.int .i64 t1) ∧ w'.cell? ⟨wm.heap.size, 1, none⟩ = some (.int .i64 t2) ∧ w'.cell? ⟨wm.heap.size, 2, none⟩ = some (.int .i64 t3)) := fun w' hb => ⟨cell_bw hb (by repeat (first | ((with_reducible refine cell_alloc_here ?_ ?_); (focus (first | omega | (simp only [szA, szS, szD, szN, plus_size, Array.size_append] <;> omega))); (focus rfl)) | with_reducible refine cell_alloc_some ?_ _ | with_reducible refine cell_plus_some ?_ _ _ | ((with_reducible refine cell_set_some ?_ ?_); (focus (first | omega | (simp only [szA, szS, szD, szN, plus_size, Array.size_append] <;> omega)))) | with_reducible refine cell_drew_some ?_ | with_reducible refine cell_drewN_some ?_ _)), cell_bw hb (by repeat (first | ((with_reducible refine cell_alloc_here ?_ ?_); (focus (first | omega | (simp only [szA, szS, szD, szN, plus_size, Array.size_append] <;> omega))); (focus rfl)) | with_reducible refine cell_alloc_some ?_ _ | with_reducible refine cell_plus_some ?_ _ _ | ((with_reducible refine cell_set_some ?_ ?_); (focus (first | omega | (simp only [szA, szS, szD, szN, plus_size, Array.size_append] <;> omega)))) | with_reducible refine cell_drew_some ?_ | with_reducible refine cell_drewN_some ?_ _)), cell_bw hb (by repeat (first | ((with_reducible refine cell_alloc_here ?_ ?_); (focus (first | omega | (simp only [szA, szS, szD, szN, plus_size, Array.size_append] <;> omega))); (focus rfl)) | with_reducible refine cell_alloc_some ?_ _ | with_reducible refine cell_plus_some ?_ _ _ | ((with_reducible refine cell_set_some ?_ ?_); (focus (first | omega | (simp only [szA, szS, szD, szN, plus_size, Array.size_append] <;> omega)))) | with_reducible refine cell_drew_some ?_ | with_reducible refine cell_drewN_some ?_ _))⟩
  have HY := Lib.hid hY
  clear hY
  go_cut [8] (fun s w' => ∃ A c, s = .slice A (l + 3) c ∧ l + 3 ≤ c ∧ c ≤ 9223372036854775807 ∧ Hd w wm.heap.size t1 t2 t3 A (l + 3) BL w')
  case first =>
    go_region_held3 (fun w' => w'.cell? ⟨wm.heap.size, 0, none⟩ = some (.int .i64 t1) ∧ w'.cell? ⟨wm.heap.size, 1, none⟩ = some (.int .i64 t2) ∧ w'.cell? ⟨wm.heap.size, 2, none⟩ = some (.int .i64 t3)) ((first | (exact HY.out _ (by repeat (first | with_reducible assumption | with_reducible exact Bw.refl _ | with_reducible refine Bw.alloc ?_ _ | with_reducible refine Bw.more ?_ _ _ | with_reducible refine Bw.drew ?_ | with_reducible refine Bw.drewN ?_ _ | ((with_reducible refine Bw.set2 ?_ ?_ _); (focus (first | omega | (simp only [szA, szS, szD, szN, plus_size, Array.size_append] <;> omega)))) | with_reducible refine Bw.trans ?_ (by with_reducible assumption)))) | fail)) ((first
      | (go_at_call 8; refine (made15_any n _ n0 n1).mono ?_; rintro ee wa ⟨rfl, hba⟩; rw [HN.out]; dsimp only [at3, atV])
      | (go_at_call 9; refine (bytes_go p1 p2 p3 t1 t2 t3 _ HNV.out HV.out HNE.out (HT.out.later (show Bw w _ from (by repeat (first | with_reducible assumption | with_reducible exact Bw.refl _ | with_reducible refine Bw.alloc ?_ _ | with_reducible refine Bw.more ?_ _ _ | with_reducible refine Bw.drew ?_ | with_reducible refine Bw.drewN ?_ _ | ((with_reducible refine Bw.set2 ?_ ?_ _); (focus (first | omega | (simp only [szA, szS, szD, szN, plus_size, Array.size_append] <;> omega)))) | with_reducible refine Bw.trans ?_ (by with_reducible assumption)))))).mono ?_; rintro ee wb ⟨v8, rfl, hS8, hbb⟩; have HS8 := Lib.hid hS8)
      | fail))
    all_goals (have hS9 : Sl (.int .u8) wb v8 BL := (by rw [HBL.out, HD.out]; exact hS8))
    all_goals (obtain ⟨A, c, rfl, hc1, hc2, hc3⟩ := hS9.get (N := l + 3) (by rw [HBM.out, HL.out]; simp))
    all_goals
      go_wp2
      go_meet
      case rel => exact ⟨A, c, rfl, hc1, hc2, HY.out _ (by repeat (first | with_reducible assumption | with_reducible exact Bw.refl _ | with_reducible refine Bw.alloc ?_ _ | with_reducible refine Bw.more ?_ _ _ | with_reducible refine Bw.drew ?_ | with_reducible refine Bw.drewN ?_ _ | ((with_reducible refine Bw.set2 ?_ ?_ _); (focus (first | omega | (simp only [szA, szS, szD, szN, plus_size, Array.size_append] <;> omega)))) | with_reducible refine Bw.trans ?_ (by with_reducible assumption))), hc3, (by repeat (first | with_reducible assumption | with_reducible exact Bw.refl _ | with_reducible refine Bw.alloc ?_ _ | with_reducible refine Bw.more ?_ _ _ | with_reducible refine Bw.drew ?_ | with_reducible refine Bw.drewN ?_ _ | ((with_reducible refine Bw.set2 ?_ ?_ _); (focus (first | omega | (simp only [szA, szS, szD, szN, plus_size, Array.size_append] <;> omega)))) | with_reducible refine Bw.trans ?_ (by with_reducible assumption)))⟩
  case rest =>
  obtain ⟨A8, c8, rfl, hc8, hcm8, hHd⟩ := hcut
  have hl8 := hHd.2.1.1
  obtain ⟨g, o, rfl, hx⟩ := hHd.2.1.2 (by omega)
  have HHd := Lib.hid hHd
  have hgl := lt_of_cell (hx 0 (by omega))
  dsimp only at hgl
  have hGl := lt_of_cell hHd.1.1
  dsimp only at hGl
  clear hHd hx
  obtain ⟨wx, hwx⟩ : ∃ wx : World, wx = wc := ⟨_, rfl⟩
  subst hwx
  go_upto_region 5 with (fail)
  go_cut [23] (fun s w' => s = .bool false ∧ Hd w wm.heap.size t1 t2 t3 (some ⟨g, o, none⟩) (l + 3) BL w')
  case first =>
    have h3 : ¬ p1 = t1 ∨ (p1 = t1 ∧ ¬ p2 = t2) ∨ (p1 = t1 ∧ p2 = t2 ∧ ¬ p3 = t3) := by have := HNE.out; omega
    clear HNE
    rcases h3 with h | ⟨h', h⟩ | ⟨h', h'', h⟩
    all_goals
      go_region_held3 (fun w' => w'.cell? ⟨wm.heap.size, 0, none⟩ = some (.int .i64 t1) ∧ w'.cell? ⟨wm.heap.size, 1, none⟩ = some (.int .i64 t2) ∧ w'.cell? ⟨wm.heap.size, 2, none⟩ = some (.int .i64 t3)) ((first | (exact (HHd.out.up (by repeat (first | with_reducible assumption | with_reducible exact Bw.refl _ | with_reducible refine Bw.alloc ?_ _ | with_reducible refine Bw.more ?_ _ _ | with_reducible refine Bw.drew ?_ | with_reducible refine Bw.drewN ?_ _ | ((with_reducible refine Bw.set2 ?_ ?_ _); (focus (first | omega | (simp only [szA, szS, szD, szN, plus_size, Array.size_append] <;> omega)))) | with_reducible refine Bw.trans ?_ (by with_reducible assumption)))).1) | fail)) ((first
        | (go_at_call 8; refine (made15_any n _ n0 n1).mono ?_; rintro ee wa ⟨rfl, hba⟩; rw [HN.out]; dsimp only [at3, atV])
        | fail))
    all_goals
      go_wp2
      go_meet
      case rel => exact ⟨by first | (simp [h]; done) | (simp [h', h]; done) | (simp [h', h'', h]; done), HHd.out.up (by repeat (first | with_reducible assumption | with_reducible exact Bw.refl _ | with_reducible refine Bw.alloc ?_ _ | with_reducible refine Bw.more ?_ _ _ | with_reducible refine Bw.drew ?_ | with_reducible refine Bw.drewN ?_ _ | ((with_reducible refine Bw.set2 ?_ ?_ _); (focus (first | omega | (simp only [szA, szS, szD, szN, plus_size, Array.size_append] <;> omega)))) | with_reducible refine Bw.trans ?_ (by with_reducible assumption)))⟩
  case rest =>
  obtain ⟨rfl, hHd5⟩ := hcut
  have hx := hHd5.2.1.2 (by omega)
  obtain ⟨g', o', e8, hx⟩ := hx
  cases e8
  have x0 : wc.cell? ⟨g, o, none⟩ = some (.int .u8 27) := by have h5 := hx 0 (by omega); have e : BL[0]'(by omega) = 27 := (by simp [HBM.out]); rw [e] at h5; exact h5
  have x1 : wc.cell? ⟨g, o + 1, none⟩ = some (.int .u8 91) := by have h5 := hx 1 (by omega); have e : BL[1]'(by omega) = 91 := (by simp [HBM.out]); rw [e] at h5; exact h5
  have x2 : wc.cell? ⟨g, o + (l + 2), none⟩ = some (.int .u8 109) := by
    have := hx (l + 2) (by omega)
    rw [this]
    have e : BL[l + 2]'(by omega) = 109 := by simp [HBM.out, HL.out]
    rw [e]
  have HHd5 := Lib.hid hHd5
  have hgc : g < wc.heap.size := by have := lt_of_cell x0; simpa using this
  have hGc : wm.heap.size < wc.heap.size := by have := lt_of_cell HHd5.out.1.1; simpa using this
  have hwc : w.heap.size ≤ wc.heap.size := HHd5.out.2.2.size
  clear hHd5 hx
  obtain ⟨o2, ho2⟩ : ∃ o2, o2 = o + 2 := ⟨_, rfl⟩
  obtain ⟨c2, hc2⟩ : ∃ c2, c2 = c8 - 2 := ⟨_, rfl⟩
  have hlc2 : l ≤ c2 := by omega
  have hc2m : c2 ≤ 9223372036854775807 := by omega
  have HO2 := Lib.hid ho2
  have HC2 := Lib.hid hc2
  go_upto_region 10 with (fail)
  go_cut [56, 57, 58] (fun a b c w' => a = .slice (some ⟨g, o2, none⟩) l c2 ∧ b = .int .i64 l ∧ c = .int .i64 0 ∧ wc.alloc (.cells #[.int .i64 0] 3) = w')
  case first =>
    go_wp2
    go_meet
    case rel => exact ⟨by first | (rw [ho2, hc2]; done) | (rw [ho2, hc2]; congr 1 <;> omega) | (subst ho2 hc2; congr 1 <;> omega), by first | rfl | (congr 1; done) | (congr 1; omega), rfl, rfl⟩
  case rest =>
  obtain ⟨rfl, rfl, rfl, rfl⟩ := hcut
  clear ho2 hc2
  go_wp2_with fail
  go_loopw [9, 58] (fun s9 i wr => ∃ (j : Nat) (p : List Int) (q : Int), i = .int .i64 j ∧ j ≤ l ∧ wr.ownsRow wc.heap.size 3 1 s9 (p.length + 1) ((p ++ [q]).map (.int .i64)) ∧ gd (p, q) (M.drop j) = true ∧ fin (p, q) (M.drop j) = fin ([], 0) M ∧ Hd w wm.heap.size t1 t2 t3 (some ⟨g, o, none⟩) (l + 3) BL wr) (fun _ i _ => l - (intOf i).toNat)
  case atStart =>
    exact ⟨0, [], 0, rfl, by omega, own_lit (cs := #[.int .i64 0]) rfl (Nat.le_refl _) (by unfold maxLen; decide) rfl rfl, HGM.out, rfl, HHd5.out.up (by repeat (first | with_reducible assumption | with_reducible exact Bw.refl _ | with_reducible refine Bw.alloc ?_ _ | with_reducible refine Bw.more ?_ _ _ | with_reducible refine Bw.drew ?_ | with_reducible refine Bw.drewN ?_ _ | ((with_reducible refine Bw.set2 ?_ ?_ _); (focus (first | omega | (simp only [szA, szS, szD, szN, plus_size, Array.size_append] <;> omega)))) | with_reducible refine Bw.trans ?_ (by with_reducible assumption)))⟩
  case round =>
    clear x0 x1 x2
    obtain ⟨j, p, q, rfl, hjl, hown, hgd, hfin, hH⟩ := hrel
    obtain ⟨A9, c9, rfl, hc9, hc9m⟩ := own_form hown
    have hR9 := own_rd hown
    have hA9 : ∃ g9, A9 = some ⟨g9, 0, none⟩ := by
      rcases hown.2 with ⟨e1, e2⟩ | ⟨g9, cap, cur, e1, _⟩
      · omega
      · cases e1; exact ⟨_, rfl⟩
    obtain ⟨g9, rfl⟩ := hA9
    have HO := Lib.hid hown
    have HH := Lib.hid hH
    have hg9 := hown.lt g9 rfl
    have x9 : wr.cell? ⟨g9, p.length, none⟩ = some (.int .i64 q) := by
      rw [hown.cellAt _ (by omega)]
      simp
    have f9 : wr.frozen? ⟨g9, p.length, none⟩ = false := hown.frozenAt _
    obtain ⟨y0, y1, y2⟩ := hH.1
    by_cases hlt : j < l
    · have hltM : j < M.length := by have := HL.out; omega
      obtain ⟨c, hcc⟩ : ∃ c, c = M[j] := ⟨_, rfl⟩
      rw [List.drop_eq_getElem_cons hltM, ← hcc] at hgd hfin
      obtain ⟨hs, hC, hgd2⟩ := gd_cons hgd
      have hfin2 : fin (stp (p, q) c) (M.drop (j + 1)) = fin ([], 0) M := hfin
      have hs2 : p.length ≤ 100 ∧ 0 ≤ q ∧ q ≤ 1000 := of_decide_eq_true hs
      have hC2 : c = 59 ∨ (48 ≤ c ∧ c ≤ 57) := of_decide_eq_true hC
      have xc := hH.at HBM.out HL.out j hltM
      rw [← hcc, ← HO2.out] at xc
      have HG2 := Lib.hid hgd2
      have HF2 := Lib.hid hfin2
      obtain ⟨hs3, hs4, hs5⟩ := hs2
      clear hgd hfin hs hC hgd2 hfin2 hcc hH hown hR9
      rcases hC2 with rfl | ⟨hc48, hc57⟩
      · go_wp2_with (first
          | (at_builtin; refine wpList_append_srcG (by rfl) (.tmp 65) (.tmp 66) 30 rfl wc.heap.size 3 j0 (.int .i64 0) 1 8 Tryd.underlying30 hj hj0 hj1 hj2 rfl (by decide) (.slice (some ⟨g9, 0, none⟩) (p.length + 1) c9) (p.length + 1) _ (by rfl) (HO.out.alloc _) (some ⟨_, 0, none⟩) 1 1 [.int .i64 0] (by rfl) rfl (fun e => by cases e) (fun ad e => by cases e; exact cell_one_new _ _ _) (by simp; rfl) (by unfold maxLen; omega) (by omega) (by (first | omega | (simp only [szA, szS, szD, szN, plus_size, Array.size_append] <;> omega))) ?_; intro v1 w1 hown1 hg1; obtain ⟨A1, c1, rfl, hc1, hc1m⟩ := own_form hown1; have hH1 := Hd.grown (HH.out.up (w2 := wr.alloc _) (by repeat (first | with_reducible assumption | with_reducible exact Bw.refl _ | with_reducible refine Bw.alloc ?_ _ | with_reducible refine Bw.more ?_ _ _ | with_reducible refine Bw.drew ?_ | with_reducible refine Bw.drewN ?_ _ | ((with_reducible refine Bw.set2 ?_ ?_ _); (focus (first | omega | (simp only [szA, szS, szD, szN, plus_size, Array.size_append] <;> omega)))) | with_reducible refine Bw.trans ?_ (by with_reducible assumption)))) (HO.out.alloc _) hg1 hGc (fun ad e => by cases e; exact hgc) hwc)
          | fail)
        go_roundw
        case rel =>
          refine ⟨j + 1, p ++ [q], 0, by go_num, by omega, ?_, ?_, ?_, hH1.up (by repeat (first | with_reducible assumption | with_reducible exact Bw.refl _ | with_reducible refine Bw.alloc ?_ _ | with_reducible refine Bw.more ?_ _ _ | with_reducible refine Bw.drew ?_ | with_reducible refine Bw.drewN ?_ _ | ((with_reducible refine Bw.set2 ?_ ?_ _); (focus (first | omega | (simp only [szA, szS, szD, szN, plus_size, Array.size_append] <;> omega)))) | with_reducible refine Bw.trans ?_ (by with_reducible assumption)))⟩
          · rw [List.length_append, List.map_append]
            exact hown1
          · have := HG2.out; rw [stp_sep] at this; exact this
          · have := HF2.out; rw [stp_sep] at this; exact this
        case measure => simp [intOf]; omega
      · have hne : (c == 59) = false := by simp; omega
        have h5 : ¬ c = 59 := by omega
        go_wp2_with fail
        go_roundw
        case rel =>
          refine ⟨j + 1, p, 10 * q + (c - 48), by go_num, by omega, ?_, ?_, ?_, HH.out.set _ hg9.1 hGc (fun ad e => by cases e; exact hgc) hwc⟩
          · have h6 := (HO.out.stored p.length (.int .i64 (10 * q + (c - 48)))).1
            rw [List.map_append, List.set_append_right _ _ (by simp)] at h6
            rw [List.map_append]
            simpa using h6
          · have := HG2.out; rw [stp_dig h5] at this; exact this
          · have := HF2.out; rw [stp_dig h5] at this; exact this
        case measure => simp [intOf]; omega
    · obtain rfl : j = l := by omega
      rw [show M.drop j = [] by rw [HL.out]; simp] at hfin
      have hpq : p ++ [q] = 0 :: D := by
        have h6 : (p, q) = fin ([], 0) M := hfin
        have h7 := HFM.out
        rw [← h6] at h7
        exact h7
      rw [hpq] at hR9
      have HRp := Lib.hid hR9
      have HNil := Lib.hid (own_nil hown)
      clear hgd hfin hpq hR9 hown hH
      go_upto_region 19 with (fail)
      go_region_held3 (fun w' => w'.cell? ⟨wm.heap.size, 0, none⟩ = some (.int .i64 t1) ∧ w'.cell? ⟨wm.heap.size, 1, none⟩ = some (.int .i64 t2) ∧ w'.cell? ⟨wm.heap.size, 2, none⟩ = some (.int .i64 t3)) ((first | (exact (HH.out.up (by repeat (first | with_reducible assumption | with_reducible exact Bw.refl _ | with_reducible refine Bw.alloc ?_ _ | with_reducible refine Bw.more ?_ _ _ | with_reducible refine Bw.drew ?_ | with_reducible refine Bw.drewN ?_ _ | ((with_reducible refine Bw.set2 ?_ ?_ _); (focus (first | omega | (simp only [szA, szS, szD, szN, plus_size, Array.size_append] <;> omega)))) | with_reducible refine Bw.trans ?_ (by with_reducible assumption)))).1) | fail)) ((first
        | (go_at_call 8; refine (made15_any _ _ (by first | exact n0 | exact k0) (by first | exact n1 | exact k1)).mono ?_; rintro ee wa ⟨rfl, hba⟩; (first | rw [HN.out] | rw [HK.out]); dsimp only [at3, atV])
        | (go_at_call 16; refine (apply_any _ _ _ _ _ _ (0 :: D) _ (by exact HRp.out.up (by repeat (first | with_reducible assumption | with_reducible exact Bw.refl _ | with_reducible refine Bw.alloc ?_ _ | with_reducible refine Bw.more ?_ _ _ | with_reducible refine Bw.drew ?_ | with_reducible refine Bw.drewN ?_ _ | ((with_reducible refine Bw.set2 ?_ ?_ _); (focus (first | omega | (simp only [szA, szS, szD, szN, plus_size, Array.size_append] <;> omega)))) | with_reducible refine Bw.trans ?_ (by with_reducible assumption)))) (by omega) (by omega) HNil.out).mono ?_; rintro ee wb ⟨rfl, hbb⟩; rw [HBK.out]; dsimp only [at3, atV])
        | fail))
      all_goals go_wp2
      all_goals go_ret
      all_goals exact ⟨ret_bool (by simp), HH.out.2.2.trans (by repeat (first | with_reducible assumption | with_reducible exact Bw.refl _ | with_reducible refine Bw.alloc ?_ _ | with_reducible refine Bw.more ?_ _ _ | with_reducible refine Bw.drew ?_ | with_reducible refine Bw.drewN ?_ _ | ((with_reducible refine Bw.set2 ?_ ?_ _); (focus (first | omega | (simp only [szA, szS, szD, szN, plus_size, Array.size_append] <;> omega)))) | with_reducible refine Bw.trans ?_ (by with_reducible assumption)))⟩
end Go.Proofs.YtacekeobmijipaaDoor
