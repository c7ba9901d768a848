/- The law AttrJoins: walked. -/
import Derived.Test.YtacekeobmijipaaDoorAtF
import Derived.Test.YtacekeobmijipaaDoorKey
import Derived.Deep.RegionHeld3
set_option linter.unusedSimpArgs false
set_option linter.unusedVariables false
namespace Go.Proofs.YtacekeobmijipaaDoor
open Go.RowKit

theorem infoI : (Tryd.prog.info? 3).map (fun i => (i.zero, i.size, i.bytes)) = some (some (.int .i64 0), 1, 8) := by kernel_rfl
def nrm (v : Int) : Int := if v % 110 = 38 ∨ v % 110 = 48 then 0 else v % 110
theorem nrm_bd (v : Int) : 0 ≤ nrm v ∧ nrm v < 110 ∧ nrm v ≠ 38 ∧ nrm v ≠ 48 := by
  have h1 := Int.emod_nonneg v (show (110 : Int) ≠ 0 by omega)
  have h2 := Int.emod_lt_of_pos v (show (0 : Int) < 110 by omega)
  unfold nrm
  split <;> omega
theorem applA_app : ∀ (P Q : List Int) (a : Int × Int × Int), (∀ p ∈ P, p ≠ 38 ∧ p ≠ 48) → applA (P ++ Q) a = applA Q (applA P a)
  | [], Q, a, _ => rfl
  | p :: t, Q, a, h => by
    have hp := h p (by simp)
    rw [List.cons_append, applA_one _ _ _ hp.1 hp.2, applA_one _ _ _ hp.1 hp.2, applA_app t Q _ (fun x hx => h x (by simp [hx]))]
theorem bits7 (f : Int) (h0 : 0 ≤ f) (h1 : f ≤ 7) : (0 ≤ bits .or .i64 f 1 ∧ bits .or .i64 f 1 ≤ 7) ∧ (0 ≤ bits .or .i64 f 2 ∧ bits .or .i64 f 2 ≤ 7) ∧ (0 ≤ bits .or .i64 f 4 ∧ bits .or .i64 f 4 ≤ 7) ∧
    (0 ≤ bits .andNot .i64 f 1 ∧ bits .andNot .i64 f 1 ≤ 7) ∧ (0 ≤ bits .andNot .i64 f 2 ∧ bits .andNot .i64 f 2 ≤ 7) ∧ (0 ≤ bits .andNot .i64 f 4 ∧ bits .andNot .i64 f 4 ≤ 7) := by
  have key : ∀ y : Fin 8, (0 ≤ bits .or .i64 (y.val : Int) 1 ∧ bits .or .i64 (y.val : Int) 1 ≤ 7) ∧ (0 ≤ bits .or .i64 (y.val : Int) 2 ∧ bits .or .i64 (y.val : Int) 2 ≤ 7) ∧ (0 ≤ bits .or .i64 (y.val : Int) 4 ∧ bits .or .i64 (y.val : Int) 4 ≤ 7) ∧
    (0 ≤ bits .andNot .i64 (y.val : Int) 1 ∧ bits .andNot .i64 (y.val : Int) 1 ≤ 7) ∧ (0 ≤ bits .andNot .i64 (y.val : Int) 2 ∧ bits .andNot .i64 (y.val : Int) 2 ≤ 7) ∧ (0 ≤ bits .andNot .i64 (y.val : Int) 4 ∧ bits .andNot .i64 (y.val : Int) 4 ≤ 7) := by decide +kernel
  have := key ⟨f.toNat, by omega⟩
  simpa [show ((f.toNat : Nat) : Int) = f from by omega] using this
def AV (s : Int × Int × Int) : Prop := (0 ≤ s.1 ∧ s.1 ≤ 7) ∧ (0 ≤ s.2.1 ∧ s.2.1 ≤ 16) ∧ (0 ≤ s.2.2 ∧ s.2.2 ≤ 16)
theorem AV.ite {c : Prop} [Decidable c] {a b : Int × Int × Int} (h1 : c → AV a) (h2 : ¬ c → AV b) : AV (if c then a else b) := by
  split
  · exact h1 (by assumption)
  · exact h2 (by assumption)
theorem single_valid (f g b p : Int) (h : avB f g b = true) : avB (single f g b p).1 (single f g b p).2.1 (single f g b p).2.2 = true := by
  have hv : 0 ≤ f ∧ f ≤ 7 ∧ 0 ≤ g ∧ g ≤ 16 ∧ 0 ≤ b ∧ b ≤ 16 := of_decide_eq_true h
  have h7 := bits7 f hv.1 hv.2.1
  obtain ⟨k1, k2, k3, k4, k5, k6⟩ := h7
  have hA : AV (single f g b p) := by
    unfold single
    repeat' (refine AV.ite (fun hc => ?_) (fun hc => ?_))
    all_goals (refine ⟨?_, ?_, ?_⟩ <;> dsimp only)
    all_goals first | assumption | omega | fail
  generalize single f g b p = s at hA
  unfold AV at hA
  unfold avB
  apply decide_eq_true
  omega
theorem Rd.drew1 {α : Type} {f : α → Value} {w : World} {A : Option Addr} {n : Nat} {xs : List α} (h : Rd f w A n xs) : Rd f w.drew A n xs := h.up (by repeat (first | with_reducible assumption | with_reducible exact Bw.refl _ | with_reducible refine Bw.alloc ?_ _ | with_reducible refine Bw.more ?_ _ _ | with_reducible refine Bw.drew ?_ | with_reducible refine Bw.drewN ?_ _ | ((with_reducible refine Bw.set2 ?_ ?_ _); (focus (first | omega | (simp only [szA, szS, szD, szN, plus_size, Array.size_append] <;> omega)))) | with_reducible refine Bw.trans ?_ (by with_reducible assumption)))
theorem Rd.drewN1 {α : Type} {f : α → Value} {w : World} {A : Option Addr} {n : Nat} {xs : List α} (h : Rd f w A n xs) (q : Nat) : Rd f (w.drewN q) A n xs := h.up (by repeat (first | with_reducible assumption | with_reducible exact Bw.refl _ | with_reducible refine Bw.alloc ?_ _ | with_reducible refine Bw.more ?_ _ _ | with_reducible refine Bw.drew ?_ | with_reducible refine Bw.drewN ?_ _ | ((with_reducible refine Bw.set2 ?_ ?_ _); (focus (first | omega | (simp only [szA, szS, szD, szN, plus_size, Array.size_append] <;> omega)))) | with_reducible refine Bw.trans ?_ (by with_reducible assumption)))
theorem applA_valid : ∀ (P : List Int) (a : Int × Int × Int), (∀ p ∈ P, p ≠ 38 ∧ p ≠ 48) → avB a.1 a.2.1 a.2.2 = true → avB (applA P a).1 (applA P a).2.1 (applA P a).2.2 = true
  | [], a, _, h => h
  | p :: t, a, hp, h => by
    have h1 := hp p (by simp)
    rw [applA_one _ _ _ h1.1 h1.2]
    exact applA_valid t _ (fun x hx => hp x (by simp [hx])) (single_valid _ _ _ _ h)
theorem applA_reset (a : Int × Int × Int) : applA [1, 0] a = (0, 0, 0) := by
  rw [applA_one _ _ _ (by omega) (by omega), applA_one _ _ _ (by omega) (by omega), applA_nil]
  rfl
theorem AtC.row {w w' : World} {G : Nat} {a : Int × Int × Int} (h : AtC w G a) {v : Value} {base : Nat} {e : TypeId} {s m : Nat} {ys : List Value} (ho : w.ownsRow base e s v m ys) (hg : w.grownBy w' v.ownBlock) (hb : G < base) : AtC w' G a := by
  cases hob : v.ownBlock with
  | none => rw [hob] at hg; exact h.bw (Bw.of_grown hg)
  | some r =>
    rw [hob] at hg
    have hr := (ho.lt r hob).1
    obtain ⟨⟨h1, h2, h3⟩, h4, h5, h6⟩ := h
    have hl := lt_of_cell h1
    dsimp only at hl
    refine ⟨⟨?_, ?_, ?_⟩, ?_, ?_, ?_⟩
    · rw [grown_cell hg (p := ⟨G, 0, none⟩) hl (by simp; omega)]; exact h1
    · rw [grown_cell hg (p := ⟨G, 1, none⟩) hl (by simp; omega)]; exact h2
    · rw [grown_cell hg (p := ⟨G, 2, none⟩) hl (by simp; omega)]; exact h3
    · rw [grown_frozen hg (p := ⟨G, 0, none⟩) hl (by simp; omega)]; exact h4
    · rw [grown_frozen hg (p := ⟨G, 1, none⟩) hl (by simp; omega)]; exact h5
    · rw [grown_frozen hg (p := ⟨G, 2, none⟩) hl (by simp; omega)]; exact h6
theorem own_set_below {w : World} {base : Nat} {e : TypeId} {s : Nat} {v : Value} {n : Nat} {xs : List Value} (h : w.ownsRow base e s v n xs) {G j : Nat} (hG : G < base) (u : Value) : (w.setCell ⟨G, j, none⟩ u).ownsRow base e s v n xs :=
  ownsRow_setCell_other h (fun e2 => by have := (h.lt G e2).1; omega) u

set_option maxRecDepth 100000 in
set_option maxHeartbeats 2000000 in
theorem attrJoins_any (n : Int) (A : Option Addr) (m c : Nat) (L : List Int) (w : World) (h0 : -9223372036854775808 ≤ n) (h1 : n ≤ 9223372036854775807) (hr : Rd (.int .i64) w A m L) (hm : m ≤ c) (hc : c ≤ 9223372036854775807) (ht : PowT w.heap.size w) :
    Calls Tryd.prog 6 #[.int .i64 n, .slice A m c] w fun e w' => e = .returned (.bool true) ∧ Bw w w' := by
  have HT := Lib.hid ht
  have HR := Lib.hid hr
  clear ht hr
  by_cases hfew : 40 < m
  · go_enter Tryd.func6, Tryd.ntmps6
    go_wp2_with (first | (go_at_call 7; refine (sane15_any _ HT.out).mono ?_; rintro ee ww ⟨rfl, hb1⟩) | fail)
    go_ret
    exact ⟨rfl, (by repeat (first | with_reducible assumption | with_reducible exact Bw.refl _ | with_reducible refine Bw.alloc ?_ _ | with_reducible refine Bw.more ?_ _ _ | with_reducible refine Bw.drew ?_ | with_reducible refine Bw.drewN ?_ _ | ((with_reducible refine Bw.set2 ?_ ?_ _); (focus (first | omega | (simp only [szA, szS, szD, szN, plus_size, Array.size_append] <;> omega)))) | with_reducible refine Bw.trans ?_ (by with_reducible assumption)))⟩
  obtain ⟨j0, hj, hj0, hj1, hj2⟩ := info_parts infoI
  obtain ⟨m1, m2, m3, hmd⟩ : ∃ m1 m2 m3, madeA n = (m1, m2, m3) := ⟨_, _, _, rfl⟩
  have hmv : avB m1 m2 m3 = true := by have := madeA_valid n; rw [hmd] at this; exact this
  have HMD := Lib.hid hmd
  have HMV := Lib.hid hmv
  clear hmd hmv
  go_enter Tryd.func6, Tryd.ntmps6
  go_wp2_with (first | (go_at_call 7; refine (sane15_any _ HT.out).mono ?_; rintro ee ws ⟨rfl, hbs⟩) | (go_at_call 8; refine (made15_any n _ h0 h1).mono ?_; rintro ee wm ⟨rfl, hbm⟩; rw [HMD.out]; dsimp only [at3, atV]) | fail)
  have hbwm : Bw w wm := hbs.trans hbm
  have hGz : w.heap.size ≤ wm.heap.size := hbwm.size
  go_loopw [6, 19] (fun s6 i wr => ∃ (k : Nat) (a : Int × Int × Int), i = .int .i64 k ∧ k ≤ m ∧ wr.ownsRow (wm.heap.size + 1) 3 1 s6 k (((L.take k).map nrm).map (.int .i64)) ∧ AtC wr wm.heap.size a ∧ a = applA ((L.take k).map nrm) (m1, m2, m3) ∧ Bw w wr) (fun _ i _ => m - (intOf i).toNat)
  case atStart =>
    refine ⟨0, (m1, m2, m3), rfl, by omega, World.ownsRow_nil _ _ _ _, ⟨⟨(by repeat (first | ((with_reducible refine cell_alloc_here ?_ ?_); (focus (first | omega | (simp only [szA, szS, szD, szN, plus_size, Array.size_append] <;> omega))); (focus rfl)) | with_reducible refine cell_alloc_some ?_ _ | with_reducible refine cell_plus_some ?_ _ _ | ((with_reducible refine cell_set_some ?_ ?_); (focus (first | omega | (simp only [szA, szS, szD, szN, plus_size, Array.size_append] <;> omega)))) | with_reducible refine cell_drew_some ?_ | with_reducible refine cell_drewN_some ?_ _)), (by repeat (first | ((with_reducible refine cell_alloc_here ?_ ?_); (focus (first | omega | (simp only [szA, szS, szD, szN, plus_size, Array.size_append] <;> omega))); (focus rfl)) | with_reducible refine cell_alloc_some ?_ _ | with_reducible refine cell_plus_some ?_ _ _ | ((with_reducible refine cell_set_some ?_ ?_); (focus (first | omega | (simp only [szA, szS, szD, szN, plus_size, Array.size_append] <;> omega)))) | with_reducible refine cell_drew_some ?_ | with_reducible refine cell_drewN_some ?_ _)), (by repeat (first | ((with_reducible refine cell_alloc_here ?_ ?_); (focus (first | omega | (simp only [szA, szS, szD, szN, plus_size, Array.size_append] <;> omega))); (focus rfl)) | with_reducible refine cell_alloc_some ?_ _ | with_reducible refine cell_plus_some ?_ _ _ | ((with_reducible refine cell_set_some ?_ ?_); (focus (first | omega | (simp only [szA, szS, szD, szN, plus_size, Array.size_append] <;> omega)))) | with_reducible refine cell_drew_some ?_ | with_reducible refine cell_drewN_some ?_ _))⟩, by simp [go_sem], by simp [go_sem], by simp [go_sem]⟩, rfl, (by repeat (first | with_reducible assumption | with_reducible exact Bw.refl _ | with_reducible refine Bw.alloc ?_ _ | with_reducible refine Bw.more ?_ _ _ | with_reducible refine Bw.drew ?_ | with_reducible refine Bw.drewN ?_ _ | ((with_reducible refine Bw.set2 ?_ ?_ _); (focus (first | omega | (simp only [szA, szS, szD, szN, plus_size, Array.size_append] <;> omega)))) | with_reducible refine Bw.trans ?_ (by with_reducible assumption)))⟩
  case round =>
    obtain ⟨k, ⟨a1, a2, a3⟩, rfl, hk, hown, hC, hAe, hbw⟩ := hrel
    obtain ⟨A6, c6, rfl, hc6, hc6m⟩ := own_form hown
    have HO := Lib.hid hown
    have HC := Lib.hid hC
    have HAe := Lib.hid hAe
    have hgl := lt_of_cell hC.1.1
    dsimp only at hgl
    have hm40 : m ≤ 40 := by omega
    by_cases hlt : k < m
    · have hl := HR.out.1
      obtain ⟨g, o, rfl, hx⟩ := HR.out.2 (by omega)
      have hx1 := cell_bw hbw (hx k (by omega))
      obtain ⟨x, hxx⟩ : ∃ x, x = L[k] := ⟨_, rfl⟩
      rw [← hxx] at hx1
      have HX := Lib.hid (show (L.take (k + 1)).map nrm = (L.take k).map nrm ++ [nrm x] by rw [List.take_succ_eq_append_getElem (by omega), List.map_append, hxx]; rfl)
      obtain ⟨q, hq⟩ : ∃ q, x % 110 = q := ⟨_, rfl⟩
      have q1 : 0 ≤ q := by rw [← hq]; exact Int.emod_nonneg x (by omega)
      have q2 : q < 110 := by rw [← hq]; exact Int.emod_lt_of_pos x (by omega)
      obtain ⟨z, hz⟩ : ∃ z, nrm x = z := ⟨_, rfl⟩
      obtain ⟨t, htt⟩ : ∃ t, t = decide (q = 38 ∨ q = 48) := ⟨_, rfl⟩
      have hbx : (t = true ∧ z = 0 ∧ q = 38) ∨ (t = true ∧ z = 0 ∧ q = 48) ∨ (t = false ∧ z = q ∧ q < 38) ∨ (t = false ∧ z = q ∧ 38 < q ∧ q < 48) ∨ (t = false ∧ z = q ∧ 48 < q) := by
        have hz2 : z = if q = 38 ∨ q = 48 then 0 else q := by rw [← hz]; unfold nrm; rw [hq]
        by_cases h38 : q = 38
        · exact .inl ⟨by rw [htt]; simp [h38], by rw [hz2, if_pos (.inl h38)], h38⟩
        by_cases h48 : q = 48
        · exact .inr (.inl ⟨by rw [htt]; simp [h48], by rw [hz2, if_pos (.inr h48)], h48⟩)
        have hf : t = false := by rw [htt]; simp [h38, h48]
        have hzq : z = q := by rw [hz2, if_neg (by omega)]
        rcases (show q < 38 ∨ (38 < q ∧ q < 48) ∨ 48 < q by omega) with h | ⟨h, h'⟩ | h
        · exact .inr (.inr (.inl ⟨hf, hzq, h⟩))
        · exact .inr (.inr (.inr (.inl ⟨hf, hzq, h, h'⟩)))
        · exact .inr (.inr (.inr (.inr ⟨hf, hzq, h⟩)))
      have hzb := nrm_bd x
      rw [hz] at hzb HX
      have HQ := Lib.hid hq
      have HZB := Lib.hid hzb
      clear hq hz htt hzb hxx hx hl hown hC hAe
      obtain ⟨s1, s2, s3, hs⟩ : ∃ s1 s2 s3, applA [z] (a1, a2, a3) = (s1, s2, s3) := ⟨_, _, _, rfl⟩
      have HS := Lib.hid hs
      clear hs
      go_upto_region 11 with (first | (go_at_call 18; refine (mmod_any _ _ _ (by omega) (by omega)).mono ?_; rintro ee ww ⟨rfl, rfl⟩; rw [HQ.out]) | fail)
      go_cut [30] (fun s w' => s = .bool t ∧ wr = w')
      case first =>
        rcases hbx with ⟨rfl, rfl, rfl⟩ | ⟨rfl, rfl, rfl⟩ | ⟨rfl, rfl, hb1⟩ | ⟨rfl, rfl, hb1, hb2⟩ | ⟨rfl, rfl, hb1⟩
        all_goals
          go_wp2
          go_meet
          case rel => exact ⟨by first | rfl | (simp; done) | (simp; omega), rfl⟩
      case rest =>
      obtain ⟨rfl, rfl⟩ := hcut
      go_upto_if 30 with (fail)
      go_cut [9] (fun s w' => s = .int .i64 z ∧ wr = w')
      case first =>
        rcases hbx with ⟨rfl, rfl, rfl⟩ | ⟨rfl, rfl, rfl⟩ | ⟨rfl, rfl, hb1⟩ | ⟨rfl, rfl, hb1, hb2⟩ | ⟨rfl, rfl, hb1⟩
        all_goals
          go_wp2
          go_meet
          case rel => exact ⟨by first | rfl | (simp; done) | (simp; omega), rfl⟩
      case rest =>
      obtain ⟨rfl, rfl⟩ := hcut
      clear hbx
      go_wp2_with (first
        | (at_builtin; refine wpList_append_srcG (by rfl) (.tmp 31) (.tmp 33) 30 rfl (wm.heap.size + 1) 3 j0 (.int .i64 0) 1 8 Tryd.underlying30 hj hj0 hj1 hj2 rfl (by decide) (.slice A6 k c6) k _ (by rfl) (HO.out.alloc _) (some ⟨_, 0, none⟩) 1 1 [.int .i64 z] (by rfl) rfl (fun e => by cases e) (fun ad e => by cases e; exact cell_one_new _ _ _) (by simp; rfl) (by unfold maxLen; omega) (by omega) (by (first | omega | (simp only [szA, szS, szD, szN, plus_size, Array.size_append] <;> omega))) ?_; intro v1 w1 hown1 hg1; have hC1 := AtC.row (HC.out.bw (w' := wr.alloc _) (by repeat (first | with_reducible assumption | with_reducible exact Bw.refl _ | with_reducible refine Bw.alloc ?_ _ | with_reducible refine Bw.more ?_ _ _ | with_reducible refine Bw.drew ?_ | with_reducible refine Bw.drewN ?_ _ | ((with_reducible refine Bw.set2 ?_ ?_ _); (focus (first | omega | (simp only [szA, szS, szD, szN, plus_size, Array.size_append] <;> omega)))) | with_reducible refine Bw.trans ?_ (by with_reducible assumption)))) (HO.out.alloc _) hg1 (Nat.lt_succ_self _); have hbw1 : Bw w w1 := Bw.row (Bw.alloc hbw _) (HO.out.alloc _) hg1 (by omega); have HO1 := Lib.hid hown1; have HC1 := Lib.hid hC1; obtain ⟨⟨x0, x1, x2⟩, z0, z1, z2⟩ := hC1; dsimp only at x0 x1 x2; have hgl1 := lt_of_cell x0; dsimp only at hgl1; clear hown1 hg1)
        | (go_at_call 16; refine (apply_any a1 a2 a3 (some ⟨w1.heap.size, 0, none⟩) 1 1 [z] _ (by exact Rd.lit' _ _ _ _ [z] 1 (by (first | omega | (simp only [szA, szS, szD, szN, plus_size, Array.size_append] <;> omega))) rfl rfl) (by omega) (by omega) (by simp)).mono ?_; rintro ee w2 ⟨rfl, hb2⟩; rw [HS.out]; dsimp only [at3, atV]; have hC2 := HC1.out.bw (Bw.trans (show Bw w1 (w1.alloc _) from (by repeat (first | with_reducible assumption | with_reducible exact Bw.refl _ | with_reducible refine Bw.alloc ?_ _ | with_reducible refine Bw.more ?_ _ _ | with_reducible refine Bw.drew ?_ | with_reducible refine Bw.drewN ?_ _ | ((with_reducible refine Bw.set2 ?_ ?_ _); (focus (first | omega | (simp only [szA, szS, szD, szN, plus_size, Array.size_append] <;> omega)))) | with_reducible refine Bw.trans ?_ (by with_reducible assumption)))) hb2); have HC2 := Lib.hid hC2; obtain ⟨⟨t0, t1, t2⟩, u0, u1, u2⟩ := hC2; dsimp only at t0 t1 t2)
        | fail)
      go_roundw
      case rel =>
        have hb12 : Bw w1 w2 := Bw.trans (show Bw w1 (w1.alloc _) from (by repeat (first | with_reducible assumption | with_reducible exact Bw.refl _ | with_reducible refine Bw.alloc ?_ _ | with_reducible refine Bw.more ?_ _ _ | with_reducible refine Bw.drew ?_ | with_reducible refine Bw.drewN ?_ _ | ((with_reducible refine Bw.set2 ?_ ?_ _); (focus (first | omega | (simp only [szA, szS, szD, szN, plus_size, Array.size_append] <;> omega)))) | with_reducible refine Bw.trans ?_ (by with_reducible assumption)))) hb2
        refine ⟨k + 1, (s1, s2, s3), by go_num, by omega, ?_, ((HC2.out.set0 s1).set1 s2).set2 s3, ?_, ?_⟩
        · rw [HX.out, List.map_append]
          exact own_set_below (own_set_below (own_set_below (HO1.out.bw hb12) (Nat.lt_succ_self _) _) (Nat.lt_succ_self _) _) (Nat.lt_succ_self _) _
        · rw [HX.out, applA_app _ _ _ (fun p hp => by obtain ⟨v, -, rfl⟩ := List.mem_map.1 hp; have := nrm_bd v; omega), ← HAe.out, HS.out]
        · exact (((hbw1.trans hb12).set (by dsimp only; omega) _).set (by dsimp only; omega) _).set (by dsimp only; omega) _
      case measure => simp [intOf]; omega
    · obtain rfl : k = m := by omega
      have HP := Lib.hid hAe.symm
      have HVal := Lib.hid (show avB a1 a2 a3 = true by
        have h5 := applA_valid ((L.take k).map nrm) (m1, m2, m3) (fun p hp => by obtain ⟨v, -, rfl⟩ := List.mem_map.1 hp; have := nrm_bd v; omega) HMV.out
        rw [← hAe] at h5; exact h5)
      have HRp := Lib.hid (own_rd hown)
      have HNil := Lib.hid (own_nil hown)
      have hC' := HC.out.1
      dsimp only at hC'
      have HY := Lib.hid hC'
      obtain ⟨P, hPP⟩ : ∃ P, P = (L.take k).map nrm := ⟨_, rfl⟩
      rw [← hPP] at HP HRp
      clear hC' hAe hown hC hPP HAe
      go_upto_region 16 with (fail)
      go_region_held3 (fun w' => w'.cell? ⟨wm.heap.size, 0, none⟩ = some (.int .i64 a1) ∧ w'.cell? ⟨wm.heap.size, 1, none⟩ = some (.int .i64 a2) ∧ w'.cell? ⟨wm.heap.size, 2, none⟩ = some (.int .i64 a3)) ((first | (exact ⟨cell_bw (by repeat (first | with_reducible assumption | with_reducible exact Bw.refl _ | with_reducible refine Bw.alloc ?_ _ | with_reducible refine Bw.more ?_ _ _ | with_reducible refine Bw.drew ?_ | with_reducible refine Bw.drewN ?_ _ | ((with_reducible refine Bw.set2 ?_ ?_ _); (focus (first | omega | (simp only [szA, szS, szD, szN, plus_size, Array.size_append] <;> omega)))) | with_reducible refine Bw.trans ?_ (by with_reducible assumption))) HY.out.1, cell_bw (by repeat (first | with_reducible assumption | with_reducible exact Bw.refl _ | with_reducible refine Bw.alloc ?_ _ | with_reducible refine Bw.more ?_ _ _ | with_reducible refine Bw.drew ?_ | with_reducible refine Bw.drewN ?_ _ | ((with_reducible refine Bw.set2 ?_ ?_ _); (focus (first | omega | (simp only [szA, szS, szD, szN, plus_size, Array.size_append] <;> omega)))) | with_reducible refine Bw.trans ?_ (by with_reducible assumption))) HY.out.2.1, cell_bw (by repeat (first | with_reducible assumption | with_reducible exact Bw.refl _ | with_reducible refine Bw.alloc ?_ _ | with_reducible refine Bw.more ?_ _ _ | with_reducible refine Bw.drew ?_ | with_reducible refine Bw.drewN ?_ _ | ((with_reducible refine Bw.set2 ?_ ?_ _); (focus (first | omega | (simp only [szA, szS, szD, szN, plus_size, Array.size_append] <;> omega)))) | with_reducible refine Bw.trans ?_ (by with_reducible assumption))) HY.out.2.2⟩) | fail)) ((first
        | (go_at_call 8; refine (made15_any n _ h0 h1).mono ?_; rintro ee wa ⟨rfl, hba⟩; rw [HMD.out]; dsimp only [at3, atV])
        | (go_at_call 16; have _tk := HB1; refine (apply_any a1 a2 a3 _ 2 2 [1, 0] _ (by first | (refine Rd.lit' _ _ _ _ [1, 0] 2 ?_ rfl rfl; (focus (first | omega | (simp only [szA, szS, szD, szN, plus_size, Array.size_append] <;> omega))); done) | (refine Rd.drew1 (Rd.lit' _ _ _ _ [1, 0] 2 ?_ rfl rfl); (focus (first | omega | (simp only [szA, szS, szD, szN, plus_size, Array.size_append] <;> omega))); done) | (refine Rd.drewN1 (Rd.lit' _ _ _ _ [1, 0] 2 ?_ rfl rfl) _; (focus (first | omega | (simp only [szA, szS, szD, szN, plus_size, Array.size_append] <;> omega))); done)) (by omega) (by omega) (by simp)).mono ?_; rintro ee wc2 ⟨rfl, hbc⟩; rw [applA_reset]; dsimp only [at3, atV])
        | (go_at_call 16; refine (apply_any m1 m2 m3 A6 k c6 P _ (by exact HRp.out.up (by repeat (first | with_reducible assumption | with_reducible exact Bw.refl _ | with_reducible refine Bw.alloc ?_ _ | with_reducible refine Bw.more ?_ _ _ | with_reducible refine Bw.drew ?_ | with_reducible refine Bw.drewN ?_ _ | ((with_reducible refine Bw.set2 ?_ ?_ _); (focus (first | omega | (simp only [szA, szS, szD, szN, plus_size, Array.size_append] <;> omega)))) | with_reducible refine Bw.trans ?_ (by with_reducible assumption)))) (by omega) (by omega) HNil.out).mono ?_; rintro ee wb ⟨rfl, hbb⟩; rw [HP.out]; dsimp only [at3, atV]; have HB1 := Lib.hid hbb)
        | (go_at_call 14; refine (avalid_any a1 a2 a3 _).mono ?_; rintro ee wv ⟨rfl, rfl⟩; rw [HVal.out])
        | fail))
      all_goals go_wp2
      all_goals go_ret
      all_goals exact ⟨ret_bool (by simp), hbw.trans (by repeat (first | with_reducible assumption | with_reducible exact Bw.refl _ | with_reducible refine Bw.alloc ?_ _ | with_reducible refine Bw.more ?_ _ _ | with_reducible refine Bw.drew ?_ | with_reducible refine Bw.drewN ?_ _ | ((with_reducible refine Bw.set2 ?_ ?_ _); (focus (first | omega | (simp only [szA, szS, szD, szN, plus_size, Array.size_append] <;> omega)))) | with_reducible refine Bw.trans ?_ (by with_reducible assumption)))⟩
end Go.Proofs.YtacekeobmijipaaDoor
