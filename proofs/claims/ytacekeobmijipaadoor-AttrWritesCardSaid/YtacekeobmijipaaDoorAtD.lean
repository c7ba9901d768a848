/- Attributes: the walk of the program's Apply. -/
import Derived.Test.YtacekeobmijipaaDoorAtB
set_option linter.unusedSimpArgs false
set_option linter.unusedVariables false
namespace Go.Proofs.YtacekeobmijipaaDoor
open Go.RowKit

def setc (p c : Int) (a : Int × Int × Int) : Int × Int × Int := if c = 0 then a else if p = 38 then (a.1, c, a.2.2) else (a.1, a.2.1, c)
/-- Parameters applied, at most k of them. -/
def appl : Nat → List Int → Int × Int × Int → Int × Int × Int
  | 0, _, a => a
  | _ + 1, [], a => a
  | k + 1, p :: t, a => if p = 38 ∨ p = 48 then appl k (t.drop (ext t).1) (setc p (ext t).2 a) else appl k t (single a.1 a.2.1 a.2.2 p)
theorem ext_le (t : List Int) : (ext t).1 ≤ t.length := by
  match t with
  | [] => exact Nat.le_refl _
  | [x] => unfold ext; dsimp only; split <;> simp
  | x :: y :: r => unfold ext; dsimp only; repeat' split
                   all_goals (simp only [List.length_cons]; omega)
theorem appl_fuel : ∀ (k k' : Nat) (t : List Int) (a : Int × Int × Int), t.length ≤ k → t.length ≤ k' → appl k t a = appl k' t a
  | 0, 0, _, _, _, _ => rfl
  | 0, k' + 1, [], _, _, _ => rfl
  | k + 1, 0, [], _, _, _ => rfl
  | k + 1, k' + 1, [], _, _, _ => rfl
  | 0, _, p :: t, _, h, _ => by simp at h
  | _ + 1, 0, p :: t, _, _, h => by simp at h
  | k + 1, k' + 1, p :: t, a, h, h' => by
    simp only [List.length_cons] at h h'
    unfold appl
    rw [appl_fuel k k' t _ (by omega) (by omega), appl_fuel k k' (t.drop (ext t).1) _ (by simp; omega) (by simp; omega)]
def applA (t : List Int) (a : Int × Int × Int) : Int × Int × Int := appl t.length t a
theorem applA_nil (a : Int × Int × Int) : applA [] a = a := rfl
theorem applA_one (p : Int) (t : List Int) (a : Int × Int × Int) (h1 : p ≠ 38) (h2 : p ≠ 48) : applA (p :: t) a = applA t (single a.1 a.2.1 a.2.2 p) := by
  unfold applA
  rw [List.length_cons]
  conv => lhs; unfold appl
  rw [if_neg (by omega)]
theorem applA_ext (p : Int) (t : List Int) (a : Int × Int × Int) (h : p = 38 ∨ p = 48) : applA (p :: t) a = applA (t.drop (ext t).1) (setc p (ext t).2 a) := by
  unfold applA
  rw [List.length_cons]
  conv => lhs; unfold appl
  rw [if_pos h]
  exact appl_fuel _ _ _ _ (by simp) (Nat.le_refl _)

/-- The attribute in block g. -/
def AtC (w : World) (g : Nat) (a : Int × Int × Int) : Prop :=
  (w.cell? ⟨g, 0, none⟩ = some (.int .i64 a.1) ∧ w.cell? ⟨g, 1, none⟩ = some (.int .i64 a.2.1) ∧ w.cell? ⟨g, 2, none⟩ = some (.int .i64 a.2.2)) ∧ (w.frozen? ⟨g, 0, none⟩ = false ∧ w.frozen? ⟨g, 1, none⟩ = false ∧ w.frozen? ⟨g, 2, none⟩ = false)
theorem AtC.bw {w w' : World} {g : Nat} {a : Int × Int × Int} (h : AtC w g a) (hb : Bw w w') : AtC w' g a := by
  obtain ⟨⟨h1, h2, h3⟩, h4, h5, h6⟩ := h
  have hl := lt_of_cell h1
  dsimp only at hl
  exact ⟨⟨cell_bw hb h1, cell_bw hb h2, cell_bw hb h3⟩, (Below.frozen hb (p := ⟨g, 0, none⟩) hl).trans h4, (Below.frozen hb (p := ⟨g, 1, none⟩) hl).trans h5, (Below.frozen hb (p := ⟨g, 2, none⟩) hl).trans h6⟩

theorem frz_set (w : World) (p q : Addr) (v : Value) : (w.setCell p v).frozen? q = w.frozen? q := by simp
theorem cell_ne {w : World} {g i j : Nat} {u v : Value} (h : w.cell? ⟨g, j, none⟩ = some u) (hne : i ≠ j) : (w.setCell ⟨g, i, none⟩ v).cell? ⟨g, j, none⟩ = some u := by
  rw [World.cell?_setCell_other]
  · exact h
  · intro e; cases e; exact hne rfl
theorem AtC.set0 {w : World} {g : Nat} {a : Int × Int × Int} (h : AtC w g a) (x : Int) : AtC (w.setCell ⟨g, 0, none⟩ (.int .i64 x)) g (x, a.2.1, a.2.2) := by
  obtain ⟨⟨h1, h2, h3⟩, h4, h5, h6⟩ := h
  exact ⟨⟨World.cell?_setCell_same _ _ _ h1, cell_ne h2 (by omega), cell_ne h3 (by omega)⟩, by rw [frz_set]; exact h4, by rw [frz_set]; exact h5, by rw [frz_set]; exact h6⟩
theorem AtC.set1 {w : World} {g : Nat} {a : Int × Int × Int} (h : AtC w g a) (x : Int) : AtC (w.setCell ⟨g, 1, none⟩ (.int .i64 x)) g (a.1, x, a.2.2) := by
  obtain ⟨⟨h1, h2, h3⟩, h4, h5, h6⟩ := h
  exact ⟨⟨cell_ne h1 (by omega), World.cell?_setCell_same _ _ _ h2, cell_ne h3 (by omega)⟩, by rw [frz_set]; exact h4, by rw [frz_set]; exact h5, by rw [frz_set]; exact h6⟩
theorem AtC.set2 {w : World} {g : Nat} {a : Int × Int × Int} (h : AtC w g a) (x : Int) : AtC (w.setCell ⟨g, 2, none⟩ (.int .i64 x)) g (a.1, a.2.1, x) := by
  obtain ⟨⟨h1, h2, h3⟩, h4, h5, h6⟩ := h
  exact ⟨⟨cell_ne h1 (by omega), cell_ne h2 (by omega), World.cell?_setCell_same _ _ _ h3⟩, by rw [frz_set]; exact h4, by rw [frz_set]; exact h5, by rw [frz_set]; exact h6⟩
theorem AtC.away {w : World} {g h j : Nat} {a : Int × Int × Int} (hA : AtC w g a) (hne : g ≠ h) (v : Value) : AtC (w.setCell ⟨h, j, none⟩ v) g a := by
  obtain ⟨⟨h1, h2, h3⟩, h4, h5, h6⟩ := hA
  exact ⟨⟨cell_set_some hne h1, cell_set_some hne h2, cell_set_some hne h3⟩, by rw [frz_set]; exact h4, by rw [frz_set]; exact h5, by rw [frz_set]; exact h6⟩

set_option maxRecDepth 100000 in
set_option maxHeartbeats 4000000 in
theorem apply_any (f g b : Int) (A : Option Addr) (n c : Nat) (L : List Int) (w : World) (hr : Rd (.int .i64) w A n L) (hn : n ≤ c) (hc : c ≤ 9223372036854775807) (hA : A = none → c = 0) :
    Calls Tryd.prog 16 #[atV f g b, .slice A n c] w (AtP w (applA L (f, g, b))) := by
  unfold atV
  have HR := Lib.hid hr
  have hl := hr.1
  have HL := Lib.hid hl
  clear hr hl
  go_enter Tryd.func16, Tryd.ntmps16
  go_wp2
  go_loopw [5] (fun i wr => ∃ (k : Nat) (a : Int × Int × Int), i = .int .i64 k ∧ k ≤ n ∧ AtC wr w.heap.size a ∧ AtC wr (w.heap.size + 1) (0, 0, 0) ∧ Bw w wr ∧ applA (L.drop k) a = applA L (f, g, b)) (fun i _ => n - (intOf i).toNat)
  case atStart => exact ⟨0, (f, g, b), rfl, by omega, ⟨⟨(by repeat (first | ((with_reducible refine cell_alloc_here ?_ ?_); (focus (first | omega | (simp only [szA, szS, szD, szN, plus_size, Array.size_append] <;> omega))); (focus rfl)) | with_reducible refine cell_alloc_some ?_ _ | with_reducible refine cell_plus_some ?_ _ _ | ((with_reducible refine cell_set_some ?_ ?_); (focus (first | omega | (simp only [szA, szS, szD, szN, plus_size, Array.size_append] <;> omega)))) | with_reducible refine cell_drew_some ?_ | with_reducible refine cell_drewN_some ?_ _)), (by repeat (first | ((with_reducible refine cell_alloc_here ?_ ?_); (focus (first | omega | (simp only [szA, szS, szD, szN, plus_size, Array.size_append] <;> omega))); (focus rfl)) | with_reducible refine cell_alloc_some ?_ _ | with_reducible refine cell_plus_some ?_ _ _ | ((with_reducible refine cell_set_some ?_ ?_); (focus (first | omega | (simp only [szA, szS, szD, szN, plus_size, Array.size_append] <;> omega)))) | with_reducible refine cell_drew_some ?_ | with_reducible refine cell_drewN_some ?_ _)), (by repeat (first | ((with_reducible refine cell_alloc_here ?_ ?_); (focus (first | omega | (simp only [szA, szS, szD, szN, plus_size, Array.size_append] <;> omega))); (focus rfl)) | with_reducible refine cell_alloc_some ?_ _ | with_reducible refine cell_plus_some ?_ _ _ | ((with_reducible refine cell_set_some ?_ ?_); (focus (first | omega | (simp only [szA, szS, szD, szN, plus_size, Array.size_append] <;> omega)))) | with_reducible refine cell_drew_some ?_ | with_reducible refine cell_drewN_some ?_ _))⟩, by simp [go_sem], by simp [go_sem], by simp [go_sem]⟩, ⟨⟨(by repeat (first | ((with_reducible refine cell_alloc_here ?_ ?_); (focus (first | omega | (simp only [szA, szS, szD, szN, plus_size, Array.size_append] <;> omega))); (focus rfl)) | with_reducible refine cell_alloc_some ?_ _ | with_reducible refine cell_plus_some ?_ _ _ | ((with_reducible refine cell_set_some ?_ ?_); (focus (first | omega | (simp only [szA, szS, szD, szN, plus_size, Array.size_append] <;> omega)))) | with_reducible refine cell_drew_some ?_ | with_reducible refine cell_drewN_some ?_ _)), (by repeat (first | ((with_reducible refine cell_alloc_here ?_ ?_); (focus (first | omega | (simp only [szA, szS, szD, szN, plus_size, Array.size_append] <;> omega))); (focus rfl)) | with_reducible refine cell_alloc_some ?_ _ | with_reducible refine cell_plus_some ?_ _ _ | ((with_reducible refine cell_set_some ?_ ?_); (focus (first | omega | (simp only [szA, szS, szD, szN, plus_size, Array.size_append] <;> omega)))) | with_reducible refine cell_drew_some ?_ | with_reducible refine cell_drewN_some ?_ _)), (by repeat (first | ((with_reducible refine cell_alloc_here ?_ ?_); (focus (first | omega | (simp only [szA, szS, szD, szN, plus_size, Array.size_append] <;> omega))); (focus rfl)) | with_reducible refine cell_alloc_some ?_ _ | with_reducible refine cell_plus_some ?_ _ _ | ((with_reducible refine cell_set_some ?_ ?_); (focus (first | omega | (simp only [szA, szS, szD, szN, plus_size, Array.size_append] <;> omega)))) | with_reducible refine cell_drew_some ?_ | with_reducible refine cell_drewN_some ?_ _))⟩, by simp [go_sem], by simp [go_sem], by simp [go_sem]⟩, (by repeat (first | with_reducible assumption | with_reducible exact Bw.refl _ | with_reducible refine Bw.alloc ?_ _ | with_reducible refine Bw.more ?_ _ _ | with_reducible refine Bw.drew ?_ | with_reducible refine Bw.drewN ?_ _ | ((with_reducible refine Bw.set2 ?_ ?_ _); (focus (first | omega | (simp only [szA, szS, szD, szN, plus_size, Array.size_append] <;> omega)))) | with_reducible refine Bw.trans ?_ (by with_reducible assumption))), rfl⟩
  case round =>
    obtain ⟨k, ⟨a1, a2, a3⟩, rfl, hk, hC, hZ, hbw, hF⟩ := hrel
    have HF := Lib.hid hF
    have HZ := Lib.hid hZ
    obtain ⟨⟨y0, y1, y2⟩, z0, z1, z2⟩ := hC
    dsimp only at y0 y1 y2
    have hgz := lt_of_cell y0
    dsimp only at hgz
    have hgz2 := lt_of_cell hZ.1.1
    dsimp only at hgz2
    clear hF hZ
    by_cases hlt : k < n
    · have hl := HL.out
      obtain ⟨ga, o, rfl, hx⟩ := HR.out.2 (by omega)
      have hx1 := cell_bw hbw (hx k (by omega))
      obtain ⟨p, hp⟩ : ∃ p, p = L[k] := ⟨_, rfl⟩
      rw [← hp] at hx1
      have HD := Lib.hid (show L.drop k = p :: L.drop (k + 1) by rw [hp]; exact List.drop_eq_getElem_cons (by omega))
      clear hx hp hl
      have e1 : (0 : Int) ≤ k := by omega
      have e2 : (k : Int) < n := by omega
      have e3 : (n : Int) ≤ c := by omega
      have e4 : (c : Int) ≤ 9223372036854775807 := by omega
      by_cases h38 : p = 38 ∨ p = 48
      · have HX := Lib.hid (show applA (L.drop (k + 1 + (ext (L.drop (k + 1))).1)) (setc p (ext (L.drop (k + 1))).2 (a1, a2, a3)) = applA L (f, g, b) by
          have := HF.out
          rw [HD.out, applA_ext _ _ _ h38, List.drop_drop] at this
          exact this)
        obtain ⟨u, hu⟩ : ∃ u, (ext (L.drop (k + 1))).1 = u := ⟨_, rfl⟩
        obtain ⟨col, hcol⟩ : ∃ x, (ext (L.drop (k + 1))).2 = x := ⟨_, rfl⟩
        have hul : k + 1 + u ≤ n := by have := ext_le (L.drop (k + 1)); rw [hu] at this; simp at this; have := HL.out; omega
        have hul2 : (k : Int) + u ≤ n := by omega
        rw [hu, hcol] at HX
        have HU := Lib.hid hu
        have HCo := Lib.hid hcol
        clear hu hcol
        by_cases hce : c = k + 1
        · have hnk : n = k + 1 := by omega
          subst hce
          subst hnk
          clear hA hlt hk hn e3 e2
          have e2 : (k : Int) < k + 1 := by omega
          have hu0 : u = 0 := by omega
          subst hu0
          clear hul hul2
          have hul : k + 1 + 0 ≤ k + 1 := Nat.le_refl _
          have e5 : (k : Int) + 1 ≤ 9223372036854775807 := by omega
          clear e4
          have HE2 := Lib.hid (show L.drop (k + 1) = [] from List.drop_eq_nil_of_le (by have := HL.out; omega))
          obtain rfl : col = 0 := by have := HCo.out; rw [HE2.out] at this; exact this.symm
          rcases h38 with rfl | rfl
          all_goals
            go_wp2_with (first | (go_at_call 26; refine (extended_any _ 0 0 (L.drop (k + 1)) _ (by exact (by rw [HE2.out]; exact Rd.nil_ _ _)) (by omega) (by omega)).mono ?_; rintro ee ww ⟨rfl, rfl⟩; rw [HU.out, HCo.out]) | fail)
            go_roundw
            case rel =>
              refine ⟨k + 1, (a1, a2, a3), by go_num, hul, ⟨⟨y0, y1, y2⟩, z0, z1, z2⟩, HZ.out, hbw, ?_⟩
              have := HX.out
              rwa [setc, if_pos rfl] at this
            case measure => simp [intOf]
        · have HE2 : Hid (Rd (.int .i64) wr (some ⟨ga, o + (k + 1), none⟩) (n - (k + 1)) (L.drop (k + 1))) := Lib.hid (by
            have := (HR.out.drop (k + 1) (by omega)).up hbw
            rwa [show ((⟨ga, o, none⟩ : Addr).add (k + 1)) = ⟨ga, o + (k + 1), none⟩ by simp [Addr.add]] at this)
          rcases h38 with rfl | rfl
          all_goals
            by_cases hc0 : col = 0
            · subst hc0
              go_wp2_with (first | (go_at_call 26; refine (extended_any _ (n - (k + 1)) (c - (k + 1)) (L.drop (k + 1)) _ (by exact HE2.out) (by omega) (by omega)).mono ?_; rintro ee ww ⟨rfl, rfl⟩; rw [HU.out, HCo.out]) | fail)
              go_roundw
              case rel =>
                refine ⟨k + 1 + u, (a1, a2, a3), by go_num, hul, ⟨⟨y0, y1, y2⟩, z0, z1, z2⟩, HZ.out, hbw, ?_⟩
                have := HX.out
                rwa [setc, if_pos rfl] at this
              case measure => simp [intOf]; omega
            · have hcb : (col == 0) = false := by simpa using hc0
              have HC0 := Lib.hid hc0
              clear hc0
              go_wp2_with (first | (go_at_call 26; refine (extended_any _ (n - (k + 1)) (c - (k + 1)) (L.drop (k + 1)) _ (by exact HE2.out) (by omega) (by omega)).mono ?_; rintro ee ww ⟨rfl, rfl⟩; rw [HU.out, HCo.out]) | fail)
              go_roundw
              case rel =>
                have := HX.out
                rw [setc, if_neg HC0.out] at this
                first
                  | exact ⟨k + 1 + u, (a1, col, a3), by go_num, hul, AtC.set1 (a := (a1, a2, a3)) ⟨⟨y0, y1, y2⟩, z0, z1, z2⟩ col, HZ.out.away (by omega) _, hbw.set (by dsimp only; omega) _, by rwa [if_pos rfl] at this⟩
                  | exact ⟨k + 1 + u, (a1, a2, col), by go_num, hul, AtC.set2 (a := (a1, a2, a3)) ⟨⟨y0, y1, y2⟩, z0, z1, z2⟩ col, HZ.out.away (by omega) _, hbw.set (by dsimp only; omega) _, by rwa [if_neg (by omega)] at this⟩
              case measure => simp [intOf]; omega
      · have h1 : (p != 38) = true := by simp; omega
        have h2 : (p != 48) = true := by simp; omega
        have HX := Lib.hid (show applA (L.drop (k + 1)) (single a1 a2 a3 p) = applA L (f, g, b) by
          have := HF.out
          rw [HD.out, applA_one _ _ _ (by omega) (by omega)] at this
          exact this)
        clear h38
        obtain ⟨s1, s2, s3, hs⟩ : ∃ s1 s2 s3, single a1 a2 a3 p = (s1, s2, s3) := ⟨_, _, _, rfl⟩
        rw [hs] at HX
        have HS := Lib.hid hs
        clear hs
        go_wp2_with (first | (go_at_call 25; refine (single_any a1 a2 a3 p _).mono ?_; rintro ee ww ⟨rfl, hb1⟩; rw [HS.out]; dsimp only [at3, atV]; have hY := AtC.bw (g := w.heap.size) (a := (a1, a2, a3)) ⟨⟨y0, y1, y2⟩, z0, z1, z2⟩ hb1; obtain ⟨⟨x0, x1, x2⟩, v0, v1, v2⟩ := hY; dsimp only at x0 x1 x2) | fail)
        go_roundw
        case rel =>
          have hY := AtC.bw (g := w.heap.size) (a := (a1, a2, a3)) ⟨⟨y0, y1, y2⟩, z0, z1, z2⟩ hb1
          have hZ := HZ.out.bw hb1
          refine ⟨k + 1, (s1, s2, s3), by go_num, by omega, ((hY.set0 s1).set1 s2).set2 s3, ((hZ.away (by omega) _).away (by omega) _).away (by omega) _, ?_, HX.out⟩
          exact (((hbw.trans hb1).set (by dsimp only; omega) _).set (by dsimp only; omega) _).set (by dsimp only; omega) _
        case measure => simp [intOf]; omega
    · obtain rfl : k = n := by omega
      have hF := HF.out
      rw [List.drop_eq_nil_of_le (by have := HL.out; omega), applA_nil] at hF
      have HF2 := Lib.hid hF
      obtain ⟨⟨x0, x1, x2⟩, v0, v1, v2⟩ := HZ.out
      dsimp only at x0 x1 x2
      clear hF HF
      go_wp2
      refine bodyPost_ret (by simp [results, Tryd.results16, go_sem, x0, x1, x2]; rfl) rfl ?_
      rw [← HF2.out]
      exact ⟨rfl, (by repeat (first | with_reducible assumption | with_reducible exact Bw.refl _ | with_reducible refine Bw.alloc ?_ _ | with_reducible refine Bw.more ?_ _ _ | with_reducible refine Bw.drew ?_ | with_reducible refine Bw.drewN ?_ _ | ((with_reducible refine Bw.set2 ?_ ?_ _); (focus (first | omega | (simp only [szA, szS, szD, szN, plus_size, Array.size_append] <;> omega)))) | with_reducible refine Bw.trans ?_ (by with_reducible assumption)))⟩
end Go.Proofs.YtacekeobmijipaaDoor
