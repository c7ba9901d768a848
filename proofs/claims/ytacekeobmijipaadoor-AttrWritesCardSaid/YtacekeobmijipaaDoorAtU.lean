/- Attributes: the walk of the reference's Bytes, for all attributes. -/
import Derived.Test.YtacekeobmijipaaDoorAtT
import Derived.Deep.RegionHeld3
set_option linter.unusedSimpArgs false
set_option linter.unusedVariables false
namespace Go.Proofs.YtacekeobmijipaaDoor
open Go.RowKit

def effA (x : Int × Int × Int) : Int × Int × Int := if avB x.1 x.2.1 x.2.2 = true then x else (0, 0, 0)
theorem effA_valid (x : Int × Int × Int) : avB (effA x).1 (effA x).2.1 (effA x).2.2 = true := by
  unfold effA
  by_cases h : avB x.1 x.2.1 x.2.2 = true
  · rw [if_pos h]; exact h
  · rw [if_neg h]; rfl
def bts (x y : Int × Int × Int) : List Int := if effA x = effA y then [] else bytesOf (fullN (effA y).1 (effA y).2.1 (effA y).2.2) ++ [109]
theorem own_ne_cell {w : World} {base : Nat} {e : TypeId} {v : Value} {n G : Nat} {x y : Value} {xs : List Value} (h : w.ownsRow base e 1 v n (x :: xs)) (hc : w.cell? ⟨G, 0, none⟩ = some y) (hne : y ≠ x) : v.ownBlock ≠ some G := by
  intro e2
  rcases h.2 with ⟨rfl, h0⟩ | ⟨g, cap, cur, rfl, _⟩
  · simp [Value.ownBlock] at e2
  · simp [Value.ownBlock] at e2
    subst e2
    have := h.cells (g := g) rfl 0 x (by simp)
    simp [Addr.add] at this
    rw [hc] at this
    exact hne (Option.some.inj this)
/-- The literal of the flags and their numbers. -/
def FlL (w : World) (G : Nat) : Prop :=
  w.cell? ⟨G, 0, none⟩ = some (.int .i64 1) ∧ w.cell? ⟨G, 1, none⟩ = some (.int .i64 1) ∧ w.cell? ⟨G, 2, none⟩ = some (.int .i64 2) ∧ w.cell? ⟨G, 3, none⟩ = some (.int .i64 4) ∧ w.cell? ⟨G, 4, none⟩ = some (.int .i64 4) ∧ w.cell? ⟨G, 5, none⟩ = some (.int .i64 7)
theorem FlL.bw {w w' : World} {G : Nat} (h : FlL w G) (hb : Bw w w') : FlL w' G := by
  obtain ⟨h0, h1, h2, h3, h4, h5⟩ := h
  exact ⟨cell_bw hb h0, cell_bw hb h1, cell_bw hb h2, cell_bw hb h3, cell_bw hb h4, cell_bw hb h5⟩
theorem FlL.row {w w' : World} {G n base : Nat} {e : TypeId} {v : Value} {x : Value} {xs : List Value} (h : FlL w G) (ho : w.ownsRow base e 1 v n (x :: xs)) (hne : Value.int .i64 1 ≠ x) (hg : w.grownBy w' v.ownBlock) : FlL w' G := by
  have hn := own_ne_cell ho h.1 hne
  have hl := lt_of_cell h.1
  dsimp only at hl
  have key : ∀ (i : Nat) (u : Value), w.cell? ⟨G, i, none⟩ = some u → w'.cell? ⟨G, i, none⟩ = some u := fun i u hu => (World.cell?_of_block (a := ⟨G, i, none⟩) (hg.block G hl (fun e => hn e.symm))).trans hu
  obtain ⟨h0, h1, h2, h3, h4, h5⟩ := h
  exact ⟨key _ _ h0, key _ _ h1, key _ _ h2, key _ _ h3, key _ _ h4, key _ _ h5⟩
theorem bytesOf_cons (ds : List Int) : ∃ t, (bytesOf ds).map (Value.int .u8) = .int .u8 27 :: t := ⟨_, rfl⟩

theorem FlL.row2 {w w' : World} {G n base : Nat} {e : TypeId} {v : Value} {ds : List Int} (h : FlL w G) (ho : w.ownsRow base e 1 v n ((bytesOf ds).map (.int .u8))) (hg : w.grownBy w' v.ownBlock) : FlL w' G := by
  obtain ⟨t, ht⟩ := bytesOf_cons ds
  rw [ht] at ho
  exact h.row ho (by simp) hg
theorem bytesOf_app (ds : List Int) (d : Int) : bytesOf (ds ++ [d]) = bytesOf ds ++ wr1 d := by
  unfold bytesOf
  simp [List.flatMap_append]
theorem bytesOf_1 (ds : List Int) : bytesOf (ds ++ [1]) = bytesOf ds ++ [59, 49] := by rw [bytesOf_app, dig1 1 (by omega) (by omega)]; rfl
theorem bytesOf_4 (ds : List Int) : bytesOf (ds ++ [4]) = bytesOf ds ++ [59, 52] := by rw [bytesOf_app, dig1 4 (by omega) (by omega)]; rfl
theorem bytesOf_7 (ds : List Int) : bytesOf (ds ++ [7]) = bytesOf ds ++ [59, 55] := by rw [bytesOf_app, dig1 7 (by omega) (by omega)]; rfl
theorem own_eq {w : World} {base : Nat} {e : TypeId} {s : Nat} {v : Value} {n m : Nat} {xs ys : List Value} (h : w.ownsRow base e s v n xs) (h1 : n = m) (h2 : xs = ys) : w.ownsRow base e s v m ys := by subst h1; subst h2; exact h
/-- Where the two attributes lie once the invalid ones are replaced. -/
def Eff (w : World) (x y : Int × Int × Int) (w' : World) : Prop := AtC w' w.heap.size (effA x) ∧ AtC w' (w.heap.size + 1) (effA y) ∧ Bw w w'
theorem AtC.lit {w : World} {g : Nat} {x1 x2 x3 : Int} (hg : g = w.heap.size) : AtC (w.alloc (.cells #[.int .i64 x1, .int .i64 x2, .int .i64 x3] 23)) g (x1, x2, x3) := by
  subst hg
  exact ⟨⟨(by repeat (first | ((with_reducible refine cell_alloc_here ?_ ?_); (focus (first | omega | (simp only [szA, szS, szD, szN, plus_size, Array.size_append] <;> omega))); (focus rfl)) | with_reducible refine cell_alloc_some ?_ _ | with_reducible refine cell_plus_some ?_ _ _ | ((with_reducible refine cell_set_some ?_ ?_); (focus (first | omega | (simp only [szA, szS, szD, szN, plus_size, Array.size_append] <;> omega)))) | with_reducible refine cell_drew_some ?_ | with_reducible refine cell_drewN_some ?_ _)), (by repeat (first | ((with_reducible refine cell_alloc_here ?_ ?_); (focus (first | omega | (simp only [szA, szS, szD, szN, plus_size, Array.size_append] <;> omega))); (focus rfl)) | with_reducible refine cell_alloc_some ?_ _ | with_reducible refine cell_plus_some ?_ _ _ | ((with_reducible refine cell_set_some ?_ ?_); (focus (first | omega | (simp only [szA, szS, szD, szN, plus_size, Array.size_append] <;> omega)))) | with_reducible refine cell_drew_some ?_ | with_reducible refine cell_drewN_some ?_ _)), (by repeat (first | ((with_reducible refine cell_alloc_here ?_ ?_); (focus (first | omega | (simp only [szA, szS, szD, szN, plus_size, Array.size_append] <;> omega))); (focus rfl)) | with_reducible refine cell_alloc_some ?_ _ | with_reducible refine cell_plus_some ?_ _ _ | ((with_reducible refine cell_set_some ?_ ?_); (focus (first | omega | (simp only [szA, szS, szD, szN, plus_size, Array.size_append] <;> omega)))) | with_reducible refine cell_drew_some ?_ | with_reducible refine cell_drewN_some ?_ _))⟩, by simp [go_sem], by simp [go_sem], by simp [go_sem]⟩
theorem AtC.cells {w : World} {g : Nat} {a : Int × Int × Int} (h : AtC w g a) : w.cell? ⟨g, 0, none⟩ = some (.int .i64 a.1) ∧ w.cell? ⟨g, 1, none⟩ = some (.int .i64 a.2.1) ∧ w.cell? ⟨g, 2, none⟩ = some (.int .i64 a.2.2) := h.1
theorem effA_no {x : Int × Int × Int} (h : avB x.1 x.2.1 x.2.2 = false) : effA x = (0, 0, 0) := by unfold effA; rw [if_neg (by rw [h]; simp)]
theorem effA_yes {x : Int × Int × Int} (h : avB x.1 x.2.1 x.2.2 = true) : effA x = x := by unfold effA; rw [if_pos h]

set_option maxRecDepth 100000 in
set_option maxHeartbeats 4000000 in
theorem rbytes_any (x1 x2 x3 y1 y2 y3 : Int) (w : World) : Calls Tryd.prog 10 #[atV x1 x2 x3, atV y1 y2 y3] w (BytesP w (bts (x1, x2, x3) (y1, y2, y3))) := by
  unfold atV
  go_enter Tryd.func10, Tryd.ntmps10
  go_upto_if 10 with (first | (go_at_call 15; refine (rvalid_any x1 x2 x3 _).mono ?_; rintro ee wv ⟨rfl, hbv⟩) | fail)
  have hC1 : AtC wv w.heap.size (x1, x2, x3) := ((AtC.lit rfl).bw (show Bw _ _ from Bw.alloc (Bw.refl _) _)).bw hbv
  have hC2 : AtC wv (w.heap.size + 1) (y1, y2, y3) := (AtC.lit (by (first | omega | (simp only [szA, szS, szD, szN, plus_size, Array.size_append] <;> omega)))).bw hbv
  have hbw : Bw w wv := Bw.trans (show Bw w _ from (by repeat (first | with_reducible assumption | with_reducible exact Bw.refl _ | with_reducible refine Bw.alloc ?_ _ | with_reducible refine Bw.more ?_ _ _ | with_reducible refine Bw.drew ?_ | with_reducible refine Bw.drewN ?_ _ | ((with_reducible refine Bw.set2 ?_ ?_ _); (focus (first | omega | (simp only [szA, szS, szD, szN, plus_size, Array.size_append] <;> omega)))) | with_reducible refine Bw.trans ?_ (by with_reducible assumption)))) hbv
  have HC1 := Lib.hid hC1
  have HC2 := Lib.hid hC2
  clear hbv hC1 hC2
  go_cut [] (fun w' => AtC w' w.heap.size (effA (x1, x2, x3)) ∧ AtC w' (w.heap.size + 1) (y1, y2, y3) ∧ Bw w w')
  case first =>
    cases hv : avB x1 x2 x3
    · obtain ⟨⟨t1, t2, t3⟩, f1, f2, f3⟩ := HC1.out
      dsimp only at t1 t2 t3
      have HE := Lib.hid (effA_no (x := (x1, x2, x3)) hv)
      go_wp2
      go_meet
      case rel => exact ⟨by rw [HE.out]; exact (((HC1.out).set0 0).set1 0).set2 0, ((HC2.out.away (by omega) _).away (by omega) _).away (by omega) _, (by repeat (first | with_reducible assumption | with_reducible exact Bw.refl _ | with_reducible refine Bw.alloc ?_ _ | with_reducible refine Bw.more ?_ _ _ | with_reducible refine Bw.drew ?_ | with_reducible refine Bw.drewN ?_ _ | ((with_reducible refine Bw.set2 ?_ ?_ _); (focus (first | omega | (simp only [szA, szS, szD, szN, plus_size, Array.size_append] <;> omega)))) | with_reducible refine Bw.trans ?_ (by with_reducible assumption)))⟩
    · have HE := Lib.hid (effA_yes (x := (x1, x2, x3)) hv)
      go_wp2
      go_meet
      case rel => exact ⟨by rw [HE.out]; exact HC1.out, HC2.out, hbw⟩
  case rest =>
  obtain ⟨hC1, hC2, hbw⟩ := hcut
  obtain ⟨wo, hwo⟩ : ∃ wo : World, wo = wc := ⟨_, rfl⟩
  subst hwo
  clear HC1 HC2
  obtain ⟨⟨p1, p2, p3⟩, hp⟩ : ∃ p, p = effA (x1, x2, x3) := ⟨_, rfl⟩
  rw [← hp] at hC1
  have HP := Lib.hid hp
  have HC1 := Lib.hid hC1
  have HC2 := Lib.hid hC2
  have hz : w.heap.size + 1 < wo.heap.size := by have := lt_of_cell hC2.1.1; simpa using this
  obtain ⟨⟨s1, s2, s3⟩, f1, f2, f3⟩ := hC2
  dsimp only at s1 s2 s3
  clear hp hC1
  go_upto_if 14 with (first | (go_at_call 15; refine (rvalid_any y1 y2 y3 _).mono ?_; rintro ee wv2 ⟨rfl, hbv⟩) | fail)
  have hC1 := HC1.out.bw hbv
  have hC2 := HC2.out.bw hbv
  have hbw2 : Bw w wv2 := Bw.trans hbw hbv
  have hz2 : w.heap.size + 1 < wv2.heap.size := Nat.lt_of_lt_of_le hz hbv.size
  clear s1 s2 s3 f1 f2 f3 HC1 HC2 hbv hz
  have HC1 := Lib.hid hC1
  have HC2 := Lib.hid hC2
  clear hC1 hC2
  go_cut [] (fun w' => AtC w' w.heap.size (p1, p2, p3) ∧ AtC w' (w.heap.size + 1) (effA (y1, y2, y3)) ∧ Bw w w')
  case first =>
    cases hv : avB y1 y2 y3
    · obtain ⟨⟨t1, t2, t3⟩, f1, f2, f3⟩ := HC2.out
      dsimp only at t1 t2 t3
      have HE := Lib.hid (effA_no (x := (y1, y2, y3)) hv)
      go_wp2
      go_meet
      case rel => exact ⟨((HC1.out.away (by omega) _).away (by omega) _).away (by omega) _, by rw [HE.out]; exact (((HC2.out).set0 0).set1 0).set2 0, (by repeat (first | with_reducible assumption | with_reducible exact Bw.refl _ | with_reducible refine Bw.alloc ?_ _ | with_reducible refine Bw.more ?_ _ _ | with_reducible refine Bw.drew ?_ | with_reducible refine Bw.drewN ?_ _ | ((with_reducible refine Bw.set2 ?_ ?_ _); (focus (first | omega | (simp only [szA, szS, szD, szN, plus_size, Array.size_append] <;> omega)))) | with_reducible refine Bw.trans ?_ (by with_reducible assumption)))⟩
    · have HE := Lib.hid (effA_yes (x := (y1, y2, y3)) hv)
      go_wp2
      go_meet
      case rel => exact ⟨HC1.out, by rw [HE.out]; exact HC2.out, hbw2⟩
  case rest =>
  obtain ⟨hC1, hC2, hbw3⟩ := hcut
  obtain ⟨wp, hwp⟩ : ∃ wp : World, wp = wc := ⟨_, rfl⟩
  subst hwp
  obtain ⟨⟨q1, q2, q3⟩, hq⟩ : ∃ p, p = effA (y1, y2, y3) := ⟨_, rfl⟩
  rw [← hq] at hC2
  have hqv : avB q1 q2 q3 = true := by have := effA_valid (y1, y2, y3); rw [← hq] at this; exact this
  have hqb : 0 ≤ q1 ∧ q1 ≤ 7 ∧ 0 ≤ q2 ∧ q2 ≤ 16 ∧ 0 ≤ q3 ∧ q3 ≤ 16 := of_decide_eq_true hqv
  have HQ := Lib.hid hq
  have hz3 : w.heap.size + 1 < wp.heap.size := by have := lt_of_cell hC2.1.1; simpa using this
  have HC2' := Lib.hid hC2
  obtain ⟨⟨t1, t2, t3⟩, f1, f2, f3⟩ := hC1
  obtain ⟨⟨s1, s2, s3⟩, g1, g2, g3⟩ := hC2
  dsimp only at t1 t2 t3 s1 s2 s3
  clear hq HC1 HC2 hqv f1 f2 f3 g1 g2 g3
  by_cases heq : (p1, p2, p3) = (q1, q2, q3)
  · have HB := Lib.hid (show bts (x1, x2, x3) (y1, y2, y3) = [] by unfold bts; rw [if_pos (by rw [← HP.out, ← HQ.out]; exact heq)])
    simp only [Prod.mk.injEq] at heq
    obtain ⟨rfl, rfl, rfl⟩ := heq
    go_wp2
    go_ret
    exact ⟨_, rfl, by rw [HB.out]; exact Sl.nil_ _ _ _ (by omega), (by repeat (first | with_reducible assumption | with_reducible exact Bw.refl _ | with_reducible refine Bw.alloc ?_ _ | with_reducible refine Bw.more ?_ _ _ | with_reducible refine Bw.drew ?_ | with_reducible refine Bw.drewN ?_ _ | ((with_reducible refine Bw.set2 ?_ ?_ _); (focus (first | omega | (simp only [szA, szS, szD, szN, plus_size, Array.size_append] <;> omega)))) | with_reducible refine Bw.trans ?_ (by with_reducible assumption)))⟩
  · have HB := Lib.hid (show bts (x1, x2, x3) (y1, y2, y3) = bytesOf (fullN q1 q2 q3) ++ [109] by unfold bts; rw [← HP.out, ← HQ.out, if_neg heq])
    have hne : ¬ p1 = q1 ∨ (p1 = q1 ∧ ¬ p2 = q2) ∨ (p1 = q1 ∧ p2 = q2 ∧ ¬ p3 = q3) := by
      simp only [Prod.mk.injEq] at heq
      omega
    have HNE := Lib.hid hne
    clear heq hne
    go_upto_region 5 with (fail)
    go_cut [18] (fun s w' => s = .bool false ∧ wp = w')
    case first =>
      have h3 := HNE.out
      clear HNE
      rcases h3 with h | ⟨rfl, h⟩ | ⟨rfl, rfl, h⟩
      all_goals
        go_wp2
        go_meet
        case rel => exact ⟨by simp [h], rfl⟩
    case rest =>
    obtain ⟨rfl, rfl⟩ := hcut
    obtain ⟨i0, hi, hi0, hi1, hi2⟩ := info_parts infoB
    clear t1 t2 t3 s1 s2 s3
    obtain ⟨hq1, hq2, hq3, hq4, hq5, hq6⟩ := hqb
    go_wp2_with fail
    go_loopw [5, 7] (fun s5 i wr => ∃ k : Nat, ((k = 0 ∧ i = .int .i64 0) ∨ (k = 1 ∧ i = .int .i64 2) ∨ (k = 2 ∧ i = .int .i64 4) ∨ (k = 3 ∧ i = .int .i64 6)) ∧ wr.ownsRow wp.heap.size 5 1 s5 (bytesOf (flagN q1 k)).length ((bytesOf (flagN q1 k)).map (.int .u8)) ∧ FlL wr (wp.heap.size + 1) ∧ Bw wp wr) (fun _ i _ => 6 - (intOf i).toNat)
    case atStart =>
      refine ⟨0, .inl ⟨rfl, rfl⟩, ?_, ⟨(by repeat (first | ((with_reducible refine cell_alloc_here ?_ ?_); (focus (first | omega | (simp only [szA, szS, szD, szN, plus_size, Array.size_append] <;> omega))); (focus rfl)) | with_reducible refine cell_alloc_some ?_ _ | with_reducible refine cell_plus_some ?_ _ _ | ((with_reducible refine cell_set_some ?_ ?_); (focus (first | omega | (simp only [szA, szS, szD, szN, plus_size, Array.size_append] <;> omega)))) | with_reducible refine cell_drew_some ?_ | with_reducible refine cell_drewN_some ?_ _)), (by repeat (first | ((with_reducible refine cell_alloc_here ?_ ?_); (focus (first | omega | (simp only [szA, szS, szD, szN, plus_size, Array.size_append] <;> omega))); (focus rfl)) | with_reducible refine cell_alloc_some ?_ _ | with_reducible refine cell_plus_some ?_ _ _ | ((with_reducible refine cell_set_some ?_ ?_); (focus (first | omega | (simp only [szA, szS, szD, szN, plus_size, Array.size_append] <;> omega)))) | with_reducible refine cell_drew_some ?_ | with_reducible refine cell_drewN_some ?_ _)), (by repeat (first | ((with_reducible refine cell_alloc_here ?_ ?_); (focus (first | omega | (simp only [szA, szS, szD, szN, plus_size, Array.size_append] <;> omega))); (focus rfl)) | with_reducible refine cell_alloc_some ?_ _ | with_reducible refine cell_plus_some ?_ _ _ | ((with_reducible refine cell_set_some ?_ ?_); (focus (first | omega | (simp only [szA, szS, szD, szN, plus_size, Array.size_append] <;> omega)))) | with_reducible refine cell_drew_some ?_ | with_reducible refine cell_drewN_some ?_ _)), (by repeat (first | ((with_reducible refine cell_alloc_here ?_ ?_); (focus (first | omega | (simp only [szA, szS, szD, szN, plus_size, Array.size_append] <;> omega))); (focus rfl)) | with_reducible refine cell_alloc_some ?_ _ | with_reducible refine cell_plus_some ?_ _ _ | ((with_reducible refine cell_set_some ?_ ?_); (focus (first | omega | (simp only [szA, szS, szD, szN, plus_size, Array.size_append] <;> omega)))) | with_reducible refine cell_drew_some ?_ | with_reducible refine cell_drewN_some ?_ _)), (by repeat (first | ((with_reducible refine cell_alloc_here ?_ ?_); (focus (first | omega | (simp only [szA, szS, szD, szN, plus_size, Array.size_append] <;> omega))); (focus rfl)) | with_reducible refine cell_alloc_some ?_ _ | with_reducible refine cell_plus_some ?_ _ _ | ((with_reducible refine cell_set_some ?_ ?_); (focus (first | omega | (simp only [szA, szS, szD, szN, plus_size, Array.size_append] <;> omega)))) | with_reducible refine cell_drew_some ?_ | with_reducible refine cell_drewN_some ?_ _)), (by repeat (first | ((with_reducible refine cell_alloc_here ?_ ?_); (focus (first | omega | (simp only [szA, szS, szD, szN, plus_size, Array.size_append] <;> omega))); (focus rfl)) | with_reducible refine cell_alloc_some ?_ _ | with_reducible refine cell_plus_some ?_ _ _ | ((with_reducible refine cell_set_some ?_ ?_); (focus (first | omega | (simp only [szA, szS, szD, szN, plus_size, Array.size_append] <;> omega)))) | with_reducible refine cell_drew_some ?_ | with_reducible refine cell_drewN_some ?_ _))⟩, (by repeat (first | with_reducible assumption | with_reducible exact Bw.refl _ | with_reducible refine Bw.alloc ?_ _ | with_reducible refine Bw.more ?_ _ _ | with_reducible refine Bw.drew ?_ | with_reducible refine Bw.drewN ?_ _ | ((with_reducible refine Bw.set2 ?_ ?_ _); (focus (first | omega | (simp only [szA, szS, szD, szN, plus_size, Array.size_append] <;> omega)))) | with_reducible refine Bw.trans ?_ (by with_reducible assumption)))⟩
      exact (own_lit (cs := #[.int .u8 27, .int .u8 91, .int .u8 48]) rfl (Nat.le_refl _) (by unfold maxLen; decide) rfl rfl).alloc _
    case round =>
      obtain ⟨k, hki, hown, hFl, hbw⟩ := hrel
      have hfl := flagN_len q1 k
      have hk3 : k ≤ 3 := by omega
      have hlen := bytesOf_len (flagN q1 k) (fun d hd => by have := hfl.2 d hd; omega)
      have hlen' : (bytesOf (flagN q1 k)).length ≤ 100 := by omega
      obtain ⟨A5, c5, rfl, hc5, hc5m⟩ := own_form hown
      obtain ⟨N, hN⟩ : ∃ N, N = (bytesOf (flagN q1 k)).length := ⟨_, rfl⟩
      rw [← hN] at hown hc5 hlen' ⊢
      have HO := Lib.hid hown
      have HF := Lib.hid hFl
      have HN := Lib.hid hN
      have HAt := Lib.hid (HC2'.out.bw hbw)
      obtain ⟨y0, y1', y2'⟩ := HAt.out.1
      obtain ⟨l0, l1, l2, l3, l4, l5⟩ := hFl
      dsimp only at y0 y1' y2'
      have hzr := hbw.size
      clear hown hN hlen hfl
      rcases hki with ⟨rfl, rfl⟩ | ⟨rfl, rfl⟩ | ⟨rfl, rfl⟩ | ⟨rfl, rfl⟩
      · cases hbit : (bits .and .i64 q1 1 != 0)
        · have HE := Lib.hid (show flagN q1 1 = flagN q1 0 by show flagN q1 0 ++ (if (bits .and .i64 q1 1 != 0) = true then [1] else []) = _; rw [if_neg (by rw [hbit]; simp), List.append_nil])
          go_upto_region 12 with (fail)
          go_quiet (fail)
          go_wp2
          go_roundw
          case rel => exact ⟨1, .inr (.inl ⟨rfl, rfl⟩), by rw [HE.out, ← HN.out]; exact HO.out.bw (by repeat (first | with_reducible assumption | with_reducible exact Bw.refl _ | with_reducible refine Bw.alloc ?_ _ | with_reducible refine Bw.more ?_ _ _ | with_reducible refine Bw.drew ?_ | with_reducible refine Bw.drewN ?_ _ | ((with_reducible refine Bw.set2 ?_ ?_ _); (focus (first | omega | (simp only [szA, szS, szD, szN, plus_size, Array.size_append] <;> omega)))) | with_reducible refine Bw.trans ?_ (by with_reducible assumption))), HF.out.bw (by repeat (first | with_reducible assumption | with_reducible exact Bw.refl _ | with_reducible refine Bw.alloc ?_ _ | with_reducible refine Bw.more ?_ _ _ | with_reducible refine Bw.drew ?_ | with_reducible refine Bw.drewN ?_ _ | ((with_reducible refine Bw.set2 ?_ ?_ _); (focus (first | omega | (simp only [szA, szS, szD, szN, plus_size, Array.size_append] <;> omega)))) | with_reducible refine Bw.trans ?_ (by with_reducible assumption))), (by repeat (first | with_reducible assumption | with_reducible exact Bw.refl _ | with_reducible refine Bw.alloc ?_ _ | with_reducible refine Bw.more ?_ _ _ | with_reducible refine Bw.drew ?_ | with_reducible refine Bw.drewN ?_ _ | ((with_reducible refine Bw.set2 ?_ ?_ _); (focus (first | omega | (simp only [szA, szS, szD, szN, plus_size, Array.size_append] <;> omega)))) | with_reducible refine Bw.trans ?_ (by with_reducible assumption)))⟩
          case measure => simp [intOf]
        · have HE := Lib.hid (show flagN q1 1 = flagN q1 0 ++ [1] by show flagN q1 0 ++ (if (bits .and .i64 q1 1 != 0) = true then [1] else []) = _; rw [if_pos hbit])
          go_upto_region 12 with (fail)
          go_quiet (fail)
          go_wp2_with (first | (at_builtin; refine wpList_append_srcG (by rfl) (.tmp 35) (.tmp 43) 27 rfl wp.heap.size 5 i0 (.int .u8 0) 1 1 Tryd.underlying27 hi hi0 hi1 hi2 rfl (by decide) (.slice A5 N c5) N _ (by rfl) (by exact HO.out.bw (show Bw wr _ from (by repeat (first | with_reducible assumption | with_reducible exact Bw.refl _ | with_reducible refine Bw.alloc ?_ _ | with_reducible refine Bw.more ?_ _ _ | with_reducible refine Bw.drew ?_ | with_reducible refine Bw.drewN ?_ _ | ((with_reducible refine Bw.set2 ?_ ?_ _); (focus (first | omega | (simp only [szA, szS, szD, szN, plus_size, Array.size_append] <;> omega)))) | with_reducible refine Bw.trans ?_ (by with_reducible assumption))))) (some ⟨_, 0, none⟩) 2 2 (([59, 49] : List Int).map (.int .u8)) (by rfl) rfl (fun e => by cases e) (fun ad e => by cases e; exact (Rd.lit _ _ _ ([59, 49] : List Int) 2 rfl rfl).news) (one_map (fun _ => rfl) _) (by unfold maxLen; omega) (by omega) (by (first | omega | (simp only [szA, szS, szD, szN, plus_size, Array.size_append] <;> omega))) ?_; intro v1 w1 hown1 hg1; have hF1 := FlL.row2 (HF.out.bw (show Bw wr _ from (by repeat (first | with_reducible assumption | with_reducible exact Bw.refl _ | with_reducible refine Bw.alloc ?_ _ | with_reducible refine Bw.more ?_ _ _ | with_reducible refine Bw.drew ?_ | with_reducible refine Bw.drewN ?_ _ | ((with_reducible refine Bw.set2 ?_ ?_ _); (focus (first | omega | (simp only [szA, szS, szD, szN, plus_size, Array.size_append] <;> omega)))) | with_reducible refine Bw.trans ?_ (by with_reducible assumption))))) (HO.out.bw (show Bw wr _ from (by repeat (first | with_reducible assumption | with_reducible exact Bw.refl _ | with_reducible refine Bw.alloc ?_ _ | with_reducible refine Bw.more ?_ _ _ | with_reducible refine Bw.drew ?_ | with_reducible refine Bw.drewN ?_ _ | ((with_reducible refine Bw.set2 ?_ ?_ _); (focus (first | omega | (simp only [szA, szS, szD, szN, plus_size, Array.size_append] <;> omega)))) | with_reducible refine Bw.trans ?_ (by with_reducible assumption))))) hg1; have hbw1 : Bw wp w1 := Bw.row (show Bw wp _ from (by repeat (first | with_reducible assumption | with_reducible exact Bw.refl _ | with_reducible refine Bw.alloc ?_ _ | with_reducible refine Bw.more ?_ _ _ | with_reducible refine Bw.drew ?_ | with_reducible refine Bw.drewN ?_ _ | ((with_reducible refine Bw.set2 ?_ ?_ _); (focus (first | omega | (simp only [szA, szS, szD, szN, plus_size, Array.size_append] <;> omega)))) | with_reducible refine Bw.trans ?_ (by with_reducible assumption)))) (HO.out.bw (show Bw wr _ from (by repeat (first | with_reducible assumption | with_reducible exact Bw.refl _ | with_reducible refine Bw.alloc ?_ _ | with_reducible refine Bw.more ?_ _ _ | with_reducible refine Bw.drew ?_ | with_reducible refine Bw.drewN ?_ _ | ((with_reducible refine Bw.set2 ?_ ?_ _); (focus (first | omega | (simp only [szA, szS, szD, szN, plus_size, Array.size_append] <;> omega)))) | with_reducible refine Bw.trans ?_ (by with_reducible assumption))))) hg1 (Nat.le_refl _); have HO1 := Lib.hid hown1; have HF1 := Lib.hid hF1; clear hown1 hg1 hF1) | fail)
          go_roundw
          case rel => exact ⟨1, .inr (.inl ⟨rfl, rfl⟩), by rw [HE.out, bytesOf_1, List.length_append, List.map_append, ← HN.out]; exact HO1.out, HF1.out, hbw1⟩
          case measure => simp [intOf]
      · cases hbit : (bits .and .i64 q1 2 != 0)
        · have HE := Lib.hid (show flagN q1 2 = flagN q1 1 by show flagN q1 1 ++ (if (bits .and .i64 q1 2 != 0) = true then [4] else []) = _; rw [if_neg (by rw [hbit]; simp), List.append_nil])
          go_upto_region 12 with (fail)
          go_quiet (fail)
          go_wp2
          go_roundw
          case rel => exact ⟨2, .inr (.inr (.inl ⟨rfl, rfl⟩)), by rw [HE.out, ← HN.out]; exact HO.out.bw (by repeat (first | with_reducible assumption | with_reducible exact Bw.refl _ | with_reducible refine Bw.alloc ?_ _ | with_reducible refine Bw.more ?_ _ _ | with_reducible refine Bw.drew ?_ | with_reducible refine Bw.drewN ?_ _ | ((with_reducible refine Bw.set2 ?_ ?_ _); (focus (first | omega | (simp only [szA, szS, szD, szN, plus_size, Array.size_append] <;> omega)))) | with_reducible refine Bw.trans ?_ (by with_reducible assumption))), HF.out.bw (by repeat (first | with_reducible assumption | with_reducible exact Bw.refl _ | with_reducible refine Bw.alloc ?_ _ | with_reducible refine Bw.more ?_ _ _ | with_reducible refine Bw.drew ?_ | with_reducible refine Bw.drewN ?_ _ | ((with_reducible refine Bw.set2 ?_ ?_ _); (focus (first | omega | (simp only [szA, szS, szD, szN, plus_size, Array.size_append] <;> omega)))) | with_reducible refine Bw.trans ?_ (by with_reducible assumption))), (by repeat (first | with_reducible assumption | with_reducible exact Bw.refl _ | with_reducible refine Bw.alloc ?_ _ | with_reducible refine Bw.more ?_ _ _ | with_reducible refine Bw.drew ?_ | with_reducible refine Bw.drewN ?_ _ | ((with_reducible refine Bw.set2 ?_ ?_ _); (focus (first | omega | (simp only [szA, szS, szD, szN, plus_size, Array.size_append] <;> omega)))) | with_reducible refine Bw.trans ?_ (by with_reducible assumption)))⟩
          case measure => simp [intOf]
        · have HE := Lib.hid (show flagN q1 2 = flagN q1 1 ++ [4] by show flagN q1 1 ++ (if (bits .and .i64 q1 2 != 0) = true then [4] else []) = _; rw [if_pos hbit])
          go_upto_region 12 with (fail)
          go_quiet (fail)
          go_wp2_with (first | (at_builtin; refine wpList_append_srcG (by rfl) (.tmp 35) (.tmp 43) 27 rfl wp.heap.size 5 i0 (.int .u8 0) 1 1 Tryd.underlying27 hi hi0 hi1 hi2 rfl (by decide) (.slice A5 N c5) N _ (by rfl) (by exact HO.out.bw (show Bw wr _ from (by repeat (first | with_reducible assumption | with_reducible exact Bw.refl _ | with_reducible refine Bw.alloc ?_ _ | with_reducible refine Bw.more ?_ _ _ | with_reducible refine Bw.drew ?_ | with_reducible refine Bw.drewN ?_ _ | ((with_reducible refine Bw.set2 ?_ ?_ _); (focus (first | omega | (simp only [szA, szS, szD, szN, plus_size, Array.size_append] <;> omega)))) | with_reducible refine Bw.trans ?_ (by with_reducible assumption))))) (some ⟨_, 0, none⟩) 2 2 (([59, 52] : List Int).map (.int .u8)) (by rfl) rfl (fun e => by cases e) (fun ad e => by cases e; exact (Rd.lit _ _ _ ([59, 52] : List Int) 2 rfl rfl).news) (one_map (fun _ => rfl) _) (by unfold maxLen; omega) (by omega) (by (first | omega | (simp only [szA, szS, szD, szN, plus_size, Array.size_append] <;> omega))) ?_; intro v1 w1 hown1 hg1; have hF1 := FlL.row2 (HF.out.bw (show Bw wr _ from (by repeat (first | with_reducible assumption | with_reducible exact Bw.refl _ | with_reducible refine Bw.alloc ?_ _ | with_reducible refine Bw.more ?_ _ _ | with_reducible refine Bw.drew ?_ | with_reducible refine Bw.drewN ?_ _ | ((with_reducible refine Bw.set2 ?_ ?_ _); (focus (first | omega | (simp only [szA, szS, szD, szN, plus_size, Array.size_append] <;> omega)))) | with_reducible refine Bw.trans ?_ (by with_reducible assumption))))) (HO.out.bw (show Bw wr _ from (by repeat (first | with_reducible assumption | with_reducible exact Bw.refl _ | with_reducible refine Bw.alloc ?_ _ | with_reducible refine Bw.more ?_ _ _ | with_reducible refine Bw.drew ?_ | with_reducible refine Bw.drewN ?_ _ | ((with_reducible refine Bw.set2 ?_ ?_ _); (focus (first | omega | (simp only [szA, szS, szD, szN, plus_size, Array.size_append] <;> omega)))) | with_reducible refine Bw.trans ?_ (by with_reducible assumption))))) hg1; have hbw1 : Bw wp w1 := Bw.row (show Bw wp _ from (by repeat (first | with_reducible assumption | with_reducible exact Bw.refl _ | with_reducible refine Bw.alloc ?_ _ | with_reducible refine Bw.more ?_ _ _ | with_reducible refine Bw.drew ?_ | with_reducible refine Bw.drewN ?_ _ | ((with_reducible refine Bw.set2 ?_ ?_ _); (focus (first | omega | (simp only [szA, szS, szD, szN, plus_size, Array.size_append] <;> omega)))) | with_reducible refine Bw.trans ?_ (by with_reducible assumption)))) (HO.out.bw (show Bw wr _ from (by repeat (first | with_reducible assumption | with_reducible exact Bw.refl _ | with_reducible refine Bw.alloc ?_ _ | with_reducible refine Bw.more ?_ _ _ | with_reducible refine Bw.drew ?_ | with_reducible refine Bw.drewN ?_ _ | ((with_reducible refine Bw.set2 ?_ ?_ _); (focus (first | omega | (simp only [szA, szS, szD, szN, plus_size, Array.size_append] <;> omega)))) | with_reducible refine Bw.trans ?_ (by with_reducible assumption))))) hg1 (Nat.le_refl _); have HO1 := Lib.hid hown1; have HF1 := Lib.hid hF1; clear hown1 hg1 hF1) | fail)
          go_roundw
          case rel => exact ⟨2, .inr (.inr (.inl ⟨rfl, rfl⟩)), by rw [HE.out, bytesOf_4, List.length_append, List.map_append, ← HN.out]; exact HO1.out, HF1.out, hbw1⟩
          case measure => simp [intOf]
      · cases hbit : (bits .and .i64 q1 4 != 0)
        · have HE := Lib.hid (show flagN q1 3 = flagN q1 2 by show flagN q1 2 ++ (if (bits .and .i64 q1 4 != 0) = true then [7] else []) = _; rw [if_neg (by rw [hbit]; simp), List.append_nil])
          go_upto_region 12 with (fail)
          go_quiet (fail)
          go_wp2
          go_roundw
          case rel => exact ⟨3, .inr (.inr (.inr ⟨rfl, rfl⟩)), by rw [HE.out, ← HN.out]; exact HO.out.bw (by repeat (first | with_reducible assumption | with_reducible exact Bw.refl _ | with_reducible refine Bw.alloc ?_ _ | with_reducible refine Bw.more ?_ _ _ | with_reducible refine Bw.drew ?_ | with_reducible refine Bw.drewN ?_ _ | ((with_reducible refine Bw.set2 ?_ ?_ _); (focus (first | omega | (simp only [szA, szS, szD, szN, plus_size, Array.size_append] <;> omega)))) | with_reducible refine Bw.trans ?_ (by with_reducible assumption))), HF.out.bw (by repeat (first | with_reducible assumption | with_reducible exact Bw.refl _ | with_reducible refine Bw.alloc ?_ _ | with_reducible refine Bw.more ?_ _ _ | with_reducible refine Bw.drew ?_ | with_reducible refine Bw.drewN ?_ _ | ((with_reducible refine Bw.set2 ?_ ?_ _); (focus (first | omega | (simp only [szA, szS, szD, szN, plus_size, Array.size_append] <;> omega)))) | with_reducible refine Bw.trans ?_ (by with_reducible assumption))), (by repeat (first | with_reducible assumption | with_reducible exact Bw.refl _ | with_reducible refine Bw.alloc ?_ _ | with_reducible refine Bw.more ?_ _ _ | with_reducible refine Bw.drew ?_ | with_reducible refine Bw.drewN ?_ _ | ((with_reducible refine Bw.set2 ?_ ?_ _); (focus (first | omega | (simp only [szA, szS, szD, szN, plus_size, Array.size_append] <;> omega)))) | with_reducible refine Bw.trans ?_ (by with_reducible assumption)))⟩
          case measure => simp [intOf]
        · have HE := Lib.hid (show flagN q1 3 = flagN q1 2 ++ [7] by show flagN q1 2 ++ (if (bits .and .i64 q1 4 != 0) = true then [7] else []) = _; rw [if_pos hbit])
          go_upto_region 12 with (fail)
          go_quiet (fail)
          go_wp2_with (first | (at_builtin; refine wpList_append_srcG (by rfl) (.tmp 35) (.tmp 43) 27 rfl wp.heap.size 5 i0 (.int .u8 0) 1 1 Tryd.underlying27 hi hi0 hi1 hi2 rfl (by decide) (.slice A5 N c5) N _ (by rfl) (by exact HO.out.bw (show Bw wr _ from (by repeat (first | with_reducible assumption | with_reducible exact Bw.refl _ | with_reducible refine Bw.alloc ?_ _ | with_reducible refine Bw.more ?_ _ _ | with_reducible refine Bw.drew ?_ | with_reducible refine Bw.drewN ?_ _ | ((with_reducible refine Bw.set2 ?_ ?_ _); (focus (first | omega | (simp only [szA, szS, szD, szN, plus_size, Array.size_append] <;> omega)))) | with_reducible refine Bw.trans ?_ (by with_reducible assumption))))) (some ⟨_, 0, none⟩) 2 2 (([59, 55] : List Int).map (.int .u8)) (by rfl) rfl (fun e => by cases e) (fun ad e => by cases e; exact (Rd.lit _ _ _ ([59, 55] : List Int) 2 rfl rfl).news) (one_map (fun _ => rfl) _) (by unfold maxLen; omega) (by omega) (by (first | omega | (simp only [szA, szS, szD, szN, plus_size, Array.size_append] <;> omega))) ?_; intro v1 w1 hown1 hg1; have hF1 := FlL.row2 (HF.out.bw (show Bw wr _ from (by repeat (first | with_reducible assumption | with_reducible exact Bw.refl _ | with_reducible refine Bw.alloc ?_ _ | with_reducible refine Bw.more ?_ _ _ | with_reducible refine Bw.drew ?_ | with_reducible refine Bw.drewN ?_ _ | ((with_reducible refine Bw.set2 ?_ ?_ _); (focus (first | omega | (simp only [szA, szS, szD, szN, plus_size, Array.size_append] <;> omega)))) | with_reducible refine Bw.trans ?_ (by with_reducible assumption))))) (HO.out.bw (show Bw wr _ from (by repeat (first | with_reducible assumption | with_reducible exact Bw.refl _ | with_reducible refine Bw.alloc ?_ _ | with_reducible refine Bw.more ?_ _ _ | with_reducible refine Bw.drew ?_ | with_reducible refine Bw.drewN ?_ _ | ((with_reducible refine Bw.set2 ?_ ?_ _); (focus (first | omega | (simp only [szA, szS, szD, szN, plus_size, Array.size_append] <;> omega)))) | with_reducible refine Bw.trans ?_ (by with_reducible assumption))))) hg1; have hbw1 : Bw wp w1 := Bw.row (show Bw wp _ from (by repeat (first | with_reducible assumption | with_reducible exact Bw.refl _ | with_reducible refine Bw.alloc ?_ _ | with_reducible refine Bw.more ?_ _ _ | with_reducible refine Bw.drew ?_ | with_reducible refine Bw.drewN ?_ _ | ((with_reducible refine Bw.set2 ?_ ?_ _); (focus (first | omega | (simp only [szA, szS, szD, szN, plus_size, Array.size_append] <;> omega)))) | with_reducible refine Bw.trans ?_ (by with_reducible assumption)))) (HO.out.bw (show Bw wr _ from (by repeat (first | with_reducible assumption | with_reducible exact Bw.refl _ | with_reducible refine Bw.alloc ?_ _ | with_reducible refine Bw.more ?_ _ _ | with_reducible refine Bw.drew ?_ | with_reducible refine Bw.drewN ?_ _ | ((with_reducible refine Bw.set2 ?_ ?_ _); (focus (first | omega | (simp only [szA, szS, szD, szN, plus_size, Array.size_append] <;> omega)))) | with_reducible refine Bw.trans ?_ (by with_reducible assumption))))) hg1 (Nat.le_refl _); have HO1 := Lib.hid hown1; have HF1 := Lib.hid hF1; clear hown1 hg1 hF1) | fail)
          go_roundw
          case rel => exact ⟨3, .inr (.inr (.inr ⟨rfl, rfl⟩)), by rw [HE.out, bytesOf_7, List.length_append, List.map_append, ← HN.out]; exact HO1.out, HF1.out, hbw1⟩
          case measure => simp [intOf]
      · have hfl := flagN_len q1 3
        have htail : ∀ ds, fullN q1 q2 q3 = ds → (bytesOf ds).length ≤ 200 := by
          intro ds e
          have h3 := hfl.1
          have hd : ∀ d ∈ ds, 0 ≤ d ∧ d ≤ 1000 := by
            intro d hd
            rw [← e] at hd
            unfold fullN at hd
            rcases List.mem_append.1 hd with hd | hd
            · rcases List.mem_append.1 hd with hd | hd
              · have := hfl.2 d hd; omega
              · split at hd
                · simp at hd
                · simp at hd; subst hd; unfold numC; split <;> omega
            · split at hd
              · simp at hd
              · simp at hd; subst hd; unfold numC; split <;> omega
          have := bytesOf_len ds hd
          have hl : ds.length ≤ 5 := by
            rw [← e]
            unfold fullN
            rw [List.length_append, List.length_append]
            split <;> split <;> simp <;> omega
          omega
        have HTL := Lib.hid htail
        have N1 := Lib.hid (show 0 ≤ numC q2 30 90 ∧ numC q2 30 90 < 1000 by unfold numC; split <;> omega)
        have N2 := Lib.hid (show 0 ≤ numC q3 40 100 ∧ numC q3 40 100 < 1000 by unfold numC; split <;> omega)
        have C1 := Lib.hid (show (if 8 < q2 then 30 + 60 + q2 - 9 else 30 + q2 - 1) = numC q2 30 90 by unfold numC; split <;> split <;> omega)
        have C2 := Lib.hid (show (if 8 < q3 then 40 + 60 + q3 - 9 else 40 + q3 - 1) = numC q3 40 100 by unfold numC; split <;> split <;> omega)
        obtain ⟨DS1, hds⟩ : ∃ DS1, DS1 = flagN q1 3 ++ (if q2 = 0 then [] else [numC q2 30 90]) := ⟨_, rfl⟩
        have HDS := Lib.hid hds
        have hds1 : (bytesOf DS1).length ≤ 150 := by
          rw [hds]
          split
          · rw [List.append_nil, ← HN.out]; omega
          · have h6 := bytesOf_one (flagN q1 3) (numC q2 30 90) N1.out.1 (by have := N1.out.2; omega); rw [← HN.out] at h6; omega
        clear htail hfl hds l0 l1 l2 l3 l4 l5
        have hI : (6 : Int) = 6 := rfl
        go_upto_if 47 with (fail)
        go_cut [5] (fun s5 w' => w'.ownsRow wp.heap.size 5 1 s5 (bytesOf DS1).length ((bytesOf DS1).map (.int .u8)) ∧ Bw wp w')
        case first =>
          by_cases hg0 : q2 = 0
          · subst hg0
            go_wp2
            go_meet
            case rel => exact ⟨by have h := HDS.out; (first | rw [if_pos rfl] at h | rw [if_pos trivial] at h); rw [List.append_nil] at h; rw [h, ← HN.out]; exact HO.out, (by repeat (first | with_reducible assumption | with_reducible exact Bw.refl _ | with_reducible refine Bw.alloc ?_ _ | with_reducible refine Bw.more ?_ _ _ | with_reducible refine Bw.drew ?_ | with_reducible refine Bw.drewN ?_ _ | ((with_reducible refine Bw.set2 ?_ ?_ _); (focus (first | omega | (simp only [szA, szS, szD, szN, plus_size, Array.size_append] <;> omega)))) | with_reducible refine Bw.trans ?_ (by with_reducible assumption)))⟩
          · have hgp : 0 < q2 := by omega
            have HG := Lib.hid hg0
            clear hg0
            go_wp2_with fail
            have y := HAt.out.1
            dsimp only at y
            obtain ⟨y0, y1', y2'⟩ := y
            go_region_held3 (fun w' => w'.cell? ⟨w.heap.size + 1, 1, none⟩ = some (.int .i64 q2)) ((first | (exact cell_bw (by repeat (first | with_reducible assumption | with_reducible exact Bw.refl _ | with_reducible refine Bw.alloc ?_ _ | with_reducible refine Bw.more ?_ _ _ | with_reducible refine Bw.drew ?_ | with_reducible refine Bw.drewN ?_ _ | ((with_reducible refine Bw.set2 ?_ ?_ _); (focus (first | omega | (simp only [szA, szS, szD, szN, plus_size, Array.size_append] <;> omega)))) | with_reducible refine Bw.trans ?_ (by with_reducible assumption))) HC2'.out.1.2.1) | fail)) ((first
              | (refine step_append_srcG (by rfl) (.tmp 48) (.tmp 49) 27 rfl wp.heap.size 5 i0 (.int .u8 0) 1 1 Tryd.underlying27 hi hi0 hi1 hi2 rfl (by decide) (.slice A5 N c5) N _ (by rfl) (by exact HO.out.bw (show Bw wr _ from (by repeat (first | with_reducible assumption | with_reducible exact Bw.refl _ | with_reducible refine Bw.alloc ?_ _ | with_reducible refine Bw.more ?_ _ _ | with_reducible refine Bw.drew ?_ | with_reducible refine Bw.drewN ?_ _ | ((with_reducible refine Bw.set2 ?_ ?_ _); (focus (first | omega | (simp only [szA, szS, szD, szN, plus_size, Array.size_append] <;> omega)))) | with_reducible refine Bw.trans ?_ (by with_reducible assumption))))) (some ⟨_, 0, none⟩) 1 1 [.int .u8 59] (by rfl) rfl (fun e => by cases e) (fun ad e => by cases e; exact cell_one_at (by first | assumption | ((repeat (first | with_reducible assumption |  ((with_reducible refine cell_alloc_here ?_ ?_); (focus (first | omega | (simp only [szA, szS, szD, szN, plus_size, Array.size_append] <;> omega))); (focus rfl)) | with_reducible refine cell_alloc_some ?_ _ | with_reducible refine cell_plus_some ?_ _ _ | ((with_reducible refine cell_set_some ?_ ?_); (focus (first | omega | (simp only [szA, szS, szD, szN, plus_size, Array.size_append] <;> omega)))) | with_reducible refine cell_drew_some ?_ | with_reducible refine cell_drewN_some ?_ _)); done))) (by simp; rfl) (by unfold maxLen; omega) (by omega) (by (first | omega | (simp only [szA, szS, szD, szN, plus_size, Array.size_append] <;> omega))) ?_; intro v1 w1 hown1 hg1; have hb1 : Bw wp w1 := Bw.row (show Bw wp _ from (by repeat (first | with_reducible assumption | with_reducible exact Bw.refl _ | with_reducible refine Bw.alloc ?_ _ | with_reducible refine Bw.more ?_ _ _ | with_reducible refine Bw.drew ?_ | with_reducible refine Bw.drewN ?_ _ | ((with_reducible refine Bw.set2 ?_ ?_ _); (focus (first | omega | (simp only [szA, szS, szD, szN, plus_size, Array.size_append] <;> omega)))) | with_reducible refine Bw.trans ?_ (by with_reducible assumption)))) (HO.out.bw (show Bw wr _ from (by repeat (first | with_reducible assumption | with_reducible exact Bw.refl _ | with_reducible refine Bw.alloc ?_ _ | with_reducible refine Bw.more ?_ _ _ | with_reducible refine Bw.drew ?_ | with_reducible refine Bw.drewN ?_ _ | ((with_reducible refine Bw.set2 ?_ ?_ _); (focus (first | omega | (simp only [szA, szS, szD, szN, plus_size, Array.size_append] <;> omega)))) | with_reducible refine Bw.trans ?_ (by with_reducible assumption))))) hg1 (Nat.le_refl _); have hz1 := hb1.size; have HO1 := Lib.hid hown1; clear hown1 hg1)
              | (go_at_call 23; refine (code_any q2 30 _ (by omega) (by omega) (by omega) (by omega)).mono ?_; rintro ee ww ⟨rfl, rfl⟩; rw [C1.out])
              | (go_at_call 22; refine (dec_any (numC q2 30 90) _ N1.out.1 N1.out.2).mono ?_; rintro ee wd ⟨vD, D, rfl, hwD, hlD, hownD, hbD⟩; obtain ⟨AD, cD, rfl, hcD, hcDm⟩ := own_form hownD; have HOD := Lib.hid hownD; have HWD := Lib.hid hwD; have hzD := hbD.size; clear hownD hwD)
              | (refine step_append_srcG (by rfl) (.tmp 50) (.tmp 54) 27 rfl wp.heap.size 5 i0 (.int .u8 0) 1 1 Tryd.underlying27 hi hi0 hi1 hi2 rfl (by decide) v1 (N + 1) _ (by rfl) (by exact HO1.out.bw (show Bw w1 _ from (by repeat (first | with_reducible assumption | with_reducible exact Bw.refl _ | with_reducible refine Bw.alloc ?_ _ | with_reducible refine Bw.more ?_ _ _ | with_reducible refine Bw.drew ?_ | with_reducible refine Bw.drewN ?_ _ | ((with_reducible refine Bw.set2 ?_ ?_ _); (focus (first | omega | (simp only [szA, szS, szD, szN, plus_size, Array.size_append] <;> omega)))) | with_reducible refine Bw.trans ?_ (by with_reducible assumption))))) AD D.length cD (D.map (.int .u8)) (by rfl) (by simp) (fun e => ((own_rd HOD.out).none_ e).1) (Rd.news2 ((own_rd HOD.out).up (by repeat (first | with_reducible assumption | with_reducible exact Bw.refl _ | with_reducible refine Bw.alloc ?_ _ | with_reducible refine Bw.more ?_ _ _ | with_reducible refine Bw.drew ?_ | with_reducible refine Bw.drewN ?_ _ | ((with_reducible refine Bw.set2 ?_ ?_ _); (focus (first | omega | (simp only [szA, szS, szD, szN, plus_size, Array.size_append] <;> omega)))) | with_reducible refine Bw.trans ?_ (by with_reducible assumption))))) (one_map (fun _ => rfl) _) (by unfold maxLen; omega) (by omega) (by (first | omega | (simp only [szA, szS, szD, szN, plus_size, Array.size_append] <;> omega))) ?_; intro v2 w2 hown2 hg2; have hb2 : Bw wp w2 := Bw.row (show Bw wp _ from (by repeat (first | with_reducible assumption | with_reducible exact Bw.refl _ | with_reducible refine Bw.alloc ?_ _ | with_reducible refine Bw.more ?_ _ _ | with_reducible refine Bw.drew ?_ | with_reducible refine Bw.drewN ?_ _ | ((with_reducible refine Bw.set2 ?_ ?_ _); (focus (first | omega | (simp only [szA, szS, szD, szN, plus_size, Array.size_append] <;> omega)))) | with_reducible refine Bw.trans ?_ (by with_reducible assumption)))) (HO1.out.bw (show Bw w1 _ from (by repeat (first | with_reducible assumption | with_reducible exact Bw.refl _ | with_reducible refine Bw.alloc ?_ _ | with_reducible refine Bw.more ?_ _ _ | with_reducible refine Bw.drew ?_ | with_reducible refine Bw.drewN ?_ _ | ((with_reducible refine Bw.set2 ?_ ?_ _); (focus (first | omega | (simp only [szA, szS, szD, szN, plus_size, Array.size_append] <;> omega)))) | with_reducible refine Bw.trans ?_ (by with_reducible assumption))))) hg2 (Nat.le_refl _); have HO2 := Lib.hid hown2; clear hown2 hg2)
              | fail))
            all_goals
              go_wp2
              go_meet
              case rel => exact ⟨by rw [HDS.out, if_neg HG.out, bytesOf_app, HWD.out, List.length_append, List.map_append, List.length_cons, ← HN.out]; exact (own_eq HO2.out (by omega) (by simp)), hb2⟩
        case rest =>
        obtain ⟨hown1, hbw1⟩ := hcut
        obtain ⟨wq, hwq⟩ : ∃ wq : World, wq = wc := ⟨_, rfl⟩
        subst hwq
        obtain ⟨A6, c6, rfl, hc6, hc6m⟩ := own_form hown1
        obtain ⟨N', hN1⟩ : ∃ N, N = (bytesOf DS1).length := ⟨_, rfl⟩
        rw [← hN1] at hown1 hc6 hds1 ⊢
        have HN1 := Lib.hid hN1
        have HOq := Lib.hid hown1
        have hAt2 := HC2'.out.bw hbw1
        have HAt := Lib.hid hAt2
        have hzq := hbw1.size
        obtain ⟨y0, y1', y2'⟩ := hAt2.1
        dsimp only at y0 y1' y2'
        obtain ⟨DS2, hds2⟩ : ∃ DS2, DS2 = fullN q1 q2 q3 := ⟨_, rfl⟩
        have HDS2 := Lib.hid (show DS2 = DS1 ++ (if q3 = 0 then [] else [numC q3 40 100]) by rw [hds2, HDS.out]; rfl)
        have HDF := Lib.hid hds2
        have hds3 := HTL.out DS2 hds2.symm
        clear hown1 hN1 hds2 HO HF hbw
        go_upto_if 58 with (fail)
        go_cut [5] (fun s5 w' => w'.ownsRow wp.heap.size 5 1 s5 (bytesOf DS2).length ((bytesOf DS2).map (.int .u8)) ∧ Bw wp w')
        case first =>
          by_cases hg0 : q3 = 0
          · subst hg0
            go_wp2
            go_meet
            case rel => exact ⟨by have h := HDS2.out; (first | rw [if_pos rfl] at h | rw [if_pos trivial] at h); rw [List.append_nil] at h; rw [h, ← HN1.out]; exact HOq.out, (by repeat (first | with_reducible assumption | with_reducible exact Bw.refl _ | with_reducible refine Bw.alloc ?_ _ | with_reducible refine Bw.more ?_ _ _ | with_reducible refine Bw.drew ?_ | with_reducible refine Bw.drewN ?_ _ | ((with_reducible refine Bw.set2 ?_ ?_ _); (focus (first | omega | (simp only [szA, szS, szD, szN, plus_size, Array.size_append] <;> omega)))) | with_reducible refine Bw.trans ?_ (by with_reducible assumption)))⟩
          · have hgp : 0 < q3 := by omega
            have HG := Lib.hid hg0
            clear hg0
            go_wp2_with fail
            have y := HAt.out.1
            dsimp only at y
            obtain ⟨y0, y1', y2'⟩ := y
            go_region_held3 (fun w' => w'.cell? ⟨w.heap.size + 1, 2, none⟩ = some (.int .i64 q3)) ((first | (exact cell_bw (by repeat (first | with_reducible assumption | with_reducible exact Bw.refl _ | with_reducible refine Bw.alloc ?_ _ | with_reducible refine Bw.more ?_ _ _ | with_reducible refine Bw.drew ?_ | with_reducible refine Bw.drewN ?_ _ | ((with_reducible refine Bw.set2 ?_ ?_ _); (focus (first | omega | (simp only [szA, szS, szD, szN, plus_size, Array.size_append] <;> omega)))) | with_reducible refine Bw.trans ?_ (by with_reducible assumption))) HC2'.out.1.2.2) | fail)) ((first
              | (refine step_append_srcG (by rfl) (.tmp 59) (.tmp 60) 27 rfl wp.heap.size 5 i0 (.int .u8 0) 1 1 Tryd.underlying27 hi hi0 hi1 hi2 rfl (by decide) (.slice A6 N' c6) N' _ (by rfl) (by exact HOq.out.bw (show Bw wq _ from (by repeat (first | with_reducible assumption | with_reducible exact Bw.refl _ | with_reducible refine Bw.alloc ?_ _ | with_reducible refine Bw.more ?_ _ _ | with_reducible refine Bw.drew ?_ | with_reducible refine Bw.drewN ?_ _ | ((with_reducible refine Bw.set2 ?_ ?_ _); (focus (first | omega | (simp only [szA, szS, szD, szN, plus_size, Array.size_append] <;> omega)))) | with_reducible refine Bw.trans ?_ (by with_reducible assumption))))) (some ⟨_, 0, none⟩) 1 1 [.int .u8 59] (by rfl) rfl (fun e => by cases e) (fun ad e => by cases e; exact cell_one_at (by first | assumption | ((repeat (first | with_reducible assumption |  ((with_reducible refine cell_alloc_here ?_ ?_); (focus (first | omega | (simp only [szA, szS, szD, szN, plus_size, Array.size_append] <;> omega))); (focus rfl)) | with_reducible refine cell_alloc_some ?_ _ | with_reducible refine cell_plus_some ?_ _ _ | ((with_reducible refine cell_set_some ?_ ?_); (focus (first | omega | (simp only [szA, szS, szD, szN, plus_size, Array.size_append] <;> omega)))) | with_reducible refine cell_drew_some ?_ | with_reducible refine cell_drewN_some ?_ _)); done))) (by simp; rfl) (by unfold maxLen; omega) (by omega) (by (first | omega | (simp only [szA, szS, szD, szN, plus_size, Array.size_append] <;> omega))) ?_; intro v1 w1 hown1 hg1; have hb1 : Bw wp w1 := Bw.row (show Bw wp _ from (by repeat (first | with_reducible assumption | with_reducible exact Bw.refl _ | with_reducible refine Bw.alloc ?_ _ | with_reducible refine Bw.more ?_ _ _ | with_reducible refine Bw.drew ?_ | with_reducible refine Bw.drewN ?_ _ | ((with_reducible refine Bw.set2 ?_ ?_ _); (focus (first | omega | (simp only [szA, szS, szD, szN, plus_size, Array.size_append] <;> omega)))) | with_reducible refine Bw.trans ?_ (by with_reducible assumption)))) (HOq.out.bw (show Bw wq _ from (by repeat (first | with_reducible assumption | with_reducible exact Bw.refl _ | with_reducible refine Bw.alloc ?_ _ | with_reducible refine Bw.more ?_ _ _ | with_reducible refine Bw.drew ?_ | with_reducible refine Bw.drewN ?_ _ | ((with_reducible refine Bw.set2 ?_ ?_ _); (focus (first | omega | (simp only [szA, szS, szD, szN, plus_size, Array.size_append] <;> omega)))) | with_reducible refine Bw.trans ?_ (by with_reducible assumption))))) hg1 (Nat.le_refl _); have hz1 := hb1.size; have HO1 := Lib.hid hown1; clear hown1 hg1)
              | (go_at_call 23; refine (code_any q3 40 _ (by omega) (by omega) (by omega) (by omega)).mono ?_; rintro ee ww ⟨rfl, rfl⟩; rw [C2.out])
              | (go_at_call 22; refine (dec_any (numC q3 40 100) _ N2.out.1 N2.out.2).mono ?_; rintro ee wd ⟨vD, D, rfl, hwD, hlD, hownD, hbD⟩; obtain ⟨AD, cD, rfl, hcD, hcDm⟩ := own_form hownD; have HOD := Lib.hid hownD; have HWD := Lib.hid hwD; have hzD := hbD.size; clear hownD hwD)
              | (refine step_append_srcG (by rfl) (.tmp 61) (.tmp 65) 27 rfl wp.heap.size 5 i0 (.int .u8 0) 1 1 Tryd.underlying27 hi hi0 hi1 hi2 rfl (by decide) v1 (N' + 1) _ (by rfl) (by exact HO1.out.bw (show Bw w1 _ from (by repeat (first | with_reducible assumption | with_reducible exact Bw.refl _ | with_reducible refine Bw.alloc ?_ _ | with_reducible refine Bw.more ?_ _ _ | with_reducible refine Bw.drew ?_ | with_reducible refine Bw.drewN ?_ _ | ((with_reducible refine Bw.set2 ?_ ?_ _); (focus (first | omega | (simp only [szA, szS, szD, szN, plus_size, Array.size_append] <;> omega)))) | with_reducible refine Bw.trans ?_ (by with_reducible assumption))))) AD D.length cD (D.map (.int .u8)) (by rfl) (by simp) (fun e => ((own_rd HOD.out).none_ e).1) (Rd.news2 ((own_rd HOD.out).up (by repeat (first | with_reducible assumption | with_reducible exact Bw.refl _ | with_reducible refine Bw.alloc ?_ _ | with_reducible refine Bw.more ?_ _ _ | with_reducible refine Bw.drew ?_ | with_reducible refine Bw.drewN ?_ _ | ((with_reducible refine Bw.set2 ?_ ?_ _); (focus (first | omega | (simp only [szA, szS, szD, szN, plus_size, Array.size_append] <;> omega)))) | with_reducible refine Bw.trans ?_ (by with_reducible assumption))))) (one_map (fun _ => rfl) _) (by unfold maxLen; omega) (by omega) (by (first | omega | (simp only [szA, szS, szD, szN, plus_size, Array.size_append] <;> omega))) ?_; intro v2 w2 hown2 hg2; have hb2 : Bw wp w2 := Bw.row (show Bw wp _ from (by repeat (first | with_reducible assumption | with_reducible exact Bw.refl _ | with_reducible refine Bw.alloc ?_ _ | with_reducible refine Bw.more ?_ _ _ | with_reducible refine Bw.drew ?_ | with_reducible refine Bw.drewN ?_ _ | ((with_reducible refine Bw.set2 ?_ ?_ _); (focus (first | omega | (simp only [szA, szS, szD, szN, plus_size, Array.size_append] <;> omega)))) | with_reducible refine Bw.trans ?_ (by with_reducible assumption)))) (HO1.out.bw (show Bw w1 _ from (by repeat (first | with_reducible assumption | with_reducible exact Bw.refl _ | with_reducible refine Bw.alloc ?_ _ | with_reducible refine Bw.more ?_ _ _ | with_reducible refine Bw.drew ?_ | with_reducible refine Bw.drewN ?_ _ | ((with_reducible refine Bw.set2 ?_ ?_ _); (focus (first | omega | (simp only [szA, szS, szD, szN, plus_size, Array.size_append] <;> omega)))) | with_reducible refine Bw.trans ?_ (by with_reducible assumption))))) hg2 (Nat.le_refl _); have HO2 := Lib.hid hown2; clear hown2 hg2)
              | fail))
            all_goals
              go_wp2
              go_meet
              case rel => exact ⟨by rw [HDS2.out, if_neg HG.out, bytesOf_app, HWD.out, List.length_append, List.map_append, List.length_cons, ← HN1.out]; exact (own_eq HO2.out (by omega) (by simp)), hb2⟩
        case rest =>
        obtain ⟨hown2, hbw2⟩ := hcut
        obtain ⟨A7, c7, rfl, hc7, hc7m⟩ := own_form hown2
        obtain ⟨M, hM⟩ : ∃ N, N = (bytesOf DS2).length := ⟨_, rfl⟩
        rw [← hM] at hown2 hc7 hds3 ⊢
        have HO7 := Lib.hid hown2
        have HM := Lib.hid hM
        have hz7 := hbw2.size
        clear hown2 hM y0 y1' y2'
        go_wp2_with (first | (at_builtin; refine wpList_append_srcG (by rfl) (.tmp 67) (.tmp 68) 27 rfl wp.heap.size 5 i0 (.int .u8 0) 1 1 Tryd.underlying27 hi hi0 hi1 hi2 rfl (by decide) (.slice A7 M c7) M _ (by rfl) (HO7.out.alloc _) (some ⟨_, 0, none⟩) 1 1 [.int .u8 109] (by rfl) rfl (fun e => by cases e) (fun ad e => by cases e; exact cell_one_new _ _ _) (by simp; rfl) (by unfold maxLen; omega) (by omega) (by (first | omega | (simp only [szA, szS, szD, szN, plus_size, Array.size_append] <;> omega))) ?_; intro v3 w3 hown3 hg3; have hbw3' : Bw wp w3 := Bw.row (Bw.alloc hbw2 _) (HO7.out.alloc _) hg3 (Nat.le_refl _)) | fail)
        go_ret
        refine ⟨_, rfl, ?_, Bw.trans hbw3 hbw3'⟩
        rw [HB.out, ← HDF.out]
        exact Sl.of_own (by rw [List.map_append]; exact hown3)
end Go.Proofs.YtacekeobmijipaaDoor
