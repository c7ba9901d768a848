/- Parts of the proof, one after the other. -/
import Derived.Test.YtmkpefielfinjaaDoorL03
import Derived.Deep.RegionHeld3
import Derived.Test.YtmkpefielfinjaaDoorL32
import Derived.Test.YtmkpefielfinjaaDoorL02
import Derived.Test.YtmkpefielfinjaaDoorL01
import Derived.LaidMore
import Derived.Lay
import Derived.LaidSub
import Derived.MakeChecks
import Derived.Lib.LaidTab
import Derived.OpenShut
import Derived.WideShapes
import Derived.Lib.SmallJoins
import Derived.Deep.Strs
set_option linter.unusedSimpArgs false
set_option linter.unusedVariables false
/- Compose: the reference's line of a job. -/
namespace Go.Proofs.YtmkpefielfinjaaDoor
open Go.RowKit Go.PlainAid

theorem bs_word (b : ByteArray) : b = bs b.data.toList := by
  unfold bs
  apply ByteArray.ext
  simp
theorem ownz_rd {w : World} {B : Nat} {A : Option Addr} {n c m : Nat} {l : List UInt8} {xs : List Value} (h : OwnZ w B (.slice A n c) m xs) (hx : xs = Lib.byteCells l) : Rd (.int .u8) w A n (l.map fun b => (b.toNat : Int)) := by
  subst hx
  rcases h with h | ⟨g, e, hl, _, hn, hc⟩
  · refine own_rd (e := 5) (f := .int .u8) (base := B) (m := m) (c := c) ?_
    rw [List.map_map]
    exact h
  · cases e
    refine ⟨by simpa [Lib.byteCells] using hl, fun h0 => ⟨g, 0, rfl, fun i hi => ?_⟩⟩
    simp only [List.length_map] at hi
    have := hc i (.int .u8 (l[i].toNat)) (by simp [Lib.byteCells, hi])
    by_cases h0 : i = 0
    · subst h0; simpa [Addr.add] using this
    · simpa [Addr.add, h0] using this
theorem lineL_run (s : ByteArray) (p inc runs : Int) (mark : Bool) : lineL s p inc runs mark = headL mark ++ nameL s ++ [32] ++ (wordB p).data.toList ++ [32, 35] ++ Lib.itoa inc ++ runL runs := rfl

set_option maxRecDepth 100000 in
set_option maxHeartbeats 2000000 in
theorem rline_any (s : ByteArray) (p inc runs : Int) (mark : Bool) (w : World) (hs : s.size ≤ 1000000000) (c0 : -9223372036854775808 ≤ inc) (c1 : inc ≤ 9223372036854775807) (r0 : -9223372036854775808 ≤ runs) (r1 : runs ≤ 9223372036854775807) :
    Calls Tryd.prog 12 #[.agg #[.string s, .int .i64 p, .int .i64 inc, .int .i64 runs], .bool mark] w fun e w' => e = .returned (.string (bs (lineL s p inc runs mark))) ∧ Bw w w' := by
  obtain ⟨n, hn⟩ : ∃ n, n = s.size := ⟨_, rfl⟩
  have hb := get_bt s
  have hws := wordB_size p
  have hdi := dec_size inc c0 c1
  have hdr := dec_size runs r0 r1
  go_enter Tryd.func12, Tryd.ntmps12
  go_upto_if 11 with (fail)
  go_cut [5] (fun s5 wc => OwnZ wc (w.heap.size + 1) s5 2 (Lib.byteCells (headL mark)) ∧ Ln w wc s p inc runs)
  case first =>
    cases mark
    all_goals
      go_wp2
      go_meet
      case rel =>
        exact ⟨.inr ⟨_, rfl, rfl, by omega, by omega, cell_two (cell_alloc_here SZX rfl) (cell_alloc_here SZX rfl)⟩, ⟨CELX, CELX, CELX, CELX⟩, BWX⟩
  case rest =>
  obtain ⟨hZ, hL⟩ := hcut
  obtain ⟨A5, c5, rfl, hc5, hc5m⟩ := hZ.form
  have HZ0 := Lib.hid hZ
  have HL0 := Lib.hid hL
  clear hZ hL
  go_wp2_with (fail)
  go_loopw [5, 6] (fun s5 i wr => ∃ k : Nat, i = .int .i64 k ∧ k ≤ n ∧ OwnZ wr (w.heap.size + 1) s5 (k + 2) (Lib.byteCells (headL mark) ++ Lib.byteCells ((nameL s).take k)) ∧ Ln w wr s p inc runs) (fun _ i _ => n - (intOf i).toNat)
  case atStart => exact ⟨0, rfl, by omega, by simpa [Lib.byteCells] using HZ0.out, HL0.out⟩
  case round =>
    obtain ⟨k, rfl, hk, hZ, hL⟩ := hrel
    clear HZ0 HL0
    obtain ⟨A5, c5, rfl, hc5, hc5m⟩ := hZ.form
    obtain ⟨y0, y1, y2, y3⟩ := hL.1
    have lt0 := hL.lt
    have HZ := Lib.hid hZ
    have HL := Lib.hid hL
    clear hZ hL
    by_cases hlt : k < n
    · have HX := nameL_snoc s k (by omega)
      have b0 := bt_nonneg s k
      have b1 := bt_le s k
      rcases cln_ways (bt s k) with ⟨h1, hc⟩ | ⟨h1, h2, hc⟩ | ⟨h1, h2, hc⟩
      all_goals
        rw [hc] at HX
        clear hc
        have HX := Lib.hid HX
        go_wp2_with (first
          | (at_builtin; refine wpList_append_z (by rfl) (.tmp 31) (.tmp 33) rfl (w.heap.size + 1) _ (k + 2) _ (by rfl) (HZ.out.alloc _) ⟨_, 0, none⟩ 1 _ (by rfl) (cell_alloc_here SZX rfl) rfl (by omega) SZX ?_; intro v1 w1 hown1 hbel1)
          | fail)
        go_roundw
        case rel =>
          refine ⟨k + 1, by go_num, by omega, ?_, (HL.out.step (Below.alloc (Below.refl _ _) lt0 _)).step hbel1⟩
          rw [HX.out, ← List.append_assoc, show k + 1 + 2 = k + 2 + 1 by omega]
          exact .inl hown1
        case measure => simp [intOf]; omega
    · obtain ⟨X, hX⟩ : ∃ X, X = headL mark ++ nameL s := ⟨_, rfl⟩
      have hrd : Rd (.int .u8) wr A5 (k + 2) (X.map fun b => (b.toNat : Int)) := ownz_rd HZ.out (by
        rw [hX, Lib.byteCells_append, List.take_of_length_le (by rw [nameL_len]; omega)])
      have hXl : X.length = k + 2 := by simpa using hrd.1
      have hs1 : (⟨#[32]⟩ : ByteArray).size = 1 := rfl
      have hs35 : (⟨#[32, 35]⟩ : ByteArray).size = 2 := rfl
      have hs126 : (⟨#[32, 126]⟩ : ByteArray).size = 2 := rfl
      have hsX : (bs X).size = k + 2 := hXl
      have HXX := Lib.hid hX
      have hbr := HL.out.2
      have HY : Hid (∀ w', Bw wr w' → (w'.cell? ⟨w.heap.size, 1, none⟩ = some (.int .i64 p) ∧ w'.cell? ⟨w.heap.size, 2, none⟩ = some (.int .i64 inc)) ∧ (convert 48 9 (.slice A5 (k + 2) c5)).run Tryd.prog w' = .ok (.string (bs X)) w') :=
        Lib.hid (fun w' hb' => ⟨⟨cell_bw hb' y1, cell_bw hb' y2⟩, conv_bytes rfl (hrd.up hb')⟩)
      clear hX hrd
      have f1 : ¬ (9223372036854775807 < k + 2 + 1) := by omega
      have f2 : ¬ (9223372036854775807 < k + 2 + 1 + (wordB p).size) := by omega
      have f3 : ¬ (9223372036854775807 < k + 2 + 1 + (wordB p).size + 2) := by omega
      have f4 : ¬ (9223372036854775807 < k + 2 + 1 + (wordB p).size + 2 + (bs (Lib.itoa inc)).size) := by omega
      go_upto_region 11 with (fail)
      clear y0 y1 y2 y3
      go_cut [8] (fun s8 w' => s8 = .string (bs (X ++ [32] ++ (wordB p).data.toList ++ [32, 35] ++ Lib.itoa inc)) ∧ Bw wr w')
      case first =>
        refine wp_region_held_drew (S := (fun w' => (w'.cell? ⟨w.heap.size, 1, none⟩ = some (.int .i64 p) ∧ w'.cell? ⟨w.heap.size, 2, none⟩ = some (.int .i64 inc)) ∧ (convert 48 9 (.slice A5 (k + 2) c5)).run Tryd.prog w' = .ok (.string (bs X)) w')) (by kernel_rfl) ?_ (fun hHeld => ?_)
        · (try dsimp only); (first | (exact HY.out _ BWX) | fail)
        refine tkH 0 ?_ rfl (Or.inl ⟨by rfl, ?ht0⟩) ?_
        case ht0 => (intro w hSw; (try dsimp only at hSw); go_simp; try with_reducible rfl)
        (try simp only [Act.put, zP1, zP2, zP3, zP4, zP5, zP6])
        refine tkH 1 ?_ rfl (Or.inl ⟨by rfl, ?ht1⟩) ?_
        case ht1 => (intro w hSw; (try dsimp only at hSw); go_simp; try with_reducible rfl)
        (try simp only [Act.put, zP1, zP2, zP3, zP4, zP5, zP6])
        refine tkH 2 ?_ rfl (Or.inl ⟨by rfl, ?ht2⟩) ?_
        case ht2 => (intro w hSw; (try dsimp only at hSw); go_simp; try with_reducible rfl)
        (try simp only [Act.put, zP1, zP2, zP3, zP4, zP5, zP6])
        refine tkH 3 ?_ rfl (Or.inl ⟨by rfl, ?ht3⟩) ?_
        case ht3 => (intro w hSw; (try dsimp only at hSw); go_simp; try with_reducible rfl)
        (try simp only [Act.put, zP1, zP2, zP3, zP4, zP5, zP6])
        refine tkH 4 ?_ rfl (Or.inl ⟨by rfl, ?ht4⟩) ?_
        case ht4 => (intro w hSw; (try dsimp only at hSw); go_simp; try with_reducible rfl)
        (try simp only [Act.put, zP1, zP2, zP3, zP4, zP5, zP6])
        refine tkH 8 ?_ rfl (Or.inl ⟨by rfl, ?ht8⟩) ?_
        case ht8 => (intro w hSw; (try dsimp only at hSw); go_simp; try with_reducible rfl)
        (try simp only [Act.put, zP1, zP2, zP3, zP4, zP5, zP6])
        refine tkH 9 ?_ rfl (Or.inl ⟨by rfl, ?ht9⟩) ?_
        case ht9 => (intro w hSw; (try dsimp only at hSw); go_simp; try with_reducible rfl)
        (try simp only [Act.put, zP1, zP2, zP3, zP4, zP5, zP6])
        refine wpAnyH_ready (rs := [5]) (by kernel_rfl) (by simp) ?_
        refine AllReadyH.cons rfl (fun K hK => ?_) ?_
        · go_simp
          refine (rword_any p _).mono ?_; rintro ee v1 ⟨rfl, hv1⟩; go_wp2_with fail
          refine hK.out _ _ ?_ (fun hHeld => ?_)
          · (try dsimp only); (first | (exact HY.out _ BWX) | fail)
          clear hK K
          (try simp only [Act.put, zP1, zP2, zP3, zP4, zP5, zP6])
          refine tkH 6 ?_ rfl (Or.inl ⟨by rfl, ?ht6⟩) ?_
          case ht6 => (intro w hSw; (try dsimp only at hSw); go_simp; try with_reducible rfl)
          (try simp only [Act.put, zP1, zP2, zP3, zP4, zP5, zP6])
          refine tkH 7 ?_ rfl (Or.inl ⟨by rfl, ?ht7⟩) ?_
          case ht7 => (intro w hSw; (try dsimp only at hSw); go_simp; try with_reducible rfl)
          (try simp only [Act.put, zP1, zP2, zP3, zP4, zP5, zP6])
          refine wpAnyH_ready (rs := [10]) (by kernel_rfl) (by simp) ?_
          refine AllReadyH.cons rfl (fun K hK => ?_) ?_
          · go_simp
            refine (dec30_any inc _ c0 c1).mono ?_; rintro ee v2 ⟨rfl, hv2⟩; go_wp2_with fail
            refine hK.out _ _ ?_ (fun hHeld => ?_)
            · (try dsimp only); (first | (exact HY.out _ BWX) | fail)
            clear hK K
            (try simp only [Act.put, zP1, zP2, zP3, zP4, zP5, zP6])
            refine tkH 11 ?_ rfl (Or.inl ⟨by rfl, ?ht11⟩) ?_
            case ht11 => (intro w hSw; (try dsimp only at hSw); go_simp; try with_reducible rfl)
            (try simp only [Act.put, zP1, zP2, zP3, zP4, zP5, zP6])
            refine tkH 12 ?_ rfl (Or.inl ⟨by rfl, ?ht12⟩) ?_
            case ht12 => (intro w hSw; (try dsimp only at hSw); go_simp; try with_reducible rfl)
            (try simp only [Act.put, zP1, zP2, zP3, zP4, zP5, zP6])
            refine wpAnyH_done (by kernel_rfl) ?_ _
            go_wp2_with fail
            go_meet
            case rel =>
              refine ⟨?_, BWX⟩
              rw [bs_word (wordB p)]
              simp only [← bs_add]
              rfl
          exact AllReadyH.nil
        exact AllReadyH.nil
      case rest =>
      obtain ⟨rfl, hbc⟩ := hcut
      have y3 := cell_bw hbc HL.out.1.2.2.2
      have HBC := Lib.hid hbc
      obtain ⟨U, hU⟩ : ∃ U, U = X ++ [32] ++ (wordB p).data.toList ++ [32, 35] ++ Lib.itoa inc := ⟨_, rfl⟩
      have hUl : U.length ≤ 1000000100 := by
        have h1 : (bs (Lib.itoa inc)).size = (Lib.itoa inc).length := rfl
        have h2 : (wordB p).data.toList.length = (wordB p).size := rfl
        rw [hU]
        simp only [List.length_append, List.length_cons, List.length_nil]
        omega
      have hsU : (bs U).size ≤ 1000000100 := hUl
      rw [← hU]
      have HU := Lib.hid hU
      clear hU hUl
      by_cases hr : runs = 0
      · subst hr
        go_wp2_with (fail)
        go_ret
        refine ⟨?_, Bw.trans hbr hbc⟩
        rw [lineL_run, HU.out, HXX.out]
        simp [runL]
      · go_wp2_with (first
          | (go_at_call 24; refine (dec30_any runs _ r0 r1).mono ?_; rintro ee w5 ⟨rfl, hb5⟩)
          | fail)
        go_ret
        refine ⟨?_, Bw.trans hbr (Bw.trans hbc hb5)⟩
        rw [lineL_run, ← HXX.out, ← HU.out, runL, if_neg hr, ← List.append_assoc, ← bs_add, ← bs_add]
        rfl
end Go.Proofs.YtmkpefielfinjaaDoor

/- The law ComposeLines. -/
namespace Go.Proofs.YtmkpefielfinjaaDoor
open Go.RowKit

set_option maxRecDepth 100000 in
set_option maxHeartbeats 2000000 in
theorem lines30_any (s : ByteArray) (p inc runs phase : Int) (mark : Bool) (w : World) (hi : -9223372036854775808 ≤ inc ∧ inc ≤ 9223372036854775807) (hr : -9223372036854775808 ≤ runs ∧ runs ≤ 9223372036854775807) (hph : -9223372036854775808 ≤ phase ∧ phase ≤ 9223372036854775807) (hT : WordT w) (hP : PowT w.heap.size w) :
    Calls Tryd.prog 3 #[.agg #[.string s, .int .i64 p, .int .i64 inc, .int .i64 runs], .int .i64 phase, .bool mark] w fun e w' => e = .returned (.bool true) ∧ Bw w w' := by
  have HT := Lib.hid hT
  have HP := Lib.hid hP
  clear hT hP
  go_enter Tryd.func3, Tryd.ntmps3
  go_upto_region 1 with (fail)
  generalize hw0 : w.alloc _ = w0
  obtain ⟨hb0, hbw0, hz0⟩ := sb1 hw0
  have HB0 := Lib.hid (show Sb w0 w.heap.size #[.string s, .int .i64 p, .int .i64 inc, .int .i64 runs] 23 from hb0)
  clear hw0 hb0
  go_upto_region 3 with (first
    | (go_at_call 7; refine (sane30_any w0 (HT.out.up hbw0) (PowT.up30 HP.out hbw0)).mono ?_; rintro ee w1 ⟨rfl, hb1⟩)
    | fail)
  have HB1 := Lib.hid (HB0.out.up hb1)
  have hbw1 := Bw.trans hbw0 hb1
  have hz1 := hb1.size
  have x0 := HB1.out.cell 0 (v := .string s) rfl
  by_cases hs : 100 < s.size
  · have hs2 : (100 : Int) < (s.size : Int) := by omega
    go_wp2_with fail
    go_ret
    exact ⟨rfl, hbw1⟩
  have hs2 : ¬ (100 : Int) < (s.size : Int) := by omega
  clear hb1 HB0
  obtain ⟨q, hq⟩ : ∃ q, phase % 12 = q := ⟨_, rfl⟩
  have q1 : 0 ≤ q := by rw [← hq]; exact Int.emod_nonneg phase (by omega)
  have q2 : q < 12 := by rw [← hq]; exact Int.emod_lt_of_pos phase (by omega)
  have HQ := Lib.hid hq
  clear hq
  go_wp2_with (first
    | (go_at_call 8; refine (mmod_any _ _ _ (by omega) (by omega)).mono ?_; rintro ee ww ⟨rfl, rfl⟩; rw [HQ.out])
    | fail)
  go_loopw [21] (fun i wr => ∃ k : Nat, i = .int .i64 (k : Int) ∧ k ≤ 2 ∧ (∃ y, Sb wr w.heap.size #[.string s, .int .i64 y, .int .i64 inc, .int .i64 runs] 23) ∧ Sb wr w1.heap.size #[.int .i64 phase, .int .i64 (q - 1)] 3 ∧ Bw w wr) (fun i _ => 2 - (intOf i).toNat)
  case atStart => exact ⟨0, rfl, by omega, ⟨p, HB1.out.up BWX⟩, heap_at rfl, Bw.alloc hbw1 _⟩
  case round =>
    obtain ⟨k, rfl, hk, ⟨y, hS⟩, hL, hbr⟩ := hrel
    have HS := Lib.hid hS
    have HL := Lib.hid hL
    have HBR := Lib.hid hbr
    have hlz := hL.lt
    clear hS hL hbr x0
    by_cases hlt : k < 2
    · obtain ⟨v, hv, hvr⟩ : ∃ v, wr.cell? ⟨w1.heap.size, k, none⟩ = some (.int .i64 v) ∧ (v = phase ∨ v = q - 1) := by
        rcases (show k = 0 ∨ k = 1 by omega) with rfl | rfl
        · exact ⟨phase, HL.out.cell 0 rfl, .inl rfl⟩
        · exact ⟨q - 1, HL.out.cell 1 rfl, .inr rfl⟩
      have x0 := HS.out.cell 0 (v := .string s) rfl
      have x1 := HS.out.cell 1 (v := .int .i64 y) rfl
      have f1 := HS.out.free 1
      go_upto_region 10 with (first
        | (go_at_call 9; refine (word_any v _ (HT.out.up HBR.out)).mono ?_; rintro ee ww ⟨rfl, rfl⟩)
        | (go_at_call 10; refine (rword_any v _).mono ?_; rintro ee w2 ⟨rfl, hb2⟩; clear x0 x1 f1; have HS2 := Lib.hid (HS.out.up hb2); have x1 := HS2.out.cell 1 (v := .int .i64 y) rfl; have f1 := HS2.out.free 1; have hz2 := hb2.size)
        | fail)
      go_upto_region 11 with (fail)
      clear x1 f1
      generalize hw3 : w2.setCell _ _ = w3
      have HS3 := Lib.hid (show Sb w3 w.heap.size #[.string s, .int .i64 v, .int .i64 inc, .int .i64 runs] 23 from by rw [← hw3]; exact HS2.out.set 1 _ rfl)
      have HL3 := Lib.hid (show Sb w3 w1.heap.size #[.int .i64 phase, .int .i64 (q - 1)] 3 from by rw [← hw3]; exact (HL.out.up hb2).away (by have := hbw0.size; omega) _)
      have hb3 : Bw w w3 := by rw [← hw3]; exact Bw.set2 (by dsimp only; omega) (Bw.trans HBR.out hb2) _
      have HB3 := Lib.hid hb3
      have hz3 := HS3.out.lt
      have hzl := HL3.out.lt
      clear hw3 hb3 hb2 hv
      have HY : Hid (∀ w', Bw w3 w' → w'.cell? ⟨w.heap.size, 0, none⟩ = some (.string s) ∧ w'.cell? ⟨w.heap.size, 1, none⟩ = some (.int .i64 v) ∧ w'.cell? ⟨w.heap.size, 2, none⟩ = some (.int .i64 inc) ∧ w'.cell? ⟨w.heap.size, 3, none⟩ = some (.int .i64 runs)) := Lib.hid (fun w' hb => ⟨(HS3.out.up hb).cell 0 rfl, (HS3.out.up hb).cell 1 rfl, (HS3.out.up hb).cell 2 rfl, (HS3.out.up hb).cell 3 rfl⟩)
      refine wp_region_held_drew (S := (fun w' => w'.cell? ⟨w.heap.size, 0, none⟩ = some (.string s) ∧ w'.cell? ⟨w.heap.size, 1, none⟩ = some (.int .i64 v) ∧ w'.cell? ⟨w.heap.size, 2, none⟩ = some (.int .i64 inc) ∧ w'.cell? ⟨w.heap.size, 3, none⟩ = some (.int .i64 runs))) (by kernel_rfl) ?_ (fun hHeld => ?_)
      · (try dsimp only); (first | (exact HY.out _ BWX) | fail)
      refine tkH 0 ?_ rfl (Or.inl ⟨by rfl, ?ht0⟩) ?_
      case ht0 => (intro w hSw; (try dsimp only at hSw); go_simp; try with_reducible rfl)
      (try simp only [Act.put, zP1, zP2, zP3, zP4, zP5, zP6])
      refine tkH 1 ?_ rfl (Or.inl ⟨by rfl, ?ht1⟩) ?_
      case ht1 => (intro w hSw; (try dsimp only at hSw); go_simp; try with_reducible rfl)
      (try simp only [Act.put, zP1, zP2, zP3, zP4, zP5, zP6])
      refine tkH 3 ?_ rfl (Or.inl ⟨by rfl, ?ht3⟩) ?_
      case ht3 => (intro w hSw; (try dsimp only at hSw); go_simp; try with_reducible rfl)
      (try simp only [Act.put, zP1, zP2, zP3, zP4, zP5, zP6])
      refine tkH 4 ?_ rfl (Or.inl ⟨by rfl, ?ht4⟩) ?_
      case ht4 => (intro w hSw; (try dsimp only at hSw); go_simp; try with_reducible rfl)
      (try simp only [Act.put, zP1, zP2, zP3, zP4, zP5, zP6])
      refine wpAnyH_ready (rs := [2]) (by kernel_rfl) (by simp) ?_
      refine AllReadyH.cons rfl (fun K hK => ?_) ?_
      · go_simp
        refine (line_any s v inc runs mark _ (by omega) hi.1 hi.2 hr.1 hr.2 (HT.out.up (Bw.trans HB3.out BWX)) (PowT.up30 HP.out (Bw.trans HB3.out BWX))).mono ?_; rintro ee v1 ⟨rfl, hv1⟩; go_wp2_with fail
        refine hK.out _ _ ?_ (fun hHeld => ?_)
        · (try dsimp only); (first | (exact HY.out _ BWX) | fail)
        clear hK K
        (try simp only [Act.put, zP1, zP2, zP3, zP4, zP5, zP6])
        refine wpAnyH_ready (rs := [5]) (by kernel_rfl) (by simp) ?_
        refine AllReadyH.cons rfl (fun K hK => ?_) ?_
        · go_simp
          refine (rline_any s v inc runs mark _ (by omega) hi.1 hi.2 hr.1 hr.2).mono ?_; rintro ee v2 ⟨rfl, hv2⟩; go_wp2_with fail
          refine hK.out _ _ ?_ (fun hHeld => ?_)
          · (try dsimp only); (first | (exact HY.out _ BWX) | fail)
          clear hK K
          (try simp only [Act.put, zP1, zP2, zP3, zP4, zP5, zP6])
          refine tkH 6 ?_ rfl (Or.inl ⟨by rfl, ?ht6⟩) ?_
          case ht6 => (intro w hSw; (try dsimp only at hSw); go_simp; try with_reducible rfl)
          (try simp only [Act.put, zP1, zP2, zP3, zP4, zP5, zP6])
          refine wpAnyH_done (by kernel_rfl) ?_ _
          go_wp2_with fail
          go_roundw
          case rel => exact ⟨k + 1, by go_num, by omega, ⟨v, HS3.out.up BWX⟩, HL3.out.up BWX, Bw.trans HB3.out BWX⟩
          case measure => simp [intOf]; omega
        exact AllReadyH.nil
      exact AllReadyH.nil
    · have hk2 : ¬ (k : Int) < 2 := by omega
      obtain rfl : k = 2 := by omega
      go_wp2_with fail
      go_ret
      exact ⟨rfl, HBR.out⟩
end Go.Proofs.YtmkpefielfinjaaDoor

/- Arguments: a status; what the row's condition tells of the table of words. -/
namespace Go.Proofs.YtmkpefielfinjaaDoor
open Go.RowKit Go.ChangeShapes Go.WideShapes Go.ChangeAt Go.Joins Go.Deep

theorem cells_intS : Tryd.prog.cellsOf 3 = 1 := by kernel_rfl
theorem cells_strS : Tryd.prog.cellsOf 9 = 1 := by kernel_rfl
theorem cells_status : Tryd.prog.cellsOf 23 = 4 := by kernel_rfl
theorem trod_status {H : Type} {enc : TypeId × Value → H} {W : World} {base : Nat} {sp : Nat → Bool} {held : Bool} {fuel : Nat} {c0 c1 c2 c3 : Value} {x : DataW H × List MemPlace}
    (hf : DataW.trod enc Tryd.prog W base sp held fuel 23 [c0, c1, c2, c3] = some x) : ∃ (s : ByteArray) (x2 x3 x4 : Int), c0 = .string s ∧ c1 = .int .i64 x2 ∧ c2 = .int .i64 x3 ∧ c3 = .int .i64 x4 ∧ s.size ≤ maxLen ∧ (Lit.int .i64 x2).wf = true ∧ (Lit.int .i64 x3).wf = true ∧ (Lit.int .i64 x4).wf = true := by
  obtain ⟨y0, y1, y2, y3, n, hx, _, h0, h1, h2, h3⟩ := trod_struct4 Tryd.underlying23 hf
  have h0' : DataW.trod enc Tryd.prog W base sp held n 9 [c0] = some y0 := by simpa [cells_strS] using h0
  have h1' : DataW.trod enc Tryd.prog W base sp held n 3 [c1] = some y1 := by simpa [cells_intS] using h1
  have h2' : DataW.trod enc Tryd.prog W base sp held n 3 [c2] = some y2 := by simpa [cells_intS] using h2
  have h3' : DataW.trod enc Tryd.prog W base sp held n 3 [c3] = some y3 := by simpa [cells_intS] using h3
  obtain ⟨s, e1, -, q1⟩ := DataW.trod_string Tryd.underlying9 h0'
  obtain ⟨x2, e2, -, q2⟩ := DataW.trod_int Tryd.underlying3 h1'
  obtain ⟨x3, e3, -, q3⟩ := DataW.trod_int Tryd.underlying3 h2'
  obtain ⟨x4, e4, -, q4⟩ := DataW.trod_int Tryd.underlying3 h3'
  cases e1; cases e2; cases e3; cases e4
  exact ⟨s, x2, x3, x4, rfl, rfl, rfl, rfl, q1, q2, q3, q4⟩
theorem wf_bd {n : Int} (h : (Lit.int .i64 n).wf = true) : -9223372036854775808 ≤ n ∧ n ≤ 9223372036854775807 := by simpa [Lit.wf, IntKind.min, IntKind.max, IntKind.signed, IntKind.bits] using h
set_option maxRecDepth 100000 in
theorem open_status {H : Type} {enc : TypeId × Value → H} {W : World} {base : Nat} {sp : Nat → Bool} {held : Bool} {r : Reach} {b0 : Nat} {v : Value} {d : DataW H} {p : List MemPlace}
    (hv : Value.okWide Tryd.prog W r b0 23 v) (h : DataW.Trod enc Tryd.prog W base sp held 23 v d p) : ∃ (s : ByteArray) (x2 x3 x4 : Int), v = .agg #[.string s, .int .i64 x2, .int .i64 x3, .int .i64 x4] ∧ (-9223372036854775808 ≤ x3 ∧ x3 ≤ 9223372036854775807) ∧ (-9223372036854775808 ≤ x4 ∧ x4 ≤ 9223372036854775807) := by
  obtain ⟨cs, rfl, hsz⟩ := okWide_struct Tryd.underlying23 hv
  rw [cells_status] at hsz
  obtain ⟨c0, c1, c2, c3, rfl⟩ := array4 hsz
  obtain ⟨fuel, hf⟩ := h
  obtain ⟨s, x2, x3, x4, rfl, rfl, rfl, rfl, -, -, q3, q4⟩ := trod_status (c0 := c0) (c1 := c1) (c2 := c2) (c3 := c3) (by simpa [Value.cells] using hf)
  exact ⟨s, x2, x3, x4, rfl, wf_bd q3, wf_bd q4⟩

theorem cells_of_strs {H : Type} {enc : TypeId × Value → H} {P : Program} {w : World} {base : Nat} {sp : Nat → Bool} {held : Bool} {fuel : Nat} {t e : TypeId} {n : Nat} {cs : List Value} {zs : List (List UInt8)} {p : List MemPlace}
    (ht : P.underlying t = some (.array n e)) (he : P.underlying e = some .string) (hce : P.cellsOf e = 1) (hct : P.cellsOf t = n)
    (h : DataW.trod enc P w base sp held fuel t cs = some (.agg (zs.map fun z => .lit (.string z)), p)) : cs = zs.map fun z => Value.string ⟨z.toArray⟩ := by
  cases fuel with
  | zero => simp [DataW.trod] at h
  | succ fuel =>
    simp only [DataW.trod, ht, hce, hct, Nat.mul_one] at h
    split at h
    · rename_i hl
      obtain ⟨xs, hm, hx⟩ := Option.map_eq_some_iff.1 h
      have hxs : xs.map (·.1) = zs.map fun z => (DataW.lit (.string z) : DataW H) := by
        have := congrArg Prod.fst hx
        simpa using this
      have hxl : xs.length = n := by simpa using Lib.mapM_length hm
      have hzl : zs.length = n := by
        have := congrArg List.length hxs
        simp at this
        omega
      apply List.ext_getElem?
      intro i
      by_cases hi : i < n
      · obtain ⟨b, hb, hf⟩ := Lib.mapM_at hm i i (by simp [hi])
        obtain ⟨s, hc, rfl, _⟩ := DataW.trod_string he hf
        have h1 : cs[i]? = some (.string s) := by
          have := congrArg (·[0]?) hc
          simpa [List.getElem?_take, List.getElem?_drop] using this
        have h2 : (xs.map (·.1))[i]? = some (DataW.lit (.string s.data.toList) : DataW H) := by simp [hb]
        rw [hxs] at h2
        simp only [List.getElem?_map, Option.map_eq_some_iff, DataW.lit.injEq, Lit.string.injEq] at h2
        obtain ⟨z', hz', e9⟩ := h2
        have e8 : s = ⟨z'.toArray⟩ := by rw [e9]
        simp [h1, hz', e8]
      · rw [List.getElem?_eq_none (by omega), List.getElem?_eq_none (by simp; omega)]
    · cases h
/-- From the row's condition: the table of words. -/
theorem word_of_head {W : World} {rest : List (String × DataW Unit)} {t : TypeId}
    (hg : Tryd.prog.globalNamed "jobmux/compose.words" = some 0) (hty : (Tryd.prog.globals[0]?).map (·.type) = some t) (ht : Tryd.prog.underlying t = some (.array 10 9)) (hct : Tryd.prog.cellsOf t = 10)
    (h : laidMet Tryd.prog (("jobmux/compose.words", .agg ((wordL.map fun b => b.data.toList).map fun z => .lit (.string z))) :: rest) W) : WordT W := by
  obtain ⟨ps, ⟨g', t', cs, fuel, p, q, hg', ht', hvar, hd, _, _⟩, _⟩ := h
  obtain rfl := Option.some.inj (hg.symm.trans hg')
  obtain rfl := Option.some.inj (hty.symm.trans ht')
  have e := cells_of_strs ht Tryd.underlying9 cells_strS hct hd
  intro i hi
  have := World.var?_cell hg hvar i
  rw [this, ← Array.getElem?_toList, e]
  have key : ∀ (l : List ByteArray) (i : Nat) (h : i < l.length), ((l.map fun b => b.data.toList).map fun z => Value.string ⟨z.toArray⟩)[i]? = some (.string (l.getD i ⟨#[63]⟩)) := by
    intro l i h
    simp [h]
  exact key wordL i hi
end Go.Proofs.YtmkpefielfinjaaDoor
