/- Parts of the proof, one after the other. -/
import Derived.Test.YtmkpefielfinjaaDoorV07
import Derived.Test.YtmkpefielfinjaaDoorV35
import Derived.Test.YtmkpefielfinjaaDoorV37
import Derived.Test.YtmkpefielfinjaaDoorV02
import Derived.Deep.RegionHeld3
import Derived.Test.YtmkpefielfinjaaDoorV34
import Derived.Test.YtmkpefielfinjaaDoorV30
import Derived.Test.YtmkpefielfinjaaDoorV28
set_option linter.unusedSimpArgs false
set_option linter.unusedVariables false
/- The reference's Same of two views that are alike. -/
namespace Go.Proofs.YtmkpefielfinjaaDoor
open Go.RowKit

set_option maxRecDepth 100000 in
set_option maxHeartbeats 2000000 in
theorem rsameV_any (R C row col : Int) (hid : Bool) (A B : Option Addr) (n c m d : Nat) (xs : List C4) (w : World) (hx : Rg w A n xs) (hn : n ≤ c) (hc : c ≤ 9223372036854775807) (hy : Rg w B m xs) (hm : m ≤ d) (hd : d ≤ 9223372036854775807) :
  Calls Tryd.prog 17 #[.agg #[.int .i64 R, .int .i64 C, .slice A n c, .int .i64 row, .int .i64 col, .bool hid], .agg #[.int .i64 R, .int .i64 C, .slice B m d, .int .i64 row, .int .i64 col, .bool hid]] w fun e w' => e = .returned (.bool true) ∧ Bw w w' := by
 have HX := Lib.hid hx
 have HY := Lib.hid hy
 have HT := Lib.hid (show (decide (R = R) && decide (C = C) && decide (xs = xs)) = true by simp)
 clear hx hy
 go_enter Tryd.func17, Tryd.ntmps17
 go_upto_region 1 with (fail)
 generalize hw0 : (w.alloc (.cells #[.int .i64 R, .int .i64 C, .slice A n c, .int .i64 row, .int .i64 col, .bool hid] 34)).alloc _ = w0
 obtain ⟨hb0, hb1, hbw0, hz0⟩ := sb2 hw0
 have HB0 := Lib.hid (show Sb w0 w.heap.size (vwV R C A n c row col hid) 34 from hb0)
 have HB1 := Lib.hid (show Sb w0 (w.heap.size + 1) (vwV R C B m d row col hid) 34 from hb1)
 clear hw0 hb0 hb1
 have x0 := HB0.out.cell 0 (v := .int .i64 R) rfl
 have x1 := HB0.out.cell 1 (v := .int .i64 C) rfl
 have x2 := HB0.out.cell 2 (v := .slice A n c) rfl
 have y0 := HB1.out.cell 0 (v := .int .i64 R) rfl
 have y1 := HB1.out.cell 1 (v := .int .i64 C) rfl
 have y2 := HB1.out.cell 2 (v := .slice B m d) rfl
 go_wp2_with (first
  | (go_at_call 31; refine (rsame_any R C R C A B n c m d xs xs _ (HX.out.up hbw0) hn hc (HY.out.up hbw0) hm hd).mono ?_; rintro ee w1 ⟨rfl, hb1⟩; rw [HT.out]; clear x0 x1 x2 y0 y1 y2; have x3 := (HB0.out.up hb1).cell 3 (v := .int .i64 row) rfl; have x4 := (HB0.out.up hb1).cell 4 (v := .int .i64 col) rfl; have x5 := (HB0.out.up hb1).cell 5 (v := .bool hid) rfl; have y3 := (HB1.out.up hb1).cell 3 (v := .int .i64 row) rfl; have y4 := (HB1.out.up hb1).cell 4 (v := .int .i64 col) rfl; have y5 := (HB1.out.up hb1).cell 5 (v := .bool hid) rfl; have HB01 := Lib.hid (Bw.trans hbw0 hb1); clear hb1)
  | fail)
 go_ret
 exact ⟨by first | rfl | (cases hid <;> rfl) | (cases hid <;> simp), HB01.out⟩
end Go.Proofs.YtmkpefielfinjaaDoor

/- The law ComposeLines. -/
namespace Go.Proofs.YtmkpefielfinjaaDoor
open Go.RowKit

end Go.Proofs.YtmkpefielfinjaaDoor

/- Compose: what made returns: a list of statuses. -/
namespace Go.Proofs.YtmkpefielfinjaaDoor
open Go.RowKit

def stV (s : St) : List Value := [.string s.1, .int .i64 s.2.1, .int .i64 s.2.2.1, .int .i64 s.2.2.2]
def flatS (sts : List St) : List Value := sts.flatMap stV
theorem flatS_cons (s : St) (sts : List St) : flatS (s :: sts) = stV s ++ flatS sts := by unfold flatS; rw [List.flatMap_cons]
theorem flatS_app (a b : List St) : flatS (a ++ b) = flatS a ++ flatS b := by unfold flatS; rw [List.flatMap_append]
theorem flatS_len : ∀ sts : List St, (flatS sts).length = sts.length * 4
 | [] => rfl
 | s :: t => by rw [flatS_cons, List.length_append, flatS_len t, List.length_cons]; simp [stV]; omega
theorem flatS_get : ∀ (sts : List St) (i j : Nat) (h : i < sts.length), j < 4 → (flatS sts)[i * 4 + j]? = (stV sts[i])[j]?
 | s :: t, 0, j, _, hj => by
  rw [flatS_cons, List.getElem?_append_left (by simp [stV]; omega)]
  simp
 | s :: t, i + 1, j, h, hj => by
  rw [flatS_cons, List.getElem?_append_right (by simp [stV]; omega), show (i + 1) * 4 + j - (stV s).length = i * 4 + j by simp [stV]; omega, flatS_get t i j (by simpa using h) hj]
  rfl
theorem RS.of_own {w : World} {base : Nat} {e : TypeId} {A : Option Addr} {n c m : Nat} {sts : List St} (h : w.ownsRow base e 4 (.slice A n c) m (flatS sts)) : RS w A n sts := by
 have hl := h.1
 rw [flatS_len] at hl
 rcases h.2 with ⟨e1, h0⟩ | ⟨g, cap, cur, e1, _, hh, hnc, hm, _, htake⟩
 ·cases e1
  exact ⟨by omega, fun h1 => absurd h1 (by omega)⟩
 ·cases e1
  refine ⟨by omega, fun h0 => ⟨g, 0, rfl, fun i hi => ?_⟩⟩
  have key : ∀ j, (hj : j < 4) → w.cell? ⟨g, 0 + i * 4 + j, none⟩ = (stV sts[i])[j]? := fun j hj => by
   rw [← flatS_get sts i j hi hj]
   have hlt : i * 4 + j < (flatS sts).length := by rw [flatS_len]; omega
   have := h.cells (g := g) rfl (i * 4 + j) _ (List.getElem?_eq_getElem hlt)
   rw [List.getElem?_eq_getElem hlt, Nat.zero_add]
   rw [Addr.add_mid, Nat.zero_add] at this
   exact this
  exact ⟨key 0 (by omega), key 1 (by omega), key 2 (by omega), key 3 (by omega)⟩
def stSm (s : St) : Prop := s.1.size = 1 ∧ (0 ≤ s.2.1 ∧ s.2.1 < 11) ∧ (0 ≤ s.2.2.1 ∧ s.2.2.1 < 20) ∧ 0 ≤ s.2.2.2 ∧ s.2.2.2 < 3
theorem stSm.ok {s : St} (h : stSm s) : stOk s := by obtain ⟨h1, h2, h3, h4⟩ := h; exact ⟨by omega, by omega, by omega⟩
theorem grown_own {w w1 w2 : World} {r : Option Nat} {e : TypeId} {s n : Nat} {v : Value} {xs : List Value} (h : w.grownBy w1 r) (ho : w1.ownsRow w.heap.size e s v n xs) (hg : w1.grownBy w2 v.ownBlock) : w.grownBy w2 r :=
 ⟨hg.os.trans h.os, hg.tape.trans h.tape, hg.output.trans h.output, Nat.le_trans h.size hg.size, fun k hk hne => (hg.block k (Nat.lt_of_lt_of_le hk h.size) (fun e => by have := (ho.lt k e.symm).1; omega)).trans (h.block k hk hne)⟩
theorem infoSt : (Tryd.prog.info? 23).map (fun i => (i.zero, i.size, i.bytes)) = some (some (.agg #[.string ⟨#[]⟩, .int .i64 0, .int .i64 0, .int .i64 0]), 4, 40) := by kernel_rfl
theorem stV_one (s : St) : ∀ u ∈ stV s, u.oneCell' = true := by
 intro u hu
 simp only [stV, List.mem_cons, List.not_mem_nil, or_false] at hu
 rcases hu with rfl | rfl | rfl | rfl <;> rfl

set_option maxRecDepth 100000 in
set_option maxHeartbeats 2000000 in
theorem mname_dk2 (b : Nat) (A : Option Addr) (n c : Nat) (xs : List Int) (w : World) (hD : Dk2 w b A n c xs) :
  Calls Tryd.prog 26 #[.pointer (some ⟨b, 0, none⟩)] w fun e w' => ∃ s : ByteArray, e = .returned (.string s) ∧ s.size = 1 ∧ Dk2 w' b A n c xs ∧ w.grownBy w' (some b) := by
 have hbz := hD.1.1
 have HD := Lib.hid hD
 clear hD
 have hpick := fun v h0 h1 => lit_pick (f := Value.string) w 9 #[.string ⟨#[97]⟩, .string ⟨#[98]⟩, .string ⟨#[99]⟩, .string ⟨#[100]⟩, .string ⟨#[120]⟩] [⟨#[97]⟩, ⟨#[98]⟩, ⟨#[99]⟩, ⟨#[100]⟩, ⟨#[120]⟩] rfl (fun s => s.size = 1) (by intro x hx; simp only [List.mem_cons, List.not_mem_nil, or_false] at hx; rcases hx with rfl | rfl | rfl | rfl | rfl <;> rfl) v h0 h1
 have HPK := Lib.hid hpick
 clear hpick
 go_enter Tryd.func26, Tryd.ntmps26
 go_wp2_with (first
  | (go_at_call 25; refine (mnext_dk2 b A n c 5 xs _ (by exact HD.out.up BWX) (by omega) (by omega)).mono ?_; rintro e w1 ⟨v, rfl, v0, v1, hD1, hg1⟩; obtain ⟨s, hs, hx⟩ := HPK.out v v0 (by show v < 5; omega); have hx1 := (grown_cell hg1 (p := ⟨w.heap.size, v.toNat, none⟩) (by rw [heapsz]; exact Nat.lt_succ_self _) (by dsimp only; omega)).trans hx; clear hx)
  | fail)
 go_ret
 exact ⟨s, rfl, hs, hD1, grown_trans (grown_bw (show Bw w (w.alloc _) from BWX) _) hg1⟩

set_option maxRecDepth 100000 in
set_option maxHeartbeats 2000000 in
theorem made30_dk (b : Nat) (A : Option Addr) (n c : Nat) (xs : List Int) (w : World) (hD : Dk2 w b A n c xs) :
  Calls Tryd.prog 14 #[.pointer (some ⟨b, 0, none⟩)] w fun e w' => ∃ (As : Option Addr) (ns cs : Nat) (sts : List St), e = .returned (.slice As ns cs) ∧ RS w' As ns sts ∧ ns ≤ cs ∧ cs ≤ 9223372036854775807 ∧ ns ≤ 6 ∧ (∀ s ∈ sts, stSm s) ∧ (∀ ad, As = some ad → w.heap.size ≤ ad.block) ∧ Dk2 w' b A n c xs ∧ w.grownBy w' (some b) := by
 have hbz := hD.1.1
 obtain ⟨j0, hj, hj0, hj1, hj2⟩ := info_parts infoSt
 have HD := Lib.hid hD
 clear hD
 go_enter Tryd.func14, Tryd.ntmps14
 go_wp2_with (first
  | (go_at_call 25; refine (mnext_dk2 b A n c 7 xs _ (by exact HD.out) (by omega) (by omega)).mono ?_; rintro e w1 ⟨v, rfl, v0, v1, hD1, hg1⟩)
  | fail)
 obtain ⟨v, rfl⟩ : ∃ v' : Nat, v = v' := ⟨v.toNat, by omega⟩
 go_loopw [3, 4] (fun s3 i wr => ∃ (sts : List St) (k : Nat), i = .int .i64 (k : Int) ∧ k + sts.length ≤ 6 ∧ wr.ownsRow w.heap.size 23 4 s3 sts.length (flatS sts) ∧ (∀ s ∈ sts, stSm s) ∧ Dk2 wr b A n c xs ∧ w.grownBy wr (some b)) (fun _ i _ => (intOf i).toNat)
 case atStart => exact ⟨[], v, rfl, by simp; omega, World.ownsRow_nil _ _ _ _, by simp, hD1, hg1⟩
 case round =>
  obtain ⟨sts, k, rfl, hk, hown, hsm, hDr, hgr⟩ := hrel
  obtain ⟨A3, c3, rfl, hc3, hc3m⟩ := own_form hown
  have HO := Lib.hid hown
  have HSM := Lib.hid hsm
  have HDr := Lib.hid hDr
  have HGr := Lib.hid hgr
  have hzr := hgr.size
  obtain ⟨m, hm⟩ : ∃ m, m = sts.length := ⟨_, rfl⟩
  rw [← hm] at hk HO hc3 ⊢
  have HM := Lib.hid hm
  clear hown hsm hDr hgr hD1 hg1 hm
  by_cases hlt : 0 < k
  ·go_wp2_with (first
    | (go_at_call 26; refine (mname_dk2 b A n c xs _ (by exact HDr.out)).mono ?_; rintro ee w2 ⟨s, rfl, hss, hD2, hg2⟩; have HD2 := Lib.hid hD2; have HO2 := Lib.hid (own_deck HO.out hg2 (by omega)); have HG2 := Lib.hid (grown_trans HGr.out hg2); clear hD2 hg2)
    | (go_at_call 25; refine (mnext_dk2 b A n c _ xs _ (by exact HD2.out) (by omega) (by omega)).mono ?_; rintro e w3 ⟨p, rfl, p0, p1, hD3, hg3⟩; have HD3 := Lib.hid hD3; have HO3 := Lib.hid (own_deck HO2.out hg3 (by omega)); have HG3 := Lib.hid (grown_trans HG2.out hg3); clear hD3 hg3 HD2)
    | (go_at_call 25; refine (mnext_dk2 b A n c _ xs _ (by exact HD3.out) (by omega) (by omega)).mono ?_; rintro e w4 ⟨q, rfl, q0, q1, hD4, hg4⟩; have HD4 := Lib.hid hD4; have HO4 := Lib.hid (own_deck HO3.out hg4 (by omega)); have HG4 := Lib.hid (grown_trans HG3.out hg4); clear hD4 hg4 HD3)
    | (go_at_call 25; refine (mnext_dk2 b A n c _ xs _ (by exact HD4.out) (by omega) (by omega)).mono ?_; rintro e w5 ⟨r, rfl, r0, r1, hD5, hg5⟩; have hz5 := (grown_trans HG4.out hg5).size; have HD5 := Lib.hid hD5; have HO5 := Lib.hid (own_deck HO4.out hg5 (by omega)); have HG5 := Lib.hid (grown_trans HG4.out hg5); clear hD5 hg5 HD4)
    | (at_builtin; refine wpList_append_srcG (by rfl) (.tmp 11) (.tmp 21) 35 rfl w.heap.size 23 j0 (.agg #[.string ⟨#[]⟩, .int .i64 0, .int .i64 0, .int .i64 0]) 4 40 Tryd.underlying35 hj hj0 hj1 hj2 rfl (by decide) (.slice A3 m c3) m _ (by rfl) (HO5.out.alloc _) (some ⟨_, 0, none⟩) 1 1 (stV (s, p, q, r)) (by rfl) rfl (fun e => by cases e) (fun ad e => by cases e; exact news4 (heap_alloc_new _ _) rfl) (stV_one _) (by unfold maxLen; omega) (by omega) (by rw [heapsz]; omega) ?_; intro v6 w6 hown6 hg6; have HO6 := Lib.hid hown6; have HG6 := Lib.hid (grown_own (grown_trans HG5.out (grown_bw (show Bw w5 (w5.alloc _) from BWX) _)) (HO5.out.alloc _) hg6); have HD6 := Lib.hid ((HD5.out.up (show Bw w5 (w5.alloc _) from BWX)).row (HO5.out.alloc _) hg6 (by omega)); clear hown6 hg6)
    | fail)
   go_roundw
   case rel =>
    refine ⟨sts ++ [(s, p, q, r)], k - 1, by go_num, ?_, ?_, ?_, HD6.out, HG6.out⟩
    ·rw [List.length_append, List.length_singleton, ← HM.out]; omega
    ·rw [List.length_append, List.length_singleton, ← HM.out, flatS_app, show flatS [(s, p, q, r)] = stV (s, p, q, r) by simp [flatS]]
     exact HO6.out
    ·intro y hy
     rcases List.mem_append.1 hy with hy | hy
     ·exact HSM.out y hy
     ·simp only [List.mem_singleton] at hy
      subst hy
      exact ⟨hss, ⟨p0, p1⟩, ⟨q0, q1⟩, r0, r1⟩
   case measure => simp [intOf]; omega
  ·obtain rfl : k = 0 := by omega
   go_wp2_with fail
   go_ret
   have h9 := HO.out
   exact ⟨A3, m, c3, sts, rfl, RS.of_own h9, hc3, hc3m, by omega, HSM.out, own_new h9, HDr.out, HGr.out⟩
end Go.Proofs.YtmkpefielfinjaaDoor

/- The reference's View. -/
namespace Go.Proofs.YtmkpefielfinjaaDoor
open Go.RowKit

set_option maxRecDepth 100000 in
set_option maxHeartbeats 2000000 in
theorem rpane_any (t : Trm) (w : World) : Calls Tryd.prog 15 #[.agg t.vals.toArray] w fun e w' => e = .returned (.agg #[.int .i64 (t.s.Rn : Int), .int .i64 (t.s.Cn : Int), .slice t.s.A t.s.n t.s.c, .int .i64 t.s.row, .int .i64 t.s.col, .bool t.s.hid]) ∧ Bw w w' := by
 go_enter Tryd.func15, Tryd.ntmps15
 go_upto_region 1 with (fail)
 generalize hw0 : (w.alloc (.cells t.vals.toArray 55)).alloc _ = w0
 obtain ⟨hb0, hb1, hbw0, hz0⟩ := sb2 hw0
 have HB0 := Lib.hid hb0
 have HB1 := Lib.hid (show ∃ old, Sb w0 (w.heap.size + 1) old 34 ∧ old.size = 6 from ⟨_, hb1, rfl⟩)
 clear hw0 hb0 hb1
 have x0 := HB0.out.cell 0 (v := .int .i64 (t.s.Rn : Int)) rfl
 have x1 := HB0.out.cell 1 (v := .int .i64 (t.s.Cn : Int)) rfl
 have x2 := HB0.out.cell 2 (v := .slice t.s.A t.s.n t.s.c) rfl
 have x3 := HB0.out.cell 3 (v := .int .i64 t.s.row) rfl
 have x4 := HB0.out.cell 4 (v := .int .i64 t.s.col) rfl
 have x5 := HB0.out.cell 5 (v := .bool t.s.wrap) rfl
 have x17 := HB0.out.cell 17 (v := .bool t.s.hid) rfl
 have hlz := HB0.out.lt
 go_wp2_with (first
  | ((with_reducible refine wpList_store_vw (t.s.Rn : Int) (t.s.Cn : Int) t.s.A t.s.n t.s.c t.s.row t.s.col t.s.hid (w.heap.size + 1) (.tmp 2) (.tmp 17) rfl rfl ?_ ?_ ?_ ?_); (focus rfl); (focus rfl); (focus (exact Exists.elim HB1.out (fun old h => ⟨old, h.1.up BWX, h.2⟩))); intro w5 hS5 hg5; have HS5 := Lib.hid hS5; have HG5 := Lib.hid hg5; clear hS5 hg5)
  | fail)
 refine bodyPost_ret (results_vw rfl _ _ (w.heap.size + 1) (t.s.Rn : Int) (t.s.Cn : Int) t.s.A t.s.n t.s.c t.s.row t.s.col t.s.hid (by rfl) HS5.out) rfl ?_
 exact ⟨rfl, Bw.grown (show Bw w _ from BWX) HG5.out (fun k hk => by cases hk; omega)⟩
end Go.Proofs.YtmkpefielfinjaaDoor
