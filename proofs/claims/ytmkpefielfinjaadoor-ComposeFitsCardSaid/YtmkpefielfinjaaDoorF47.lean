/- Parts of the proof, one after the other. -/
import Derived.Test.YtmkpefielfinjaaDoorF45
import Derived.Test.YtmkpefielfinjaaDoorF46
import Derived.Test.YtmkpefielfinjaaDoorF37
set_option linter.unusedSimpArgs false
set_option linter.unusedVariables false
/- Compose: the sanity check. -/
namespace Go.Proofs.YtmkpefielfinjaaDoor
open Go.RowKit

theorem lineL_head (s : ByteArray) (p inc runs : Int) : ∃ t, lineL s p inc runs true = 62 :: t := ⟨_, rfl⟩
theorem line_sane : bs (lineL ⟨#[119, 101, 98]⟩ 4 3 0 true) = ⟨#[62, 32, 119, 101, 98, 32, 114, 101, 97, 100, 121, 32, 35, 51]⟩ := by
  have h1 : Lib.itoa 3 = [51] := dig_small 3 (by omega) (by omega)
  have h2 : (wordB 4).data.toList = [114, 101, 97, 100, 121] := rfl
  have h3 : nameL ⟨#[119, 101, 98]⟩ = [119, 101, 98] := by decide
  unfold lineL
  rw [h1, h2, h3]
  rfl
def sts0 : List St := [(⟨#[97]⟩, 4, 0, 0)]
theorem view0 : viewB 0 0 [] 0 0 = false := by decide
theorem comp_sane0 : (composeC 3 4 sts0 0 (viewB 0 0 [] 0 0) 0 0 []).getD 0 blk = (62, 4, 0, 0) := by
  unfold composeC
  rw [view0, if_neg (by simp), baseC_at 3 4 sts0 0 (by omega) (by omega) 0 (by omega)]
  show baseF 1 sts0 0 0 0 0 = _
  unfold baseF
  rw [if_pos (by omega)]
  unfold jobF
  obtain ⟨t, ht⟩ := lineL_head ⟨#[97]⟩ 4 0 0
  have e : lineS (sts0.getD (0 + 0) st0) (decide (0 + 0 = 0)) = 62 :: t := ht
  rw [e]
  rfl
theorem comp_sane4 : (composeC 3 4 sts0 0 (viewB 0 0 [] 0 0) 0 0 []).getD 4 blk = (45, 0, 0, 0) := by
  unfold composeC
  rw [view0, if_neg (by simp), baseC_at 3 4 sts0 0 (by omega) (by omega) 4 (by omega)]
  rfl
theorem comp_len0 : (composeC 3 4 sts0 0 (viewB 0 0 [] 0 0) 0 0 []).length = 12 := by
  unfold composeC
  rw [view0, if_neg (by simp), baseC_len]

set_option maxRecDepth 100000 in
set_option maxHeartbeats 2000000 in
theorem sane30_any (w : World) (hT : WordT w) (hP : PowT w.heap.size w) : Calls Tryd.prog 7 #[] w fun e w' => e = .returned (.bool true) ∧ Bw w w' := by
  have HT := Lib.hid hT
  have HP := Lib.hid hP
  clear hT hP
  have hcu : ∀ n : Nat, curB 3 4 n (viewB 0 0 [] 0 0) 0 0 false = false := fun n => by rw [view0]; rfl
  have HCU := Lib.hid hcu
  clear hcu
  go_enter Tryd.func7, Tryd.ntmps7
  go_wp2_with (first
    | (go_at_call 18; refine (compose_any 3 4 (some ⟨w.heap.size, 0, none⟩) 1 1 sts0 0 0 0 none 0 0 [] 0 0 false _ ⟨rfl, fun _ => ⟨_, 0, rfl, fun i hi => by obtain rfl : i = 0 := (by have : i < 1 := hi; omega); exact ⟨CELX, CELX, CELX, CELX⟩⟩⟩ (by omega) (by omega) (by intro s hs; simp only [sts0, List.mem_singleton] at hs; subst hs; exact ⟨by decide, by decide, by decide⟩) (Rg.nil_ _ _) (by omega) (by omega) (by omega) (HT.out.up BWX) (PowT.up30 HP.out (show Bw w _ from BWX))).mono ?_; rintro ee w1 ⟨g, Rn, Cn, hRn, hCn, hgz, hb1, hW, rfl⟩; obtain rfl : Rn = 3 := hRn.trans rfl; obtain rfl : Cn = 4 := hCn.trans rfl; rw [HCU.out]; have hl := comp_len0; have q0 := (hW.cells 0 (by omega)).1; have q4 := (hW.cells 4 (by omega)).1; have e0 := comp_sane0; have e4 := comp_sane4; rw [List.getD_eq_getElem?_getD, List.getElem?_eq_getElem (by omega)] at e0 e4; simp only [Option.getD_some] at e0 e4; rw [e0] at q0; rw [e4] at q4; dsimp only at q0 q4; simp only [Nat.zero_mul] at q0; have hgl := hW.lt; have HB1 := Lib.hid (Bw.trans (show Bw w (w.alloc _) from BWX) hb1); clear hW e0 e4 hl hb1 hRn hCn)
    | (go_at_call 11; refine (line_any ⟨#[119, 101, 98]⟩ 4 3 0 true _ (by decide) (by omega) (by omega) (by omega) (by omega) (HT.out.up (Bw.trans HB1.out BWX)) (PowT.up30 HP.out (Bw.trans HB1.out BWX))).mono ?_; rintro ee w2 ⟨rfl, hb2⟩; rw [line_sane]; have x2 := cell_bw hb2 (cell_alloc_here (w := w1) (g := w1.heap.size) (i := 2) (v := .slice (some ⟨g, 0, none⟩) 12 12) rfl rfl); have x5 := cell_bw hb2 (cell_alloc_here (w := w1) (g := w1.heap.size) (i := 5) (v := .bool true) rfl rfl); have p0 := cell_bw hb2 (cell_alloc_some q0 _); have p4 : w2.cell? ⟨g, 16, none⟩ = some (.int .i64 45) := cell_bw hb2 (cell_alloc_some q4 _))
    | fail)
  go_ret
  exact ⟨rfl, Bw.trans HB1.out (Bw.trans (show Bw w1 (w1.alloc _) from BWX) hb2)⟩
end Go.Proofs.YtmkpefielfinjaaDoor

/- Compose: the cells of a view with a pane. -/
namespace Go.Proofs.YtmkpefielfinjaaDoor
open Go.RowKit

/-- The cells when the pane is valid. -/
def compV (Rn Cn : Nat) (sts : List St) (shown : Int) (pR pC : Nat) (ps : List C4) : List C4 :=
  paneC Cn (kkN sts.length Rn) pC ps (min (Rn - kkN sts.length Rn - 1) pR) (baseC Rn Cn sts shown)
theorem compV_len (Rn Cn : Nat) (sts : List St) (shown : Int) (pR pC : Nat) (ps : List C4) (hR : 1 ≤ Rn) (hp : ps.length = pR * pC) : (compV Rn Cn sts shown pR pC ps).length = Rn * Cn := by
  have hk := kk_lt sts.length hR
  unfold compV
  rw [paneC_len Rn Cn _ pR pC ps _ (baseC_len Rn Cn sts shown) hp _ (by omega) (by omega), baseC_len]
theorem compV_at (Rn Cn : Nat) (sts : List St) (shown : Int) (pR pC : Nat) (ps : List C4) (hR : 1 ≤ Rn) (hC : 1 ≤ Cn) (hp : ps.length = pR * pC) (r c : Nat) (hr : r < Rn) (hc : c < Cn) :
    (compV Rn Cn sts shown pR pC ps).getD (r * Cn + c) blk = if kkN sts.length Rn + 1 ≤ r ∧ r < kkN sts.length Rn + 1 + min (Rn - kkN sts.length Rn - 1) pR ∧ c < min pC Cn then ps.getD ((r - (kkN sts.length Rn + 1)) * pC + c) blk
      else baseF (kkN sts.length Rn) sts (firstN (kkN sts.length Rn) (shN sts.length shown)) (shN sts.length shown) r c := by
  have hk := kk_lt sts.length hR
  have q := Nat.mul_le_mul_right Cn (show r + 1 ≤ Rn by omega)
  rw [Nat.add_mul, Nat.one_mul] at q
  have d1 : (r * Cn + c) / Cn = r := by rw [Nat.mul_comm, Nat.mul_add_div (by omega), Nat.div_eq_of_lt hc, Nat.add_zero]
  have d2 : (r * Cn + c) % Cn = c := by rw [Nat.mul_comm, Nat.mul_add_mod, Nat.mod_eq_of_lt hc]
  unfold compV
  rw [paneC_at Rn Cn _ pR pC ps _ (by omega) (baseC_len Rn Cn sts shown) hp _ (by omega) (by omega) (r * Cn + c) (by omega), d1, d2, baseC_at Rn Cn sts shown (by omega) (by omega) (r * Cn + c) (by omega), d1, d2]
theorem compV_grid (Rn Cn : Nat) (sts : List St) (shown : Int) (pR pC : Nat) (ps : List C4) (h1 : 1 ≤ Rn) (h2 : Rn ≤ 30) (h3 : 1 ≤ Cn) (h4 : Cn ≤ 100) (hp : ps.length = pR * pC) (hv : ps.all cellB = true) : gridB (Rn : Int) (Cn : Int) (compV Rn Cn sts shown pR pC ps) = true := by
  have hl := compV_len Rn Cn sts shown pR pC ps h1 hp
  unfold gridB
  rw [Bool.and_eq_true]
  refine ⟨decide_eq_true ⟨by omega, by omega, by omega, by omega, by rw [hl]; exact Int.natCast_mul _ _⟩, ?_⟩
  rw [List.all_eq_true]
  intro x hx
  obtain ⟨i, hi, rfl⟩ := List.getElem_of_mem hx
  have hi2 : i < Rn * Cn := by rw [← hl]; exact hi
  have hdm := Nat.div_add_mod i Cn
  have hmm := Nat.mod_lt i (show 0 < Cn by omega)
  have hdl : i / Cn < Rn := (Nat.div_lt_iff_lt_mul (by omega)).mpr hi2
  have e := compV_at Rn Cn sts shown pR pC ps h1 h3 hp (i / Cn) (i % Cn) hdl hmm
  rw [Nat.mul_comm, hdm, List.getD_eq_getElem?_getD, List.getElem?_eq_getElem hi] at e
  simp only [Option.getD_some] at e
  rw [e]
  split
  · rename_i h
    rw [List.all_eq_true] at hv
    have hlt : (i / Cn - (kkN sts.length Rn + 1)) * pC + i % Cn < ps.length := by
      have q := Nat.mul_le_mul_right pC (show i / Cn - (kkN sts.length Rn + 1) + 1 ≤ pR by omega)
      rw [Nat.add_mul, Nat.one_mul] at q
      rw [hp]
      omega
    rw [List.getD_eq_getElem?_getD, List.getElem?_eq_getElem hlt]
    exact hv _ (List.getElem_mem hlt)
  · exact (baseF_ok _ _ _ _ _ _).1
theorem lineL_sp (s : ByteArray) (p inc runs : Int) : ∃ t, lineL s p inc runs false = 32 :: t := ⟨_, rfl⟩
/-- The first cell of a job's row. -/
theorem compV_mark (Rn Cn : Nat) (sts : List St) (shown : Int) (pR pC : Nat) (ps : List C4) (hR : 1 ≤ Rn) (hC : 1 ≤ Cn) (hp : ps.length = pR * pC) (r : Nat) (hr : r < kkN sts.length Rn) :
    ((compV Rn Cn sts shown pR pC ps).getD (r * Cn) blk).1 = if firstN (kkN sts.length Rn) (shN sts.length shown) + r = shN sts.length shown then 62 else 32 := by
  have hk := kk_lt sts.length hR
  have e := compV_at Rn Cn sts shown pR pC ps hR hC hp r 0 (by omega) (by omega)
  rw [Nat.add_zero] at e
  rw [e, if_neg (by omega)]
  unfold baseF
  rw [if_pos hr]
  unfold jobF
  by_cases h : firstN (kkN sts.length Rn) (shN sts.length shown) + r = shN sts.length shown
  · obtain ⟨t, ht⟩ := lineL_head (sts.getD (firstN (kkN sts.length Rn) (shN sts.length shown) + r) st0).1 (sts.getD (firstN (kkN sts.length Rn) (shN sts.length shown) + r) st0).2.1 (sts.getD (firstN (kkN sts.length Rn) (shN sts.length shown) + r) st0).2.2.1 (sts.getD (firstN (kkN sts.length Rn) (shN sts.length shown) + r) st0).2.2.2
    have e2 : lineS (sts.getD (firstN (kkN sts.length Rn) (shN sts.length shown) + r) st0) (decide (firstN (kkN sts.length Rn) (shN sts.length shown) + r = shN sts.length shown)) = 62 :: t := by rw [decide_eq_true h]; exact ht
    rw [e2]
    simp only [if_pos h]
    rfl
  · obtain ⟨t, ht⟩ := lineL_sp (sts.getD (firstN (kkN sts.length Rn) (shN sts.length shown) + r) st0).1 (sts.getD (firstN (kkN sts.length Rn) (shN sts.length shown) + r) st0).2.1 (sts.getD (firstN (kkN sts.length Rn) (shN sts.length shown) + r) st0).2.2.1 (sts.getD (firstN (kkN sts.length Rn) (shN sts.length shown) + r) st0).2.2.2
    have e2 : lineS (sts.getD (firstN (kkN sts.length Rn) (shN sts.length shown) + r) st0) (decide (firstN (kkN sts.length Rn) (shN sts.length shown) + r = shN sts.length shown)) = 32 :: t := by rw [decide_eq_false h]; exact ht
    rw [e2]
    simp only [if_neg h]
    rfl
theorem compV_rule (Rn Cn : Nat) (sts : List St) (shown : Int) (pR pC : Nat) (ps : List C4) (hR : 1 ≤ Rn) (hC : 1 ≤ Cn) (hp : ps.length = pR * pC) (c : Nat) (hc : c < Cn) :
    (compV Rn Cn sts shown pR pC ps).getD (kkN sts.length Rn * Cn + c) blk = (45, 0, 0, 0) := by
  have hk := kk_lt sts.length hR
  rw [compV_at Rn Cn sts shown pR pC ps hR hC hp _ c (by omega) hc, if_neg (by omega)]
  unfold baseF
  rw [if_neg (by omega), if_pos rfl]
theorem compV_pane (Rn Cn : Nat) (sts : List St) (shown : Int) (pR pC : Nat) (ps : List C4) (hR : 1 ≤ Rn) (hC : 1 ≤ Cn) (hp : ps.length = pR * pC) (r c : Nat) (hr : r < pR) (hrR : kkN sts.length Rn + 1 + r < Rn) (hc : c < Cn) (hc2 : c < pC) :
    (compV Rn Cn sts shown pR pC ps).getD ((kkN sts.length Rn + 1 + r) * Cn + c) blk = ps.getD (r * pC + c) blk := by
  rw [compV_at Rn Cn sts shown pR pC ps hR hC hp _ c hrR hc, if_pos (by omega), show kkN sts.length Rn + 1 + r - (kkN sts.length Rn + 1) = r by omega]
def mkN (ff sh j : Nat) : Nat := if ff ≤ sh ∧ sh < ff + j then 1 else 0
theorem mkN_hit {ff sh j : Nat} (h : ff + j = sh) : mkN ff sh (j + 1) = mkN ff sh j + 1 := by unfold mkN; rw [if_pos (by omega), if_neg (by omega)]
theorem mkN_miss {ff sh j : Nat} (h : ff + j ≠ sh) : mkN ff sh (j + 1) = mkN ff sh j := by
  unfold mkN
  by_cases h2 : ff ≤ sh ∧ sh < ff + j
  · rw [if_pos (by omega), if_pos h2]
  · rw [if_neg (by omega), if_neg h2]
end Go.Proofs.YtmkpefielfinjaaDoor

/- Compose: what made returns: a list of statuses. -/
namespace Go.Proofs.YtmkpefielfinjaaDoor
open Go.RowKit

def stV (s : St) : List Value := [.string s.1, .int .i64 s.2.1, .int .i64 s.2.2.1, .int .i64 s.2.2.2]
def flatS (sts : List St) : List Value := sts.flatMap stV
theorem flatS_cons (s : St) (sts : List St) : flatS (s :: sts) = stV s ++ flatS sts := by unfold flatS; rw [List.flatMap_cons]
theorem flatS_app (a b : List St) : flatS (a ++ b) = flatS a ++ flatS b := by unfold flatS; rw [List.flatMap_append]
theorem flatS_len : ∀ sts : List St, (flatS sts).length = sts.length * 4
  | [] => rfl
  | s :: t => by rw [flatS_cons, List.length_append, flatS_len t, List.length_cons]; simp [stV]; omega
theorem flatS_get : ∀ (sts : List St) (i j : Nat) (h : i < sts.length), j < 4 → (flatS sts)[i * 4 + j]? = (stV sts[i])[j]?
  | s :: t, 0, j, _, hj => by
    rw [flatS_cons, List.getElem?_append_left (by simp [stV]; omega)]
    simp
  | s :: t, i + 1, j, h, hj => by
    rw [flatS_cons, List.getElem?_append_right (by simp [stV]; omega), show (i + 1) * 4 + j - (stV s).length = i * 4 + j by simp [stV]; omega, flatS_get t i j (by simpa using h) hj]
    rfl
theorem RS.of_own {w : World} {base : Nat} {e : TypeId} {A : Option Addr} {n c m : Nat} {sts : List St} (h : w.ownsRow base e 4 (.slice A n c) m (flatS sts)) : RS w A n sts := by
  have hl := h.1
  rw [flatS_len] at hl
  rcases h.2 with ⟨e1, h0⟩ | ⟨g, cap, cur, e1, _, hh, hnc, hm, _, htake⟩
  · cases e1
    exact ⟨by omega, fun h1 => absurd h1 (by omega)⟩
  · cases e1
    refine ⟨by omega, fun h0 => ⟨g, 0, rfl, fun i hi => ?_⟩⟩
    have key : ∀ j, (hj : j < 4) → w.cell? ⟨g, 0 + i * 4 + j, none⟩ = (stV sts[i])[j]? := fun j hj => by
      rw [← flatS_get sts i j hi hj]
      have hlt : i * 4 + j < (flatS sts).length := by rw [flatS_len]; omega
      have := h.cells (g := g) rfl (i * 4 + j) _ (List.getElem?_eq_getElem hlt)
      rw [List.getElem?_eq_getElem hlt, Nat.zero_add]
      rw [Addr.add_mid, Nat.zero_add] at this
      exact this
    exact ⟨key 0 (by omega), key 1 (by omega), key 2 (by omega), key 3 (by omega)⟩
def stSm (s : St) : Prop := s.1.size = 1 ∧ (0 ≤ s.2.1 ∧ s.2.1 < 11) ∧ (0 ≤ s.2.2.1 ∧ s.2.2.1 < 20) ∧ 0 ≤ s.2.2.2 ∧ s.2.2.2 < 3
theorem stSm.ok {s : St} (h : stSm s) : stOk s := by obtain ⟨h1, h2, h3, h4⟩ := h; exact ⟨by omega, by omega, by omega⟩
theorem grown_own {w w1 w2 : World} {r : Option Nat} {e : TypeId} {s n : Nat} {v : Value} {xs : List Value} (h : w.grownBy w1 r) (ho : w1.ownsRow w.heap.size e s v n xs) (hg : w1.grownBy w2 v.ownBlock) : w.grownBy w2 r :=
  ⟨hg.os.trans h.os, hg.tape.trans h.tape, hg.output.trans h.output, Nat.le_trans h.size hg.size, fun k hk hne => (hg.block k (Nat.lt_of_lt_of_le hk h.size) (fun e => by have := (ho.lt k e.symm).1; omega)).trans (h.block k hk hne)⟩
theorem infoSt : (Tryd.prog.info? 23).map (fun i => (i.zero, i.size, i.bytes)) = some (some (.agg #[.string ⟨#[]⟩, .int .i64 0, .int .i64 0, .int .i64 0]), 4, 40) := by kernel_rfl
theorem stV_one (s : St) : ∀ u ∈ stV s, u.oneCell' = true := by
  intro u hu
  simp only [stV, List.mem_cons, List.not_mem_nil, or_false] at hu
  rcases hu with rfl | rfl | rfl | rfl <;> rfl

set_option maxRecDepth 100000 in
set_option maxHeartbeats 2000000 in
theorem mname_dk2 (b : Nat) (A : Option Addr) (n c : Nat) (xs : List Int) (w : World) (hD : Dk2 w b A n c xs) :
    Calls Tryd.prog 26 #[.pointer (some ⟨b, 0, none⟩)] w fun e w' => ∃ s : ByteArray, e = .returned (.string s) ∧ s.size = 1 ∧ Dk2 w' b A n c xs ∧ w.grownBy w' (some b) := by
  have hbz := hD.1.1
  have HD := Lib.hid hD
  clear hD
  have hpick := fun v h0 h1 => lit_pick (f := Value.string) w 9 #[.string ⟨#[97]⟩, .string ⟨#[98]⟩, .string ⟨#[99]⟩, .string ⟨#[100]⟩, .string ⟨#[120]⟩] [⟨#[97]⟩, ⟨#[98]⟩, ⟨#[99]⟩, ⟨#[100]⟩, ⟨#[120]⟩] rfl (fun s => s.size = 1) (by intro x hx; simp only [List.mem_cons, List.not_mem_nil, or_false] at hx; rcases hx with rfl | rfl | rfl | rfl | rfl <;> rfl) v h0 h1
  have HPK := Lib.hid hpick
  clear hpick
  go_enter Tryd.func26, Tryd.ntmps26
  go_wp2_with (first
    | (go_at_call 25; refine (mnext_dk2 b A n c 5 xs _ (by exact HD.out.up BWX) (by omega) (by omega)).mono ?_; rintro e w1 ⟨v, rfl, v0, v1, hD1, hg1⟩; obtain ⟨s, hs, hx⟩ := HPK.out v v0 (by show v < 5; omega); have hx1 := (grown_cell hg1 (p := ⟨w.heap.size, v.toNat, none⟩) (by rw [heapsz]; exact Nat.lt_succ_self _) (by dsimp only; omega)).trans hx; clear hx)
    | fail)
  go_ret
  exact ⟨s, rfl, hs, hD1, grown_trans (grown_bw (show Bw w (w.alloc _) from BWX) _) hg1⟩

set_option maxRecDepth 100000 in
set_option maxHeartbeats 2000000 in
theorem made30_dk (b : Nat) (A : Option Addr) (n c : Nat) (xs : List Int) (w : World) (hD : Dk2 w b A n c xs) :
    Calls Tryd.prog 14 #[.pointer (some ⟨b, 0, none⟩)] w fun e w' => ∃ (As : Option Addr) (ns cs : Nat) (sts : List St), e = .returned (.slice As ns cs) ∧ RS w' As ns sts ∧ ns ≤ cs ∧ cs ≤ 9223372036854775807 ∧ ns ≤ 6 ∧ (∀ s ∈ sts, stSm s) ∧ (∀ ad, As = some ad → w.heap.size ≤ ad.block) ∧ Dk2 w' b A n c xs ∧ w.grownBy w' (some b) := by
  have hbz := hD.1.1
  obtain ⟨j0, hj, hj0, hj1, hj2⟩ := info_parts infoSt
  have HD := Lib.hid hD
  clear hD
  go_enter Tryd.func14, Tryd.ntmps14
  go_wp2_with (first
    | (go_at_call 25; refine (mnext_dk2 b A n c 7 xs _ (by exact HD.out) (by omega) (by omega)).mono ?_; rintro e w1 ⟨v, rfl, v0, v1, hD1, hg1⟩)
    | fail)
  obtain ⟨v, rfl⟩ : ∃ v' : Nat, v = v' := ⟨v.toNat, by omega⟩
  go_loopw [3, 4] (fun s3 i wr => ∃ (sts : List St) (k : Nat), i = .int .i64 (k : Int) ∧ k + sts.length ≤ 6 ∧ wr.ownsRow w.heap.size 23 4 s3 sts.length (flatS sts) ∧ (∀ s ∈ sts, stSm s) ∧ Dk2 wr b A n c xs ∧ w.grownBy wr (some b)) (fun _ i _ => (intOf i).toNat)
  case atStart => exact ⟨[], v, rfl, by simp; omega, World.ownsRow_nil _ _ _ _, by simp, hD1, hg1⟩
  case round =>
    obtain ⟨sts, k, rfl, hk, hown, hsm, hDr, hgr⟩ := hrel
    obtain ⟨A3, c3, rfl, hc3, hc3m⟩ := own_form hown
    have HO := Lib.hid hown
    have HSM := Lib.hid hsm
    have HDr := Lib.hid hDr
    have HGr := Lib.hid hgr
    have hzr := hgr.size
    obtain ⟨m, hm⟩ : ∃ m, m = sts.length := ⟨_, rfl⟩
    rw [← hm] at hk HO hc3 ⊢
    have HM := Lib.hid hm
    clear hown hsm hDr hgr hD1 hg1 hm
    by_cases hlt : 0 < k
    · go_wp2_with (first
        | (go_at_call 26; refine (mname_dk2 b A n c xs _ (by exact HDr.out)).mono ?_; rintro ee w2 ⟨s, rfl, hss, hD2, hg2⟩; have HD2 := Lib.hid hD2; have HO2 := Lib.hid (own_deck HO.out hg2 (by omega)); have HG2 := Lib.hid (grown_trans HGr.out hg2); clear hD2 hg2)
        | (go_at_call 25; refine (mnext_dk2 b A n c _ xs _ (by exact HD2.out) (by omega) (by omega)).mono ?_; rintro e w3 ⟨p, rfl, p0, p1, hD3, hg3⟩; have HD3 := Lib.hid hD3; have HO3 := Lib.hid (own_deck HO2.out hg3 (by omega)); have HG3 := Lib.hid (grown_trans HG2.out hg3); clear hD3 hg3 HD2)
        | (go_at_call 25; refine (mnext_dk2 b A n c _ xs _ (by exact HD3.out) (by omega) (by omega)).mono ?_; rintro e w4 ⟨q, rfl, q0, q1, hD4, hg4⟩; have HD4 := Lib.hid hD4; have HO4 := Lib.hid (own_deck HO3.out hg4 (by omega)); have HG4 := Lib.hid (grown_trans HG3.out hg4); clear hD4 hg4 HD3)
        | (go_at_call 25; refine (mnext_dk2 b A n c _ xs _ (by exact HD4.out) (by omega) (by omega)).mono ?_; rintro e w5 ⟨r, rfl, r0, r1, hD5, hg5⟩; have hz5 := (grown_trans HG4.out hg5).size; have HD5 := Lib.hid hD5; have HO5 := Lib.hid (own_deck HO4.out hg5 (by omega)); have HG5 := Lib.hid (grown_trans HG4.out hg5); clear hD5 hg5 HD4)
        | (at_builtin; refine wpList_append_srcG (by rfl) (.tmp 11) (.tmp 21) 35 rfl w.heap.size 23 j0 (.agg #[.string ⟨#[]⟩, .int .i64 0, .int .i64 0, .int .i64 0]) 4 40 Tryd.underlying35 hj hj0 hj1 hj2 rfl (by decide) (.slice A3 m c3) m _ (by rfl) (HO5.out.alloc _) (some ⟨_, 0, none⟩) 1 1 (stV (s, p, q, r)) (by rfl) rfl (fun e => by cases e) (fun ad e => by cases e; exact news4 (heap_alloc_new _ _) rfl) (stV_one _) (by unfold maxLen; omega) (by omega) (by rw [heapsz]; omega) ?_; intro v6 w6 hown6 hg6; have HO6 := Lib.hid hown6; have HG6 := Lib.hid (grown_own (grown_trans HG5.out (grown_bw (show Bw w5 (w5.alloc _) from BWX) _)) (HO5.out.alloc _) hg6); have HD6 := Lib.hid ((HD5.out.up (show Bw w5 (w5.alloc _) from BWX)).row (HO5.out.alloc _) hg6 (by omega)); clear hown6 hg6)
        | fail)
      go_roundw
      case rel =>
        refine ⟨sts ++ [(s, p, q, r)], k - 1, by go_num, ?_, ?_, ?_, HD6.out, HG6.out⟩
        · rw [List.length_append, List.length_singleton, ← HM.out]; omega
        · rw [List.length_append, List.length_singleton, ← HM.out, flatS_app, show flatS [(s, p, q, r)] = stV (s, p, q, r) by simp [flatS]]
          exact HO6.out
        · intro y hy
          rcases List.mem_append.1 hy with hy | hy
          · exact HSM.out y hy
          · simp only [List.mem_singleton] at hy
            subst hy
            exact ⟨hss, ⟨p0, p1⟩, ⟨q0, q1⟩, r0, r1⟩
      case measure => simp [intOf]; omega
    · obtain rfl : k = 0 := by omega
      go_wp2_with fail
      go_ret
      have h9 := HO.out
      exact ⟨A3, m, c3, sts, rfl, RS.of_own h9, hc3, hc3m, by omega, HSM.out, own_new h9, HDr.out, HGr.out⟩
end Go.Proofs.YtmkpefielfinjaaDoor
