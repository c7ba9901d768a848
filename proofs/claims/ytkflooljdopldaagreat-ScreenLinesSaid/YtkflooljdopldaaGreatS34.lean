/- Parts of the proof, one after the other. -/
import Derived.Test.YtkflooljdopldaaGreatS27
import Derived.Test.YtkflooljdopldaaGreatS33
import Derived.Test.YtkflooljdopldaaGreatS03
import Derived.Test.YtkflooljdopldaaGreatS28
import Derived.Deep.RegionHeld3
set_option linter.unusedSimpArgs false
set_option linter.unusedVariables false
/- A field of a struct value that is known whole. -/
namespace Go.Proofs.YtkflooljdopldaaGreat
open Go.RowKit

theorem field_tw (t : Trm) (w : World) : (Instr.field 42 (.agg t.vals.toArray) 0).run Tryz.prog w = .ok (.agg t.s.vals.toArray) w := by
 cases t
 kernel_rfl
theorem wpList_fieldW {P : Program} {w : World} {ops : Array Oper} {rest : List Oper} {o : Oper} {a : Act} {Q : Exit → Act → World → Prop} (T : TypeId) (i : Nat) (x : Operand) (v r : Value) (ho : o.op = .field T x i) (hgd : o.guard = none)
  (hx : a.eval x = v) (hrun : (Instr.field T v i).run P w = .ok r w) (h : wpList P ops Q rest (a.put o.dst r) w) : wpList P ops Q (o :: rest) a w := by
 refine wpList_plain hgd fun K hK => ?_
 unfold Oper.wp
 unfold execOp
 simp only [ho, hx, Sem.run_bind, Sem.run_pure, hrun, Result.andThen_ok]
 exact hK _ _ h
end Go.Proofs.YtkflooljdopldaaGreat

/- The law ScreenLines. -/
namespace Go.Proofs.YtkflooljdopldaaGreat
open Go.RowKit

theorem wpList_load_scG {ops : Array Oper} {rest : List Oper} {o : Oper} {a : Act} {w : World} {Q : Exit → Act → World → Prop} (s : Scr) (g : Nat) (x : Operand) (ho : o.op = .load 34 x) (hgd : Region.wanted o (yielded ops a.tmps) = true) (hx : a.eval x = .pointer (some ⟨g, 0, none⟩)) (hg : Sb w g s.vals.toArray 34) (h : wpList Tryz.prog ops Q rest (a.put o.dst (.agg s.vals.toArray)) w) : wpList Tryz.prog ops Q (o :: rest) a w := wpList_yes hgd fun _ hK => wp_load_mid 34 x ho g 0 hx s.vals _ (scRange hg) Tryz.underlying34 rfl infoSc (hK _ _ h)
theorem sb_boxed2 {w w2 : World} {cs : Array Value} {T : TypeId} {n : Nat} (h : Bw (w.alloc (.cells cs T)).drew.drew w2) (hs : cs.size = n) : ∃ old, Sb w2 w.heap.size old T ∧ old.size = n := ⟨cs, (show Sb (w.alloc (.cells cs T)).drew.drew w.heap.size cs T from heap_at rfl).up h, hs⟩
theorem fill_at {Rn Cn : Nat} {cs : List C4} {row col : Int} {d : C4} (h : gridB Rn Cn cs = true) (hd : cellB d = true) (hr : 0 ≤ row ∧ row < Rn) (hc : 0 ≤ col ∧ col < Cn) (i : Nat) (hi : i < Rn * Cn) : (fillG Rn Cn cs row col (col + 1) d)[i]? = some (if (i : Int) = row * Cn + col then d else cs.getD i d) := by
 have hC : 0 < Cn := by omega
 obtain ⟨rn, rfl⟩ : ∃ rn : Nat, row = rn := ⟨row.toNat, by omega⟩
 obtain ⟨cn, rfl⟩ : ∃ cn : Nat, col = cn := ⟨col.toNat, by omega⟩
 have hi2 : i / Cn * Cn + i % Cn = i := by rw [Nat.mul_comm]; exact Nat.div_add_mod i Cn
 have hm : i % Cn < Cn := Nat.mod_lt _ hC
 have hq : i / Cn < Rn := Nat.div_lt_of_lt_mul (by rw [Nat.mul_comm]; exact hi)
 unfold fillG
 rw [if_pos ⟨h, hd⟩, Int.toNat_natCast, Int.toNat_natCast, List.getElem?_eq_getElem (by rw [tab_len]; exact hi), tab_get]
 congr 1
 unfold fillF
 by_cases hE : (i : Int) = (rn : Int) * Cn + cn
 ·rw [if_pos hE]
  have hE2 : i = rn * Cn + cn := by rw [← Int.natCast_mul] at hE; omega
  have hp := idx_parts (Cn := Cn) (r := rn) (k := cn) (by omega)
  rw [← hE2] at hp
  rw [hp.1, hp.2, if_pos ⟨rfl, by omega, by omega⟩]
 ·rw [if_neg hE, if_neg ?_]
  ·unfold atF
   rw [if_pos ⟨Int.natCast_nonneg _, Int.ofNat_lt.2 hq, Int.natCast_nonneg _, Int.ofNat_lt.2 hm⟩, Int.toNat_natCast, Int.toNat_natCast, hi2]
  ·rintro ⟨a1, a2, a3⟩
   apply hE
   have a4 : i / Cn = rn := by omega
   have a5 : i % Cn = cn := by omega
   have a6 : i = rn * Cn + cn := by rw [← a4, ← a5]; exact hi2.symm
   rw [a6, Int.natCast_add, Int.natCast_mul]

set_option maxRecDepth 100000 in
set_option maxHeartbeats 1000000 in
theorem lines18_any (A : Option Addr) (n c : Nat) (xs : List Int) (nn : Int) (w : World) (hr : RdI w A n xs) (hA : 0 < n → ∀ ad, A = some ad → ad.block < w.heap.size) (hn : n ≤ 9223372036854775807) :
  Calls Tryz.prog 3 #[.slice A n c, .int .i64 nn] w fun e w' => e = .returned (.bool true) ∧ Bw w w' := by
 have HR := Lib.hid hr
 have HA := Lib.hid hA
 clear hr hA
 go_enter Tryz.func3, Tryz.ntmps3
 go_upto_region 3 with (first
  | (go_at_call 7; refine (sane18_any _).mono ?_; rintro ee w1 ⟨rfl, hb1⟩; have HB1 := Lib.hid hb1; clear hb1)
  | fail)
 go_upto_region 4 with (first
  | (go_at_call 9; refine (mnew_any A n c _).mono ?_; rintro ee wn ⟨rfl, rfl⟩)
  | (go_at_call 8; refine (mterm_dk w1.heap.size A n c xs _ (Dk2.made (HR.out.up HA.out HB1.out) (fun h0 ad e => by have := HA.out h0 ad e; have := HB1.out.size; omega) hn)).mono ?_; rintro ee w3 ⟨t, rfl, ht, ⟨t1, t2, t3, t4⟩, -, -, hg3⟩; have HOK3 := Lib.hid ht.1; have hb13 : Bw w1 w3 := Bw.grown (Bw.alloc (Bw.refl _) _) hg3 (fun k hk => by cases hk; omega); clear ht hg3)
  | ((with_reducible refine wpList_fieldW 42 0 (.tmp 18) (.agg t.vals.toArray) (.agg t.s.vals.toArray) rfl rfl ?_ (field_tw t _) ?_); (focus rfl))
  | ((with_reducible refine wpList_store_sc t.s w3.heap.size (.tmp 5) (.tmp 19) rfl rfl ?_ ?_ ?_ ?_); (focus rfl); (focus rfl); (focus (exact ⟨_, heap_at (by simp), rfl⟩)); intro w4 hS4 hg4; have HS4 := Lib.hid hS4; have hb34 : Bw w3 w4 := Bw.grown (show Bw w3 _ from BWX) hg4 (fun j hj => by cases hj; omega); clear hS4 hg4)
  | fail)
 have HOK := Lib.hid (HOK3.out.up hb34)
 have HBW := Lib.hid (Bw.trans HB1.out (Bw.trans hb13 hb34))
 obtain ⟨s, hs⟩ : ∃ s, s = t.s := ⟨_, rfl⟩
 rw [← hs] at HOK HS4 t1 t2 t3 t4
 obtain ⟨gs, hgs⟩ : ∃ gs, gs = w3.heap.size := ⟨_, rfl⟩
 have hltg := HS4.out.lt
 rw [← hgs] at HS4 hltg ⊢
 have hgw : w.heap.size ≤ gs := by have := HB1.out.size; have := hb13.size; omega
 have hslt : ∀ ad, s.A = some ad → ad.block < gs := fun ad e => by rw [hgs]; exact HOK3.out.1.lt ad (hs ▸ e)
 have HSL := Lib.hid hslt
 clear HOK3 hb13 hb34 HB1 hs hgs hslt
 obtain ⟨⟨-, -, -, -, -, knc, kcm, cs, kr, kg⟩, -⟩ := HOK.out
 have HRS := Lib.hid kr
 have HGB := Lib.hid kg
 have HSX := Lib.hid HOK.out.num
 clear kr kg
 go_upto_region 5 with (first
  | ((with_reducible refine wpList_load_sc s gs (.tmp 5) rfl rfl ?_ ?_ ?_); (focus rfl); (focus (exact HS4.out)))
  | (go_at_call 10; refine (sapply_10 s cs _ (HOK.out.up BWX) (HRS.out.up BWX)).mono ?_; rintro ee w5 ⟨A1, n1, c1, L1, k1, rfl, hr1, hn1, hc1, hA1, hb1⟩; have HR1 := Lib.hid hr1; have hb45 : Bw w4 w5 := Bw.trans (show Bw w4 _ from BWX) hb1; clear hr1 hA1 hb1)
  | ((with_reducible refine wpList_store_sc ((fdS s).gr A1 n1 c1) w5.heap.size (.tmp 6) (.tmp 24) rfl rfl ?_ ?_ ?_ ?_); (focus rfl); (focus rfl); (focus (exact ⟨_, heap_at (by simp), rfl⟩)); intro w6 hS6 hg6; have HS6 := Lib.hid hS6; have hb56 : Bw w5 w6 := Bw.grown (show Bw w5 _ from BWX) hg6 (fun j hj => by cases hj; omega); clear hS6 hg6)
  | fail)
 have HOK1 := Lib.hid (Scr.Ok.of (s := (fdS s).gr A1 n1 c1) (fdS_ok HSX.out) (HR1.out.up hb56) hn1 hc1 (by show gridB (fdS s).Rn (fdS s).Cn (fdC s cs) = true; rw [(fdS_nums s).1, (fdS_nums s).2.1]; exact fdC_ok HGB.out))
 have HB46 := Lib.hid (Bw.trans hb45 hb56)
 obtain ⟨ga, hga⟩ : ∃ ga, ga = w5.heap.size := ⟨_, rfl⟩
 have hlta := HS6.out.lt
 rw [← hga] at HS6 hlta ⊢
 have hz46 := HB46.out.size
 have HS46 := Lib.hid (HS4.out.up HB46.out)
 have hlt6 := HS46.out.lt
 have x3 := HS46.out.cell 3 (v := .int .i64 s.row) rfl
 have x9 := HS46.out.cell 9 (v := .int .i64 s.top) rfl
 have x10 := HS46.out.cell 10 (v := .int .i64 s.bot) rfl
 have y3 := HS6.out.cell 3 (v := .int .i64 (fdS s).row) rfl
 clear hb45 hb56 hga HR1
 obtain ⟨m, hm⟩ : ∃ m, m = fdN s 0 := ⟨_, rfl⟩
 rw [← hm]
 have HM := Lib.hid hm
 clear hm
 obtain ⟨q, hq⟩ : ∃ q, q = decide (s.row = s.bot) := ⟨_, rfl⟩
 have HQ := Lib.hid hq
 clear hq
 go_cut [8] (fun v w' => v = .bool q ∧ w6 = w')
 case first =>
  by_cases c1 : s.row = s.bot
  ·have c2 : (s.row == s.bot) = true := by simpa using c1
   have HQT := Lib.hid (show q = true by rw [HQ.out]; exact decide_eq_true c1)
   clear c1
   go_wp2_with fail
   go_meet
   case rel => exact ⟨congrArg Value.bool HQT.out.symm, rfl⟩
  ·have c2 : (s.row == s.bot) = false := by simpa using c1
   have HQT := Lib.hid (show q = false by rw [HQ.out]; exact decide_eq_false c1)
   clear c1
   go_wp2_with fail
   go_meet
   case rel => exact ⟨congrArg Value.bool HQT.out.symm, rfl⟩
 case rest =>
 obtain ⟨rfl, rfl⟩ := hcut
 go_upto_region 6 with (fail)
 go_cut [65] (fun v w' => v = .bool false ∧ Bw w6 w')
 case first =>
  cases q with
  | true =>
   have c1 : s.row = s.bot := of_decide_eq_true HQ.out.symm
   have e1 : (fdS s).row = s.row := by unfold fdS; rw [if_pos c1]
   rw [e1] at y3
   by_cases c2 : s.top = 0
   ·have e2 : fdN s 0 = 1 := by
     unfold fdN lostN
     rw [if_pos c1, if_pos ⟨c2, by omega⟩]
     have := HSX.out.2.2.2.1
     omega
    have c3 : (s.top == 0) = true := by simpa using c2
    obtain rfl : m = 1 := by rw [HM.out]; exact e2
    clear c1 c2 e1 e2
    go_wp2_with (first
     | ((with_reducible refine wpList_load_scG ((fdS s).gr A1 n1 c1) ga (.tmp 6) rfl ?_ ?_ ?_ ?_); (focus rfl); (focus rfl); (focus (exact HS6.out)))
     | (go_at_call 11; refine (svalid_ok ((fdS s).gr A1 n1 c1) _ (HOK1.out.up BWX)).mono ?_; rintro ee w7 ⟨rfl, hb7⟩; have HB7 := Lib.hid (show Bw w6 w7 from Bw.trans (show Bw w6 _ from BWX) hb7); clear hb7)
     | fail)
    go_meet
    case rel => exact ⟨rfl, HB7.out⟩
   ·have e2 : fdN s 0 = 0 := by
     unfold fdN lostN
     rw [if_pos c1, if_neg (by omega)]
    have c3 : (s.top == 0) = false := by simpa using c2
    obtain rfl : m = 0 := by rw [HM.out]; exact e2
    clear c1 c2 e1 e2
    go_wp2_with (first
     | ((with_reducible refine wpList_load_scG ((fdS s).gr A1 n1 c1) ga (.tmp 6) rfl ?_ ?_ ?_ ?_); (focus rfl); (focus rfl); (focus (exact HS6.out)))
     | (go_at_call 11; refine (svalid_ok ((fdS s).gr A1 n1 c1) _ (HOK1.out.up BWX)).mono ?_; rintro ee w7 ⟨rfl, hb7⟩; have HB7 := Lib.hid (show Bw w6 w7 from Bw.trans (show Bw w6 _ from BWX) hb7); clear hb7)
     | fail)
    go_meet
    case rel => exact ⟨rfl, HB7.out⟩
  | false =>
   have c1 : ¬ s.row = s.bot := of_decide_eq_false HQ.out.symm
   have e2 : fdN s 0 = 0 := by unfold fdN; rw [if_neg c1]
   obtain rfl : m = 0 := by rw [HM.out]; exact e2
   clear c1 e2
   go_wp2_with (first
    | ((with_reducible refine wpList_load_scG ((fdS s).gr A1 n1 c1) ga (.tmp 6) rfl ?_ ?_ ?_ ?_); (focus rfl); (focus rfl); (focus (exact HS6.out)))
    | (go_at_call 11; refine (svalid_ok ((fdS s).gr A1 n1 c1) _ (HOK1.out.up BWX)).mono ?_; rintro ee w7 ⟨rfl, hb7⟩; have HB7 := Lib.hid (show Bw w6 w7 from Bw.trans (show Bw w6 _ from BWX) hb7); clear hb7)
    | fail)
   go_meet
   case rel => exact ⟨rfl, HB7.out⟩
 case rest =>
 obtain ⟨rfl, hbc⟩ := hcut
 have HB6c := Lib.hid (Bw.trans HB46.out hbc)
 have HSc := Lib.hid (HS46.out.up hbc)
 have hltc := HSc.out.lt
 have hzc := HB6c.out.size
 clear hbc x3 x9 x10 y3 HS6 HS46 HB46 hlta hlt6 HOK1 HQ hz46
 have x5 := HSc.out.cell 5 (v := .bool s.wrap) rfl
 have z5 := HSc.out.free 5
 go_upto_region 9 with (fail)
 clear x5 z5
 generalize hw8 : wc.setCell ⟨gs, 5, none⟩ (.bool false) = w8
 have hS8 : Sb w8 gs ({ s with wrap := false } : Scr).vals.toArray 34 := by rw [← hw8]; exact HSc.out.set 5 _ rfl
 have hg8 : wc.grownBy w8 (some gs) := by rw [← hw8]; exact grown_set (grown_refl _ _) 5 _
 have HS8 := Lib.hid hS8
 have HB8 := Lib.hid (Bw.grown (Bw.trans HBW.out HB6c.out) hg8 (fun k hk => by cases hk; exact hgw))
 have HR8 := Lib.hid ((HRS.out.up HB6c.out).far hg8 (fun ad e e2 => by have := HSL.out ad e; have := Option.some.inj e2; omega))
 have hsx0 : ScX ({ s with wrap := false } : Scr) := HSX.out
 have HOK8 := Lib.hid (Scr.Ok.of (s := { s with wrap := false }) hsx0 HR8.out knc kcm HGB.out)
 have hlt8 := hS8.lt
 clear hw8 hS8 hg8 hsx0 HSc HB6c hzc hltc
 have hm0 := Int.emod_nonneg nn (show (26 : Int) ≠ 0 by omega)
 have hm1 := Int.emod_lt_of_pos nn (show (0 : Int) < 26 by omega)
 obtain ⟨x, hx⟩ : ∃ x, 97 + nn % 26 = x := ⟨_, rfl⟩
 have HX := Lib.hid hx
 have HXW := Lib.hid (show IntKind.i64.wrap (97 + nn % 26) = x by rw [IntWalk.i64_in (97 + nn % 26) (by omega), hx])
 have HCV := Lib.hid (show cellB (x, s.f, s.g, s.b) = true from letter_ok (by omega) HSX.out.2.2.1)
 have hx0 : 97 ≤ x := by omega
 have hx1 : x ≤ 122 := by omega
 clear hx
 have HPN := Lib.hid (show pfN ({ s with wrap := false } : Scr) = 0 from rfl)
 go_cut [9, 10] (fun a b' w' => ∃ A' n' c' L k' gb, a = .pointer (some ⟨gb, 0, none⟩) ∧ b' = .slice L 0 k' ∧ Sb w' gb ((ptS { s with wrap := false }).gr A' n' c').vals.toArray 34 ∧ Rg w' A' n' (ptC { s with wrap := false } cs x) ∧ n' ≤ c' ∧ c' ≤ 9223372036854775807 ∧ Bw w8 w')
 case first =>
  have HY := Lib.hid (show ∀ w', Bw w8 w' → Sb w' gs ({ s with wrap := false } : Scr).vals.toArray 34 from fun w' hb => HS8.out.up hb)
  refine wp_region_held_drew (S := (fun w' => Sb w' gs ({ s with wrap := false } : Scr).vals.toArray 34)) (by kernel_rfl) ?_ (fun hHeld => ?_)
  ·(try dsimp only); (first | (refine HY.out _ ?_; (repeat (first | with_reducible (first | assumption | exact Bw.refl _ | refine Bw.alloc ?_ _ | refine Bw.more ?_ _ _ | refine Bw.drew ?_ | refine Bw.drewN ?_ _) | ((with_reducible refine Bw.set2 ?_ ?_ _); (focus exact SZX)) | with_reducible refine Bw.trans ?_ (by assumption))); done) | exact hHeld | exact hHeld.far HG6.out (fun e => by have e3 := Option.some.inj e; (try simp only [szA, szS, szD, szN] at e3); omega))
  refine wpAnyH_take (i := 0) (v := .agg ({ s with wrap := false } : Scr).vals.toArray) rfl (by kernel_rfl) (by kernel_rfl) (by kernel_rfl) (fun _ _ _ h => h) (yieldsIf_load_mid (by rfl) 34 (.tmp 5) rfl gs 0 rfl ({ s with wrap := false } : Scr).vals _ (fun w' h => scRange h) Tryz.underlying34 rfl infoSc) (by assumption) ?_
  (try simp only [Act.put, zP1, zP2, zP3, zP4, zP5, zP6])
  refine tkH 1 ?_ rfl (Or.inl ⟨by rfl, ?ht1⟩) ?_
  case ht1 => (intro w hSw; (try dsimp only at hSw); go_simp; try with_reducible rfl)
  (try simp only [Act.put, zP1, zP2, zP3, zP4, zP5, zP6])
  refine wpAnyH_ready (rs := [2, 9]) (by kernel_rfl) (by simp) ?_
  refine AllReadyH.cons rfl (fun K hK => ?_) ?_
  ·go_simp
   refine (mmod_any _ _ _ (by omega) (by omega)).mono ?_; rintro ee ww ⟨rfl, rfl⟩; go_wp2_with fail
   refine hK.out _ _ ?_ (fun hHeld => ?_)
   ·(try dsimp only); (first | (refine HY.out _ ?_; (repeat (first | with_reducible (first | assumption | exact Bw.refl _ | refine Bw.alloc ?_ _ | refine Bw.more ?_ _ _ | refine Bw.drew ?_ | refine Bw.drewN ?_ _) | ((with_reducible refine Bw.set2 ?_ ?_ _); (focus exact SZX)) | with_reducible refine Bw.trans ?_ (by assumption))); done) | exact hHeld | exact hHeld.far HG6.out (fun e => by have e3 := Option.some.inj e; (try simp only [szA, szS, szD, szN] at e3); omega))
   clear hK K
   (try simp only [Act.put, zP1, zP2, zP3, zP4, zP5, zP6])
   refine tkH 3 ?_ rfl (Or.inl ⟨by rfl, ?ht3⟩) ?_
   case ht3 => (intro w hSw; (try dsimp only at hSw); go_simp; try with_reducible rfl)
   (try simp only [Act.put, zP1, zP2, zP3, zP4, zP5, zP6])
   refine tkH 4 ?_ rfl (Or.inl ⟨by rfl, ?ht4⟩) ?_
   case ht4 => (intro w hSw; (try dsimp only at hSw); go_simp; try with_reducible rfl)
   (try simp only [Act.put, zP1, zP2, zP3, zP4, zP5, zP6])
   refine wpAnyH_ready (rs := [5, 9]) (by kernel_rfl) (by simp) ?_
   refine AllReadyH.cons rfl (fun K hK => ?_) ?_
   ·go_simp
    (try rw [IntWalk.i64_in (97 + nn % 26) (by omega)]); rw [HX.out]; refine (sapply_print { s with wrap := false } cs x _ (HOK8.out.up BWX) (HR8.out.up BWX) HCV.out).mono ?_; rintro ee w2 ⟨A', n', c', L, k', rfl, hr2, hn2, hc2, hA2, hb2⟩; rw [HPN.out]; have hbw2 : Bw w8 w2 := Bw.trans (show Bw w8 _ from BWX) hb2; have hsz2 := hbw2.size; have HR2 := Lib.hid hr2; have HA2s := Lib.hid hA2; have HBB := Lib.hid hb2; clear hr2 hA2 hb2; go_wp2_with fail
    refine hK.out _ _ ?_ (fun hHeld => ?_)
    ·(try dsimp only); (first | (refine HY.out _ ?_; (repeat (first | with_reducible (first | assumption | exact Bw.refl _ | refine Bw.alloc ?_ _ | refine Bw.more ?_ _ _ | refine Bw.drew ?_ | refine Bw.drewN ?_ _) | ((with_reducible refine Bw.set2 ?_ ?_ _); (focus exact SZX)) | with_reducible refine Bw.trans ?_ (by assumption))); done) | exact hHeld | exact hHeld.far HG6.out (fun e => by have e3 := Option.some.inj e; (try simp only [szA, szS, szD, szN] at e3); omega))
    clear hK K
    (try simp only [Act.put, zP1, zP2, zP3, zP4, zP5, zP6])
    refine tkH 6 ?_ rfl (Or.inl ⟨by rfl, ?ht6⟩) ?_
    case ht6 => (intro w hSw; (try dsimp only at hSw); go_simp; try with_reducible rfl)
    (try simp only [Act.put, zP1, zP2, zP3, zP4, zP5, zP6])
    refine tkH 7 ?_ rfl (Or.inl ⟨by rfl, ?ht7⟩) ?_
    case ht7 => (intro w hSw; (try dsimp only at hSw); go_simp; try with_reducible rfl)
    (try simp only [Act.put, zP1, zP2, zP3, zP4, zP5, zP6])
    refine tkH 8 ?_ rfl (Or.inl ⟨by rfl, ?ht8⟩) ?_
    case ht8 => (intro w hSw; (try dsimp only at hSw); go_simp; try with_reducible rfl)
    (try simp only [Act.put, zP1, zP2, zP3, zP4, zP5, zP6])
    refine wpAnyH_ready (rs := [9]) (by kernel_rfl) (by simp) ?_
    refine AllReadyH.cons rfl (fun K hK => ?_) ?_
    ·go_simp
     refine hK.out _ _ ?_ (fun hHeld => ?_)
     ·(try dsimp only); (first | (refine HY.out _ ?_; (repeat (first | with_reducible (first | assumption | exact Bw.refl _ | refine Bw.alloc ?_ _ | refine Bw.more ?_ _ _ | refine Bw.drew ?_ | refine Bw.drewN ?_ _) | ((with_reducible refine Bw.set2 ?_ ?_ _); (focus exact SZX)) | with_reducible refine Bw.trans ?_ (by assumption))); done) | exact hHeld | exact hHeld.far HG6.out (fun e => by have e3 := Option.some.inj e; (try simp only [szA, szS, szD, szN] at e3); omega))
     clear hK K
     (try simp only [Act.put, zP1, zP2, zP3, zP4, zP5, zP6])
     refine wpAnyH_ready (rs := [10]) (by kernel_rfl) (by simp) ?_
     refine AllReadyH.cons rfl (fun K hK => ?_) ?_
     ·(refine (if_pos (by kernel_rfl)).mpr ?_); (first | ((with_reducible refine wp_store_sc ((ptS { s with wrap := false }).gr A' n' c') w2.heap.size (.tmp 9) (.tmp 75) ?ho ?_ ?_ ?_ ?_); (case ho => rfl); (focus rfl); (focus rfl); (focus (exact ⟨_, heap_at (by simp), rfl⟩))) | ((with_reducible refine wp_store_sc ((ptS { s with wrap := false }).gr A' n' c') w8.heap.size (.tmp 9) (.tmp 75) ?ho ?_ ?_ ?_ ?_); (case ho => rfl); (focus rfl); (focus rfl); (focus (exact sb_boxed HBB.out rfl))) | ((with_reducible refine wp_store_sc ((ptS { s with wrap := false }).gr A' n' c') w8.heap.size (.tmp 9) (.tmp 75) ?ho ?_ ?_ ?_ ?_); (case ho => rfl); (focus rfl); (focus rfl); (focus (exact sb_boxed2 HBB.out rfl)))); intro w6 hS6 hg6; have HS6 := Lib.hid hS6; have HG6 := Lib.hid hg6; clear hS6 hg6
      refine hK.out _ _ ?_ (fun hHeld => ?_)
      ·(try dsimp only); (first | (refine HY.out _ ?_; (repeat (first | with_reducible (first | assumption | exact Bw.refl _ | refine Bw.alloc ?_ _ | refine Bw.more ?_ _ _ | refine Bw.drew ?_ | refine Bw.drewN ?_ _) | ((with_reducible refine Bw.set2 ?_ ?_ _); (focus exact SZX)) | with_reducible refine Bw.trans ?_ (by assumption))); done) | exact hHeld | exact hHeld.far HG6.out (fun e => by have e3 := Option.some.inj e; (try simp only [szA, szS, szD, szN] at e3); omega))
      clear hK K
      (try simp only [Act.put, zP1, zP2, zP3, zP4, zP5, zP6])
      refine wpAnyH_ready (rs := [11]) (by kernel_rfl) (by simp) ?_
      refine AllReadyH.cons rfl (fun K hK => ?_) ?_
      ·go_simp
       refine hK.out _ _ ?_ (fun hHeld => ?_)
       ·(try dsimp only); (first | (refine HY.out _ ?_; (repeat (first | with_reducible (first | assumption | exact Bw.refl _ | refine Bw.alloc ?_ _ | refine Bw.more ?_ _ _ | refine Bw.drew ?_ | refine Bw.drewN ?_ _) | ((with_reducible refine Bw.set2 ?_ ?_ _); (focus exact SZX)) | with_reducible refine Bw.trans ?_ (by assumption))); done) | exact hHeld | exact hHeld.far HG6.out (fun e => by have e3 := Option.some.inj e; (try simp only [szA, szS, szD, szN] at e3); omega))
       clear hK K
       (try simp only [Act.put, zP1, zP2, zP3, zP4, zP5, zP6])
       refine wpAnyH_done (by kernel_rfl) ?_ _
       go_wp2_with fail
       go_meet
       case rel =>
        have hOk2 : ((ptS { s with wrap := false }).gr A' n' c').Ok w2 := Scr.Ok.of (s := (ptS { s with wrap := false }).gr A' n' c') (ptS_ok HOK8.out.num) HR2.out hn2 hc2 (by show gridB (ptS { s with wrap := false }).Rn (ptS { s with wrap := false }).Cn (ptC { s with wrap := false } cs x) = true; rw [(ptS_nums { s with wrap := false }).1, (ptS_nums { s with wrap := false }).2.1]; exact ptC_ok (s := { s with wrap := false }) HGB.out)
        have hl2 := hOk2.1.lt
        have hlo := HOK8.out.1.lt
        refine ⟨A', n', c', L, k', _, rfl, rfl, HS6.out, ?_, hn2, hc2, ?_⟩
        ·refine Rg.far ?_ HG6.out (fun ad e e2 => ?_)
         ·refine HR2.out.up ?_
          (repeat (first | with_reducible (first | assumption | exact Bw.refl _ | refine Bw.alloc ?_ _ | refine Bw.more ?_ _ _ | refine Bw.drew ?_ | refine Bw.drewN ?_ _) | ((with_reducible refine Bw.set2 ?_ ?_ _); (focus exact SZX)) | with_reducible refine Bw.trans ?_ (by assumption)))
         ·have e3 := Option.some.inj e2
          have h1 := hl2 ad e
          rcases HA2s.out with h | h
          ·have h2 := hlo ad (h ▸ e)
           (try simp only [szA, szS, szD, szN] at e3)
           omega
          ·have h2 := h ad e
           (try simp only [szA, szS, szD, szN] at e3 h2)
           omega
        ·refine Bw.grown ?_ HG6.out (fun j hj => by cases hj; first | omega | (simp only [szA, szS, szD, szN]; omega))
         (repeat (first | with_reducible (first | assumption | exact Bw.refl _ | refine Bw.alloc ?_ _ | refine Bw.more ?_ _ _ | refine Bw.drew ?_ | refine Bw.drewN ?_ _) | ((with_reducible refine Bw.set2 ?_ ?_ _); (focus exact SZX)) | with_reducible refine Bw.trans ?_ (by assumption)))
      exact AllReadyH.nil
     exact AllReadyH.nil
    exact AllReadyH.nil
   refine AllReadyH.cons rfl (fun K hK => ?_) ?_
   ·go_simp
    refine hK.out _ _ ?_ (fun hHeld => ?_)
    ·(try dsimp only); (first | (refine HY.out _ ?_; (repeat (first | with_reducible (first | assumption | exact Bw.refl _ | refine Bw.alloc ?_ _ | refine Bw.more ?_ _ _ | refine Bw.drew ?_ | refine Bw.drewN ?_ _) | ((with_reducible refine Bw.set2 ?_ ?_ _); (focus exact SZX)) | with_reducible refine Bw.trans ?_ (by assumption))); done) | exact hHeld | exact hHeld.far HG6.out (fun e => by have e3 := Option.some.inj e; (try simp only [szA, szS, szD, szN] at e3); omega))
    clear hK K
    (try simp only [Act.put, zP1, zP2, zP3, zP4, zP5, zP6])
    refine wpAnyH_ready (rs := [5]) (by kernel_rfl) (by simp) ?_
    refine AllReadyH.cons rfl (fun K hK => ?_) ?_
    ·go_simp
     (try rw [IntWalk.i64_in (97 + nn % 26) (by omega)]); rw [HX.out]; refine (sapply_print { s with wrap := false } cs x _ (HOK8.out.up BWX) (HR8.out.up BWX) HCV.out).mono ?_; rintro ee w2 ⟨A', n', c', L, k', rfl, hr2, hn2, hc2, hA2, hb2⟩; rw [HPN.out]; have hbw2 : Bw w8 w2 := Bw.trans (show Bw w8 _ from BWX) hb2; have hsz2 := hbw2.size; have HR2 := Lib.hid hr2; have HA2s := Lib.hid hA2; have HBB := Lib.hid hb2; clear hr2 hA2 hb2; go_wp2_with fail
     refine hK.out _ _ ?_ (fun hHeld => ?_)
     ·(try dsimp only); (first | (refine HY.out _ ?_; (repeat (first | with_reducible (first | assumption | exact Bw.refl _ | refine Bw.alloc ?_ _ | refine Bw.more ?_ _ _ | refine Bw.drew ?_ | refine Bw.drewN ?_ _) | ((with_reducible refine Bw.set2 ?_ ?_ _); (focus exact SZX)) | with_reducible refine Bw.trans ?_ (by assumption))); done) | exact hHeld | exact hHeld.far HG6.out (fun e => by have e3 := Option.some.inj e; (try simp only [szA, szS, szD, szN] at e3); omega))
     clear hK K
     (try simp only [Act.put, zP1, zP2, zP3, zP4, zP5, zP6])
     refine tkH 6 ?_ rfl (Or.inl ⟨by rfl, ?ht6⟩) ?_
     case ht6 => (intro w hSw; (try dsimp only at hSw); go_simp; try with_reducible rfl)
     (try simp only [Act.put, zP1, zP2, zP3, zP4, zP5, zP6])
     refine tkH 7 ?_ rfl (Or.inl ⟨by rfl, ?ht7⟩) ?_
     case ht7 => (intro w hSw; (try dsimp only at hSw); go_simp; try with_reducible rfl)
     (try simp only [Act.put, zP1, zP2, zP3, zP4, zP5, zP6])
     refine tkH 8 ?_ rfl (Or.inl ⟨by rfl, ?ht8⟩) ?_
     case ht8 => (intro w hSw; (try dsimp only at hSw); go_simp; try with_reducible rfl)
     (try simp only [Act.put, zP1, zP2, zP3, zP4, zP5, zP6])
     refine wpAnyH_ready (rs := [10]) (by kernel_rfl) (by simp) ?_
     refine AllReadyH.cons rfl (fun K hK => ?_) ?_
     ·(refine (if_pos (by kernel_rfl)).mpr ?_); (first | ((with_reducible refine wp_store_sc ((ptS { s with wrap := false }).gr A' n' c') w2.heap.size (.tmp 9) (.tmp 75) ?ho2 ?_ ?_ ?_ ?_); (case ho2 => rfl); (focus rfl); (focus rfl); (focus (exact ⟨_, heap_at (by simp), rfl⟩))) | ((with_reducible refine wp_store_sc ((ptS { s with wrap := false }).gr A' n' c') w8.heap.size (.tmp 9) (.tmp 75) ?ho2 ?_ ?_ ?_ ?_); (case ho2 => rfl); (focus rfl); (focus rfl); (focus (exact sb_boxed HBB.out rfl))) | ((with_reducible refine wp_store_sc ((ptS { s with wrap := false }).gr A' n' c') w8.heap.size (.tmp 9) (.tmp 75) ?ho2 ?_ ?_ ?_ ?_); (case ho2 => rfl); (focus rfl); (focus rfl); (focus (exact sb_boxed2 HBB.out rfl)))); intro w6 hS6 hg6; have HS6 := Lib.hid hS6; have HG6 := Lib.hid hg6; clear hS6 hg6
      refine hK.out _ _ ?_ (fun hHeld => ?_)
      ·(try dsimp only); (first | (refine HY.out _ ?_; (repeat (first | with_reducible (first | assumption | exact Bw.refl _ | refine Bw.alloc ?_ _ | refine Bw.more ?_ _ _ | refine Bw.drew ?_ | refine Bw.drewN ?_ _) | ((with_reducible refine Bw.set2 ?_ ?_ _); (focus exact SZX)) | with_reducible refine Bw.trans ?_ (by assumption))); done) | exact hHeld | exact hHeld.far HG6.out (fun e => by have e3 := Option.some.inj e; (try simp only [szA, szS, szD, szN] at e3); omega))
      clear hK K
      (try simp only [Act.put, zP1, zP2, zP3, zP4, zP5, zP6])
      refine wpAnyH_ready (rs := [11]) (by kernel_rfl) (by simp) ?_
      refine AllReadyH.cons rfl (fun K hK => ?_) ?_
      ·go_simp
       refine hK.out _ _ ?_ (fun hHeld => ?_)
       ·(try dsimp only); (first | (refine HY.out _ ?_; (repeat (first | with_reducible (first | assumption | exact Bw.refl _ | refine Bw.alloc ?_ _ | refine Bw.more ?_ _ _ | refine Bw.drew ?_ | refine Bw.drewN ?_ _) | ((with_reducible refine Bw.set2 ?_ ?_ _); (focus exact SZX)) | with_reducible refine Bw.trans ?_ (by assumption))); done) | exact hHeld | exact hHeld.far HG6.out (fun e => by have e3 := Option.some.inj e; (try simp only [szA, szS, szD, szN] at e3); omega))
       clear hK K
       (try simp only [Act.put, zP1, zP2, zP3, zP4, zP5, zP6])
       refine wpAnyH_done (by kernel_rfl) ?_ _
       go_wp2_with fail
       go_meet
       case rel =>
        have hOk2 : ((ptS { s with wrap := false }).gr A' n' c').Ok w2 := Scr.Ok.of (s := (ptS { s with wrap := false }).gr A' n' c') (ptS_ok HOK8.out.num) HR2.out hn2 hc2 (by show gridB (ptS { s with wrap := false }).Rn (ptS { s with wrap := false }).Cn (ptC { s with wrap := false } cs x) = true; rw [(ptS_nums { s with wrap := false }).1, (ptS_nums { s with wrap := false }).2.1]; exact ptC_ok (s := { s with wrap := false }) HGB.out)
        have hl2 := hOk2.1.lt
        have hlo := HOK8.out.1.lt
        refine ⟨A', n', c', L, k', _, rfl, rfl, HS6.out, ?_, hn2, hc2, ?_⟩
        ·refine Rg.far ?_ HG6.out (fun ad e e2 => ?_)
         ·refine HR2.out.up ?_
          (repeat (first | with_reducible (first | assumption | exact Bw.refl _ | refine Bw.alloc ?_ _ | refine Bw.more ?_ _ _ | refine Bw.drew ?_ | refine Bw.drewN ?_ _) | ((with_reducible refine Bw.set2 ?_ ?_ _); (focus exact SZX)) | with_reducible refine Bw.trans ?_ (by assumption)))
         ·have e3 := Option.some.inj e2
          have h1 := hl2 ad e
          rcases HA2s.out with h | h
          ·have h2 := hlo ad (h ▸ e)
           (try simp only [szA, szS, szD, szN] at e3)
           omega
          ·have h2 := h ad e
           (try simp only [szA, szS, szD, szN] at e3 h2)
           omega
        ·refine Bw.grown ?_ HG6.out (fun j hj => by cases hj; first | omega | (simp only [szA, szS, szD, szN]; omega))
         (repeat (first | with_reducible (first | assumption | exact Bw.refl _ | refine Bw.alloc ?_ _ | refine Bw.more ?_ _ _ | refine Bw.drew ?_ | refine Bw.drewN ?_ _) | ((with_reducible refine Bw.set2 ?_ ?_ _); (focus exact SZX)) | with_reducible refine Bw.trans ?_ (by assumption)))
      exact AllReadyH.nil
     exact AllReadyH.nil
    exact AllReadyH.nil
   exact AllReadyH.nil
  refine AllReadyH.cons rfl (fun K hK => ?_) ?_
  ·go_simp
   refine hK.out _ _ ?_ (fun hHeld => ?_)
   ·(try dsimp only); (first | (refine HY.out _ ?_; (repeat (first | with_reducible (first | assumption | exact Bw.refl _ | refine Bw.alloc ?_ _ | refine Bw.more ?_ _ _ | refine Bw.drew ?_ | refine Bw.drewN ?_ _) | ((with_reducible refine Bw.set2 ?_ ?_ _); (focus exact SZX)) | with_reducible refine Bw.trans ?_ (by assumption))); done) | exact hHeld | exact hHeld.far HG6.out (fun e => by have e3 := Option.some.inj e; (try simp only [szA, szS, szD, szN] at e3); omega))
   clear hK K
   (try simp only [Act.put, zP1, zP2, zP3, zP4, zP5, zP6])
   refine wpAnyH_ready (rs := [2]) (by kernel_rfl) (by simp) ?_
   refine AllReadyH.cons rfl (fun K hK => ?_) ?_
   ·go_simp
    refine (mmod_any _ _ _ (by omega) (by omega)).mono ?_; rintro ee ww ⟨rfl, rfl⟩; go_wp2_with fail
    refine hK.out _ _ ?_ (fun hHeld => ?_)
    ·(try dsimp only); (first | (refine HY.out _ ?_; (repeat (first | with_reducible (first | assumption | exact Bw.refl _ | refine Bw.alloc ?_ _ | refine Bw.more ?_ _ _ | refine Bw.drew ?_ | refine Bw.drewN ?_ _) | ((with_reducible refine Bw.set2 ?_ ?_ _); (focus exact SZX)) | with_reducible refine Bw.trans ?_ (by assumption))); done) | exact hHeld | exact hHeld.far HG6.out (fun e => by have e3 := Option.some.inj e; (try simp only [szA, szS, szD, szN] at e3); omega))
    clear hK K
    (try simp only [Act.put, zP1, zP2, zP3, zP4, zP5, zP6])
    refine tkH 3 ?_ rfl (Or.inl ⟨by rfl, ?ht3⟩) ?_
    case ht3 => (intro w hSw; (try dsimp only at hSw); go_simp; try with_reducible rfl)
    (try simp only [Act.put, zP1, zP2, zP3, zP4, zP5, zP6])
    refine tkH 4 ?_ rfl (Or.inl ⟨by rfl, ?ht4⟩) ?_
    case ht4 => (intro w hSw; (try dsimp only at hSw); go_simp; try with_reducible rfl)
    (try simp only [Act.put, zP1, zP2, zP3, zP4, zP5, zP6])
    refine wpAnyH_ready (rs := [5]) (by kernel_rfl) (by simp) ?_
    refine AllReadyH.cons rfl (fun K hK => ?_) ?_
    ·go_simp
     (try rw [IntWalk.i64_in (97 + nn % 26) (by omega)]); rw [HX.out]; refine (sapply_print { s with wrap := false } cs x _ (HOK8.out.up BWX) (HR8.out.up BWX) HCV.out).mono ?_; rintro ee w2 ⟨A', n', c', L, k', rfl, hr2, hn2, hc2, hA2, hb2⟩; rw [HPN.out]; have hbw2 : Bw w8 w2 := Bw.trans (show Bw w8 _ from BWX) hb2; have hsz2 := hbw2.size; have HR2 := Lib.hid hr2; have HA2s := Lib.hid hA2; have HBB := Lib.hid hb2; clear hr2 hA2 hb2; go_wp2_with fail
     refine hK.out _ _ ?_ (fun hHeld => ?_)
     ·(try dsimp only); (first | (refine HY.out _ ?_; (repeat (first | with_reducible (first | assumption | exact Bw.refl _ | refine Bw.alloc ?_ _ | refine Bw.more ?_ _ _ | refine Bw.drew ?_ | refine Bw.drewN ?_ _) | ((with_reducible refine Bw.set2 ?_ ?_ _); (focus exact SZX)) | with_reducible refine Bw.trans ?_ (by assumption))); done) | exact hHeld | exact hHeld.far HG6.out (fun e => by have e3 := Option.some.inj e; (try simp only [szA, szS, szD, szN] at e3); omega))
     clear hK K
     (try simp only [Act.put, zP1, zP2, zP3, zP4, zP5, zP6])
     refine tkH 6 ?_ rfl (Or.inl ⟨by rfl, ?ht6⟩) ?_
     case ht6 => (intro w hSw; (try dsimp only at hSw); go_simp; try with_reducible rfl)
     (try simp only [Act.put, zP1, zP2, zP3, zP4, zP5, zP6])
     refine tkH 7 ?_ rfl (Or.inl ⟨by rfl, ?ht7⟩) ?_
     case ht7 => (intro w hSw; (try dsimp only at hSw); go_simp; try with_reducible rfl)
     (try simp only [Act.put, zP1, zP2, zP3, zP4, zP5, zP6])
     refine tkH 8 ?_ rfl (Or.inl ⟨by rfl, ?ht8⟩) ?_
     case ht8 => (intro w hSw; (try dsimp only at hSw); go_simp; try with_reducible rfl)
     (try simp only [Act.put, zP1, zP2, zP3, zP4, zP5, zP6])
     refine wpAnyH_ready (rs := [10]) (by kernel_rfl) (by simp) ?_
     refine AllReadyH.cons rfl (fun K hK => ?_) ?_
     ·(refine (if_pos (by kernel_rfl)).mpr ?_); (first | ((with_reducible refine wp_store_sc ((ptS { s with wrap := false }).gr A' n' c') w2.heap.size (.tmp 9) (.tmp 75) ?ho3 ?_ ?_ ?_ ?_); (case ho3 => rfl); (focus rfl); (focus rfl); (focus (exact ⟨_, heap_at (by simp), rfl⟩))) | ((with_reducible refine wp_store_sc ((ptS { s with wrap := false }).gr A' n' c') w8.heap.size (.tmp 9) (.tmp 75) ?ho3 ?_ ?_ ?_ ?_); (case ho3 => rfl); (focus rfl); (focus rfl); (focus (exact sb_boxed HBB.out rfl))) | ((with_reducible refine wp_store_sc ((ptS { s with wrap := false }).gr A' n' c') w8.heap.size (.tmp 9) (.tmp 75) ?ho3 ?_ ?_ ?_ ?_); (case ho3 => rfl); (focus rfl); (focus rfl); (focus (exact sb_boxed2 HBB.out rfl)))); intro w6 hS6 hg6; have HS6 := Lib.hid hS6; have HG6 := Lib.hid hg6; clear hS6 hg6
      refine hK.out _ _ ?_ (fun hHeld => ?_)
      ·(try dsimp only); (first | (refine HY.out _ ?_; (repeat (first | with_reducible (first | assumption | exact Bw.refl _ | refine Bw.alloc ?_ _ | refine Bw.more ?_ _ _ | refine Bw.drew ?_ | refine Bw.drewN ?_ _) | ((with_reducible refine Bw.set2 ?_ ?_ _); (focus exact SZX)) | with_reducible refine Bw.trans ?_ (by assumption))); done) | exact hHeld | exact hHeld.far HG6.out (fun e => by have e3 := Option.some.inj e; (try simp only [szA, szS, szD, szN] at e3); omega))
      clear hK K
      (try simp only [Act.put, zP1, zP2, zP3, zP4, zP5, zP6])
      refine wpAnyH_ready (rs := [11]) (by kernel_rfl) (by simp) ?_
      refine AllReadyH.cons rfl (fun K hK => ?_) ?_
      ·go_simp
       refine hK.out _ _ ?_ (fun hHeld => ?_)
       ·(try dsimp only); (first | (refine HY.out _ ?_; (repeat (first | with_reducible (first | assumption | exact Bw.refl _ | refine Bw.alloc ?_ _ | refine Bw.more ?_ _ _ | refine Bw.drew ?_ | refine Bw.drewN ?_ _) | ((with_reducible refine Bw.set2 ?_ ?_ _); (focus exact SZX)) | with_reducible refine Bw.trans ?_ (by assumption))); done) | exact hHeld | exact hHeld.far HG6.out (fun e => by have e3 := Option.some.inj e; (try simp only [szA, szS, szD, szN] at e3); omega))
       clear hK K
       (try simp only [Act.put, zP1, zP2, zP3, zP4, zP5, zP6])
       refine wpAnyH_done (by kernel_rfl) ?_ _
       go_wp2_with fail
       go_meet
       case rel =>
        have hOk2 : ((ptS { s with wrap := false }).gr A' n' c').Ok w2 := Scr.Ok.of (s := (ptS { s with wrap := false }).gr A' n' c') (ptS_ok HOK8.out.num) HR2.out hn2 hc2 (by show gridB (ptS { s with wrap := false }).Rn (ptS { s with wrap := false }).Cn (ptC { s with wrap := false } cs x) = true; rw [(ptS_nums { s with wrap := false }).1, (ptS_nums { s with wrap := false }).2.1]; exact ptC_ok (s := { s with wrap := false }) HGB.out)
        have hl2 := hOk2.1.lt
        have hlo := HOK8.out.1.lt
        refine ⟨A', n', c', L, k', _, rfl, rfl, HS6.out, ?_, hn2, hc2, ?_⟩
        ·refine Rg.far ?_ HG6.out (fun ad e e2 => ?_)
         ·refine HR2.out.up ?_
          (repeat (first | with_reducible (first | assumption | exact Bw.refl _ | refine Bw.alloc ?_ _ | refine Bw.more ?_ _ _ | refine Bw.drew ?_ | refine Bw.drewN ?_ _) | ((with_reducible refine Bw.set2 ?_ ?_ _); (focus exact SZX)) | with_reducible refine Bw.trans ?_ (by assumption)))
         ·have e3 := Option.some.inj e2
          have h1 := hl2 ad e
          rcases HA2s.out with h | h
          ·have h2 := hlo ad (h ▸ e)
           (try simp only [szA, szS, szD, szN] at e3)
           omega
          ·have h2 := h ad e
           (try simp only [szA, szS, szD, szN] at e3 h2)
           omega
        ·refine Bw.grown ?_ HG6.out (fun j hj => by cases hj; first | omega | (simp only [szA, szS, szD, szN]; omega))
         (repeat (first | with_reducible (first | assumption | exact Bw.refl _ | refine Bw.alloc ?_ _ | refine Bw.more ?_ _ _ | refine Bw.drew ?_ | refine Bw.drewN ?_ _) | ((with_reducible refine Bw.set2 ?_ ?_ _); (focus exact SZX)) | with_reducible refine Bw.trans ?_ (by assumption)))
      exact AllReadyH.nil
     exact AllReadyH.nil
    exact AllReadyH.nil
   exact AllReadyH.nil
  exact AllReadyH.nil
 case rest =>
 obtain ⟨A', n', c', L, k', gb, rfl, rfl, hSb, hrb, hnb2, hcb, hb10⟩ := hcut
 obtain ⟨w10, hw10⟩ : ∃ w10 : World, w10 = wc := ⟨_, rfl⟩
 subst hw10
 have hlen : n' = s.n := by
  have h1 := hrb.1
  have h2 := HRS.out.1
  have h3 : (ptC { s with wrap := false } cs x).length = cs.length := by unfold ptC; rw [fillG_len]; rfl
  omega
 subst hlen
 have HSb := Lib.hid hSb
 have HRb := Lib.hid hrb
 have HB10 := Lib.hid hb10
 have HS10 := Lib.hid (HS8.out.up hb10)
 have HR10 := Lib.hid (HR8.out.up hb10)
 have hz10 := hb10.size
 have hltb := hSb.lt
 have hlt10 := HS10.out.lt
 have hC2 : (s.Cn : Int) ≤ 9 := by omega
 have hrow : 0 ≤ s.row ∧ s.row < s.Rn := ⟨HSX.out.2.1.1, HSX.out.2.1.2.1⟩
 have hcol : 0 ≤ s.col ∧ s.col < s.Cn := HSX.out.2.1.2.2
 obtain ⟨p, hp⟩ : ∃ p : Nat, s.row * (s.Cn : Int) = p := ⟨(s.row * (s.Cn : Int)).toNat, by have := Int.mul_nonneg hrow.1 (show (0 : Int) ≤ s.Cn by omega); omega⟩
 have hp5 : (p : Int) ≤ 45 := by
  have h1 := Int.mul_le_mul (show s.row ≤ 5 by omega) hC2 (by omega) (show (0 : Int) ≤ 5 by omega)
  omega
 obtain ⟨at_, hat⟩ : ∃ at_ : Nat, (p : Int) + s.col = at_ := ⟨((p : Int) + s.col).toNat, by omega⟩
 have HAT := Lib.hid (show s.row * (s.Cn : Int) + s.col = at_ by rw [hp]; exact hat)
 have HPP := Lib.hid (show IntKind.i64.wrap (IntKind.i64.wrap (s.row * (s.Cn : Int)) + s.col) = at_ by rw [hp, IntWalk.i64_in (p : Int) (by omega), IntWalk.i64_in _ (by omega), hat])
 have HP2 := Lib.hid (show IntKind.i64.wrap (s.row * (s.Cn : Int) + s.col) = at_ by rw [hp, IntWalk.i64_in _ (by omega), hat])
 have x3 := HS10.out.cell 3 (v := .int .i64 s.row) rfl
 have x1 := HS10.out.cell 1 (v := .int .i64 (s.Cn : Int)) rfl
 have x4 := HS10.out.cell 4 (v := .int .i64 s.col) rfl
 have HRC := Lib.hid (And.intro hrow hcol)
 have HPB := Lib.hid (show 0 ≤ s.row * (s.Cn : Int) ∧ s.row * (s.Cn : Int) ≤ 45 by rw [hp]; omega)
 clear hSb hrb hb10 hat hp hp5 hrow hcol hC2 hm0 hm1 hx0 hx1 HR8 HS8
 go_upto_region 10 with (fail)
 go_cut [11] (fun v w' => v = .int .i64 (at_ : Int) ∧ w10 = w')
 case first =>
  have hm0 : (0 : Int) ≤ s.row * (s.Cn : Int) := HPB.out.1
  have hm1 : s.row * (s.Cn : Int) ≤ 45 := HPB.out.2
  have hc0 : (0 : Int) ≤ s.col := HRC.out.2.1
  have hc1 : s.col < 9 := by have := HRC.out.2.2; omega
  go_wp2_with fail
  go_meet
  case rel => exact ⟨congrArg (Value.int .i64) (by first | exact HAT.out | exact HPP.out | exact HP2.out), rfl⟩
 case rest =>
 obtain ⟨rfl, rfl⟩ := hcut
 have x2 := HS10.out.cell 2 (v := .slice s.A s.n s.c) rfl
 have y2 := HSb.out.cell 2 (v := .slice A' s.n c') rfl
 clear x3 x1 x4
 go_wp2_with fail
 go_loopw [106] (fun i wr => ∃ k : Nat, i = .int .i64 k ∧ k ≤ s.n ∧ Bw w10 wr) (fun i _ => s.n - (intOf i).toNat)
 case atStart => exact ⟨0, rfl, by omega, BWX⟩
 case round =>
  obtain ⟨wz, hwz⟩ : ∃ wz : World, wz = wr := ⟨_, rfl⟩
  subst hwz
  obtain ⟨k, rfl, hk, hbz⟩ := hrel
  have HBZ := Lib.hid hbz
  by_cases hlt : k < s.n
  ·have hcl := (HRb.out.up hbz)
   obtain ⟨g1, o1, e1, hx1⟩ := hcl.2 (by omega)
   obtain ⟨g2, o2, e2, hx2⟩ := (HR10.out.up hbz).2 (by show 0 < s.n; omega)
   have hk1 : k < (ptC { s with wrap := false } cs x).length := by rw [HRb.out.1]; exact hlt
   have hk2 : k < cs.length := by rw [HRS.out.1]; exact hlt
   have hv := fill_at (cs := cs) (d := (x, s.f, s.g, s.b)) HGB.out HCV.out HRC.out.1 HRC.out.2 k (by rw [← HOK.out.1.2.2.2.2.1]; exact hlt)
   rw [HAT.out] at hv
   have h1 := hx1 k hk1
   have h2 := hx2 k hk2
   have hv2 : (ptC { s with wrap := false } cs x)[k] = if (k : Int) = (at_ : Int) then (x, s.f, s.g, s.b) else cs.getD k (x, s.f, s.g, s.b) := by
    have h3 : (ptC { s with wrap := false } cs x)[k]? = _ := hv
    rw [List.getElem?_eq_getElem hk1] at h3
    exact Option.some.inj h3
   rw [hv2] at h1
   have e0 : (0 : Int) ≤ k := by omega
   have e3 : (k : Int) < s.n := by omega
   have hzz := HBZ.out.size
   have hltz := HS10.out.up HBZ.out
   have x5' := hltz.cell 2 (v := .slice s.A s.n s.c) rfl
   have x6 := hltz.cell 6 (v := .int .i64 s.f) rfl
   have x7 := hltz.cell 7 (v := .int .i64 s.g) rfl
   have x8 := hltz.cell 8 (v := .int .i64 s.b) rfl
   rw [e2] at x5'
   clear e2
   have HW := Lib.hid (And.intro x5' (And.intro x6 (And.intro x7 x8)))
   have hkn : (k : Int) < (s.n : Int) := e3
   clear hx1 hx2 hcl hbz hltz x5' x6 x7 x8 hv hv2
   subst e1
   by_cases hka : (k : Int) = (at_ : Int)
   ·rw [if_pos hka] at h1
    obtain ⟨a0, a1, a2, a3⟩ := h1
    dsimp only at a0 a1 a2 a3
    have ck : ((k : Int) == (at_ : Int)) = true := by simpa using hka
    have HKA := Lib.hid hka
    clear hka h2 hk2 hk1
    go_upto_region 16 with (fail)
    generalize hwx : wz.alloc (.cells #[.int .i64 x, .int .i64 s.f, .int .i64 s.g, .int .i64 s.b] 53) = wx
    obtain ⟨hbx, hbwx, hzx⟩ := sb1 hwx
    have HBX := Lib.hid hbx
    have HBWX := Lib.hid (Bw.trans HBZ.out hbwx)
    have HY := Lib.hid (show ∀ w', Bw wx w' → (w'.cell? ⟨wz.heap.size, 0, none⟩ = some (.int .i64 x) ∧ w'.cell? ⟨wz.heap.size, 1, none⟩ = some (.int .i64 s.f) ∧ w'.cell? ⟨wz.heap.size, 2, none⟩ = some (.int .i64 s.g) ∧ w'.cell? ⟨wz.heap.size, 3, none⟩ = some (.int .i64 s.b) ∧ w'.cell? ⟨gs, 6, none⟩ = some (.int .i64 s.f) ∧ w'.cell? ⟨gs, 7, none⟩ = some (.int .i64 s.g) ∧ w'.cell? ⟨gs, 8, none⟩ = some (.int .i64 s.b)) from fun w' hb => ⟨(HBX.out.up hb).cell 0 rfl, (HBX.out.up hb).cell 1 rfl, (HBX.out.up hb).cell 2 rfl, (HBX.out.up hb).cell 3 rfl, cell_up (cell_up HW.out.2.1 hbwx) hb, cell_up (cell_up HW.out.2.2.1 hbwx) hb, cell_up (cell_up HW.out.2.2.2 hbwx) hb⟩)
    clear hwx hbx hzx a0 a1 a2 a3
    refine wp_region_held_drew (S := (fun w' => w'.cell? ⟨wz.heap.size, 0, none⟩ = some (.int .i64 x) ∧ w'.cell? ⟨wz.heap.size, 1, none⟩ = some (.int .i64 s.f) ∧ w'.cell? ⟨wz.heap.size, 2, none⟩ = some (.int .i64 s.g) ∧ w'.cell? ⟨wz.heap.size, 3, none⟩ = some (.int .i64 s.b) ∧ w'.cell? ⟨gs, 6, none⟩ = some (.int .i64 s.f) ∧ w'.cell? ⟨gs, 7, none⟩ = some (.int .i64 s.g) ∧ w'.cell? ⟨gs, 8, none⟩ = some (.int .i64 s.b))) (by kernel_rfl) ?_ (fun hHeld => ?_)
    ·(try dsimp only); (refine HY.out _ ?_; exact BWX)
    refine tkH 0 ?_ rfl (Or.inl ⟨by rfl, ?ht0⟩) ?_
    case ht0 => (intro w hSw; (try dsimp only at hSw); go_simp; try with_reducible rfl)
    (try simp only [Act.put, zP1, zP2, zP3, zP4, zP5, zP6])
    refine tkH 1 ?_ rfl (Or.inl ⟨by rfl, ?ht1⟩) ?_
    case ht1 => (intro w hSw; (try dsimp only at hSw); go_simp; try with_reducible rfl)
    (try simp only [Act.put, zP1, zP2, zP3, zP4, zP5, zP6])
    refine tkH 2 ?_ rfl (Or.inl ⟨by rfl, ?ht2⟩) ?_
    case ht2 => (intro w hSw; (try dsimp only at hSw); go_simp; try with_reducible rfl)
    (try simp only [Act.put, zP1, zP2, zP3, zP4, zP5, zP6])
    refine tkH 3 ?_ rfl (Or.inl ⟨by rfl, ?ht3⟩) ?_
    case ht3 => (intro w hSw; (try dsimp only at hSw); go_simp; try with_reducible rfl)
    (try simp only [Act.put, zP1, zP2, zP3, zP4, zP5, zP6])
    refine tkH 4 ?_ rfl (Or.inl ⟨by rfl, ?ht4⟩) ?_
    case ht4 => (intro w hSw; (try dsimp only at hSw); go_simp; try with_reducible rfl)
    (try simp only [Act.put, zP1, zP2, zP3, zP4, zP5, zP6])
    refine tkH 5 ?_ rfl (Or.inl ⟨by rfl, ?ht5⟩) ?_
    case ht5 => (intro w hSw; (try dsimp only at hSw); go_simp; try with_reducible rfl)
    (try simp only [Act.put, zP1, zP2, zP3, zP4, zP5, zP6])
    refine tkH 8 ?_ rfl (Or.inl ⟨by rfl, ?ht8⟩) ?_
    case ht8 => (intro w hSw; (try dsimp only at hSw); go_simp; try with_reducible rfl)
    (try simp only [Act.put, zP1, zP2, zP3, zP4, zP5, zP6])
    refine tkH 9 ?_ rfl (Or.inl ⟨by rfl, ?ht9⟩) ?_
    case ht9 => (intro w hSw; (try dsimp only at hSw); go_simp; try with_reducible rfl)
    (try simp only [Act.put, zP1, zP2, zP3, zP4, zP5, zP6])
    refine wpAnyH_ready (rs := [6]) (by kernel_rfl) (by simp) ?_
    refine AllReadyH.cons rfl (fun K hK => ?_) ?_
    ·go_simp
     refine (mmod_any _ _ _ (by omega) (by omega)).mono ?_; rintro ee ww ⟨rfl, rfl⟩; go_wp2_with fail
     refine hK.out _ _ ?_ (fun hHeld => ?_)
     ·(try dsimp only); (refine HY.out _ ?_; exact BWX)
     clear hK K
     (try simp only [Act.put, zP1, zP2, zP3, zP4, zP5, zP6])
     refine wpAnyH_take (i := 7) (v := .int .i64 x) rfl (by kernel_rfl) (by kernel_rfl) (by kernel_rfl) (fun _ _ _ h => h) (Or.inl ⟨by rfl, ?ht7⟩) (by assumption) ?_; case ht7 => (intro w hSw; (try dsimp only at hSw); go_simp; rw [HXW.out])
     (try simp only [Act.put, zP1, zP2, zP3, zP4, zP5, zP6])
     refine tkH 10 ?_ rfl (Or.inl ⟨by rfl, ?ht10⟩) ?_
     case ht10 => (intro w hSw; (try dsimp only at hSw); go_simp; try with_reducible rfl)
     (try simp only [Act.put, zP1, zP2, zP3, zP4, zP5, zP6])
     refine tkH 11 ?_ rfl (Or.inl ⟨by rfl, ?ht11⟩) ?_
     case ht11 => (intro w hSw; (try dsimp only at hSw); go_simp; try with_reducible rfl)
     (try simp only [Act.put, zP1, zP2, zP3, zP4, zP5, zP6])
     refine tkH 12 ?_ rfl (Or.inl ⟨by rfl, ?ht12⟩) ?_
     case ht12 => (intro w hSw; (try dsimp only at hSw); go_simp; try with_reducible rfl)
     (try simp only [Act.put, zP1, zP2, zP3, zP4, zP5, zP6])
     refine tkH 13 ?_ rfl (Or.inl ⟨by rfl, ?ht13⟩) ?_
     case ht13 => (intro w hSw; (try dsimp only at hSw); go_simp; try with_reducible rfl)
     (try simp only [Act.put, zP1, zP2, zP3, zP4, zP5, zP6])
     refine tkH 14 ?_ rfl (Or.inl ⟨by rfl, ?ht14⟩) ?_
     case ht14 => (intro w hSw; (try dsimp only at hSw); go_simp; try with_reducible rfl)
     (try simp only [Act.put, zP1, zP2, zP3, zP4, zP5, zP6])
     refine tkH 15 ?_ rfl (Or.inl ⟨by rfl, ?ht15⟩) ?_
     case ht15 => (intro w hSw; (try dsimp only at hSw); go_simp; try with_reducible rfl)
     (try simp only [Act.put, zP1, zP2, zP3, zP4, zP5, zP6])
     refine wpAnyH_take (i := 16) (v := .bool false) rfl (by kernel_rfl) (by kernel_rfl) (by kernel_rfl) (fun _ _ _ h => h) (Or.inl ⟨by rfl, ?ht16⟩) (by assumption) ?_; case ht16 => (intro w hSw; (try dsimp only at hSw); go_simp; (first | exact HKA.out | rfl | simp [HKA.out]))
     (try simp only [Act.put, zP1, zP2, zP3, zP4, zP5, zP6])
     refine tkH 17 ?_ rfl (Or.inl ⟨by rfl, ?ht17⟩) ?_
     case ht17 => (intro w hSw; (try dsimp only at hSw); go_simp; try with_reducible rfl)
     (try simp only [Act.put, zP1, zP2, zP3, zP4, zP5, zP6])
     refine wpAnyH_take (i := 18) (v := undef) rfl (by kernel_rfl) (by kernel_rfl) (by kernel_rfl) (fun _ _ _ h => h) (Or.inr ⟨by rfl, rfl⟩) (by assumption) ?_
     (try simp only [Act.put, zP1, zP2, zP3, zP4, zP5, zP6])
     refine wpAnyH_take (i := 19) (v := undef) rfl (by kernel_rfl) (by kernel_rfl) (by kernel_rfl) (fun _ _ _ h => h) (Or.inr ⟨by rfl, rfl⟩) (by assumption) ?_
     (try simp only [Act.put, zP1, zP2, zP3, zP4, zP5, zP6])
     refine wpAnyH_take (i := 20) (v := undef) rfl (by kernel_rfl) (by kernel_rfl) (by kernel_rfl) (fun _ _ _ h => h) (Or.inr ⟨by rfl, rfl⟩) (by assumption) ?_
     (try simp only [Act.put, zP1, zP2, zP3, zP4, zP5, zP6])
     refine wpAnyH_take (i := 21) (v := undef) rfl (by kernel_rfl) (by kernel_rfl) (by kernel_rfl) (fun _ _ _ h => h) (Or.inr ⟨by rfl, rfl⟩) (by assumption) ?_
     (try simp only [Act.put, zP1, zP2, zP3, zP4, zP5, zP6])
     refine wpAnyH_take (i := 22) (v := undef) rfl (by kernel_rfl) (by kernel_rfl) (by kernel_rfl) (fun _ _ _ h => h) (Or.inr ⟨by rfl, rfl⟩) (by assumption) ?_
     (try simp only [Act.put, zP1, zP2, zP3, zP4, zP5, zP6])
     refine wpAnyH_take (i := 23) (v := undef) rfl (by kernel_rfl) (by kernel_rfl) (by kernel_rfl) (fun _ _ _ h => h) (Or.inr ⟨by rfl, rfl⟩) (by assumption) ?_
     (try simp only [Act.put, zP1, zP2, zP3, zP4, zP5, zP6])
     refine wpAnyH_take (i := 24) (v := undef) rfl (by kernel_rfl) (by kernel_rfl) (by kernel_rfl) (fun _ _ _ h => h) (Or.inr ⟨by rfl, rfl⟩) (by assumption) ?_
     (try simp only [Act.put, zP1, zP2, zP3, zP4, zP5, zP6])
     refine wpAnyH_take (i := 25) (v := undef) rfl (by kernel_rfl) (by kernel_rfl) (by kernel_rfl) (fun _ _ _ h => h) (Or.inr ⟨by rfl, rfl⟩) (by assumption) ?_
     (try simp only [Act.put, zP1, zP2, zP3, zP4, zP5, zP6])
     refine tkH 26 ?_ rfl (Or.inl ⟨by rfl, ?ht26⟩) ?_
     case ht26 => (intro w hSw; (try dsimp only at hSw); go_simp; try with_reducible rfl)
     (try simp only [Act.put, zP1, zP2, zP3, zP4, zP5, zP6])
     refine tkH 27 ?_ rfl (Or.inl ⟨by rfl, ?ht27⟩) ?_
     case ht27 => (intro w hSw; (try dsimp only at hSw); go_simp; try with_reducible rfl)
     (try simp only [Act.put, zP1, zP2, zP3, zP4, zP5, zP6])
     refine wpAnyH_done (by kernel_rfl) ?_ _
     go_wp2_with fail
     go_roundw
     case rel => exact ⟨k + 1, by go_num, by omega, Bw.trans HBWX.out BWX⟩
     case measure => simp [intOf]; omega
    exact AllReadyH.nil
   ·rw [if_neg hka, List.getD_eq_getElem?_getD, List.getElem?_eq_getElem (show k < cs.length by rw [HRS.out.1]; exact hlt), Option.getD_some] at h1
    obtain ⟨⟨d1, d2, d3, d4⟩, hd⟩ : ∃ d, d = cs[k]'(by rw [HRS.out.1]; exact hlt) := ⟨_, rfl⟩
    rw [← hd] at h1 h2
    obtain ⟨a0, a1, a2, a3⟩ := h1
    obtain ⟨b0, b1, b2, b3⟩ := h2
    dsimp only at a0 a1 a2 a3 b0 b1 b2 b3
    have HBC := Lib.hid (And.intro b0 (And.intro b1 (And.intro b2 b3)))
    have ck : ((k : Int) == (at_ : Int)) = false := by simpa using hka
    have HKA := Lib.hid hka
    clear hka hd b0 b1 b2 b3 hk2 hk1
    go_upto_region 16 with (fail)
    generalize hwx : wz.alloc (.cells #[.int .i64 d1, .int .i64 d2, .int .i64 d3, .int .i64 d4] 53) = wx
    obtain ⟨hbx, hbwx, hzx⟩ := sb1 hwx
    have HBX := Lib.hid hbx
    have HBWX := Lib.hid (Bw.trans HBZ.out hbwx)
    have HY := Lib.hid (show ∀ w', Bw wx w' → (w'.cell? ⟨wz.heap.size, 0, none⟩ = some (.int .i64 d1) ∧ w'.cell? ⟨wz.heap.size, 1, none⟩ = some (.int .i64 d2) ∧ w'.cell? ⟨wz.heap.size, 2, none⟩ = some (.int .i64 d3) ∧ w'.cell? ⟨wz.heap.size, 3, none⟩ = some (.int .i64 d4) ∧ w'.cell? ⟨gs, 2, none⟩ = some (.slice (some ⟨g2, o2, none⟩) s.n s.c) ∧ w'.cell? ⟨g2, o2 + k * 4, none⟩ = some (.int .i64 d1) ∧ w'.cell? ⟨g2, o2 + k * 4 + 1, none⟩ = some (.int .i64 d2) ∧ w'.cell? ⟨g2, o2 + k * 4 + 2, none⟩ = some (.int .i64 d3) ∧ w'.cell? ⟨g2, o2 + k * 4 + 3, none⟩ = some (.int .i64 d4)) from fun w' hb => ⟨(HBX.out.up hb).cell 0 rfl, (HBX.out.up hb).cell 1 rfl, (HBX.out.up hb).cell 2 rfl, (HBX.out.up hb).cell 3 rfl, cell_up (cell_up HW.out.1 hbwx) hb, cell_up (cell_up HBC.out.1 hbwx) hb, cell_up (cell_up HBC.out.2.1 hbwx) hb, cell_up (cell_up HBC.out.2.2.1 hbwx) hb, cell_up (cell_up HBC.out.2.2.2 hbwx) hb⟩)
    clear hwx hbx hzx a0 a1 a2 a3
    refine wp_region_held_drew (S := (fun w' => w'.cell? ⟨wz.heap.size, 0, none⟩ = some (.int .i64 d1) ∧ w'.cell? ⟨wz.heap.size, 1, none⟩ = some (.int .i64 d2) ∧ w'.cell? ⟨wz.heap.size, 2, none⟩ = some (.int .i64 d3) ∧ w'.cell? ⟨wz.heap.size, 3, none⟩ = some (.int .i64 d4) ∧ w'.cell? ⟨gs, 2, none⟩ = some (.slice (some ⟨g2, o2, none⟩) s.n s.c) ∧ w'.cell? ⟨g2, o2 + k * 4, none⟩ = some (.int .i64 d1) ∧ w'.cell? ⟨g2, o2 + k * 4 + 1, none⟩ = some (.int .i64 d2) ∧ w'.cell? ⟨g2, o2 + k * 4 + 2, none⟩ = some (.int .i64 d3) ∧ w'.cell? ⟨g2, o2 + k * 4 + 3, none⟩ = some (.int .i64 d4))) (by kernel_rfl) ?_ (fun hHeld => ?_)
    ·(try dsimp only); (refine HY.out _ ?_; exact BWX)
    refine tkH 0 ?_ rfl (Or.inl ⟨by rfl, ?ht0⟩) ?_
    case ht0 => (intro w hSw; (try dsimp only at hSw); go_simp; try with_reducible rfl)
    (try simp only [Act.put, zP1, zP2, zP3, zP4, zP5, zP6])
    refine tkH 1 ?_ rfl (Or.inl ⟨by rfl, ?ht1⟩) ?_
    case ht1 => (intro w hSw; (try dsimp only at hSw); go_simp; try with_reducible rfl)
    (try simp only [Act.put, zP1, zP2, zP3, zP4, zP5, zP6])
    refine tkH 2 ?_ rfl (Or.inl ⟨by rfl, ?ht2⟩) ?_
    case ht2 => (intro w hSw; (try dsimp only at hSw); go_simp; try with_reducible rfl)
    (try simp only [Act.put, zP1, zP2, zP3, zP4, zP5, zP6])
    refine tkH 3 ?_ rfl (Or.inl ⟨by rfl, ?ht3⟩) ?_
    case ht3 => (intro w hSw; (try dsimp only at hSw); go_simp; try with_reducible rfl)
    (try simp only [Act.put, zP1, zP2, zP3, zP4, zP5, zP6])
    refine wpAnyH_take (i := 4) (v := undef) rfl (by kernel_rfl) (by kernel_rfl) (by kernel_rfl) (fun _ _ _ h => h) (Or.inr ⟨by rfl, rfl⟩) (by assumption) ?_
    (try simp only [Act.put, zP1, zP2, zP3, zP4, zP5, zP6])
    refine wpAnyH_take (i := 5) (v := undef) rfl (by kernel_rfl) (by kernel_rfl) (by kernel_rfl) (fun _ _ _ h => h) (Or.inr ⟨by rfl, rfl⟩) (by assumption) ?_
    (try simp only [Act.put, zP1, zP2, zP3, zP4, zP5, zP6])
    refine wpAnyH_take (i := 6) (v := undef) rfl (by kernel_rfl) (by kernel_rfl) (by kernel_rfl) (fun _ _ _ h => h) (Or.inr ⟨by rfl, rfl⟩) (by assumption) ?_
    (try simp only [Act.put, zP1, zP2, zP3, zP4, zP5, zP6])
    refine wpAnyH_take (i := 7) (v := undef) rfl (by kernel_rfl) (by kernel_rfl) (by kernel_rfl) (fun _ _ _ h => h) (Or.inr ⟨by rfl, rfl⟩) (by assumption) ?_
    (try simp only [Act.put, zP1, zP2, zP3, zP4, zP5, zP6])
    refine wpAnyH_take (i := 8) (v := undef) rfl (by kernel_rfl) (by kernel_rfl) (by kernel_rfl) (fun _ _ _ h => h) (Or.inr ⟨by rfl, rfl⟩) (by assumption) ?_
    (try simp only [Act.put, zP1, zP2, zP3, zP4, zP5, zP6])
    refine wpAnyH_take (i := 9) (v := undef) rfl (by kernel_rfl) (by kernel_rfl) (by kernel_rfl) (fun _ _ _ h => h) (Or.inr ⟨by rfl, rfl⟩) (by assumption) ?_
    (try simp only [Act.put, zP1, zP2, zP3, zP4, zP5, zP6])
    refine wpAnyH_take (i := 10) (v := undef) rfl (by kernel_rfl) (by kernel_rfl) (by kernel_rfl) (fun _ _ _ h => h) (Or.inr ⟨by rfl, rfl⟩) (by assumption) ?_
    (try simp only [Act.put, zP1, zP2, zP3, zP4, zP5, zP6])
    refine wpAnyH_take (i := 11) (v := undef) rfl (by kernel_rfl) (by kernel_rfl) (by kernel_rfl) (fun _ _ _ h => h) (Or.inr ⟨by rfl, rfl⟩) (by assumption) ?_
    (try simp only [Act.put, zP1, zP2, zP3, zP4, zP5, zP6])
    refine tkH 12 ?_ rfl (Or.inl ⟨by rfl, ?ht12⟩) ?_
    case ht12 => (intro w hSw; (try dsimp only at hSw); go_simp; try with_reducible rfl)
    (try simp only [Act.put, zP1, zP2, zP3, zP4, zP5, zP6])
    refine tkH 13 ?_ rfl (Or.inl ⟨by rfl, ?ht13⟩) ?_
    case ht13 => (intro w hSw; (try dsimp only at hSw); go_simp; try with_reducible rfl)
    (try simp only [Act.put, zP1, zP2, zP3, zP4, zP5, zP6])
    refine tkH 14 ?_ rfl (Or.inl ⟨by rfl, ?ht14⟩) ?_
    case ht14 => (intro w hSw; (try dsimp only at hSw); go_simp; try with_reducible rfl)
    (try simp only [Act.put, zP1, zP2, zP3, zP4, zP5, zP6])
    refine tkH 15 ?_ rfl (Or.inl ⟨by rfl, ?ht15⟩) ?_
    case ht15 => (intro w hSw; (try dsimp only at hSw); go_simp; try with_reducible rfl)
    (try simp only [Act.put, zP1, zP2, zP3, zP4, zP5, zP6])
    refine wpAnyH_take (i := 16) (v := .bool true) rfl (by kernel_rfl) (by kernel_rfl) (by kernel_rfl) (fun _ _ _ h => h) (Or.inl ⟨by rfl, ?ht16⟩) (by assumption) ?_; case ht16 => (intro w hSw; (try dsimp only at hSw); go_simp; (first | exact HKA.out | rfl | simp [HKA.out]))
    (try simp only [Act.put, zP1, zP2, zP3, zP4, zP5, zP6])
    refine tkH 17 ?_ rfl (Or.inl ⟨by rfl, ?ht17⟩) ?_
    case ht17 => (intro w hSw; (try dsimp only at hSw); go_simp; try with_reducible rfl)
    (try simp only [Act.put, zP1, zP2, zP3, zP4, zP5, zP6])
    refine tkH 18 ?_ rfl (Or.inl ⟨by rfl, ?ht18⟩) ?_
    case ht18 => (intro w hSw; (try dsimp only at hSw); go_simp; try with_reducible rfl)
    (try simp only [Act.put, zP1, zP2, zP3, zP4, zP5, zP6])
    refine tkH 19 ?_ rfl (Or.inl ⟨by rfl, ?ht19⟩) ?_
    case ht19 => (intro w hSw; (try dsimp only at hSw); go_simp; try with_reducible rfl)
    (try simp only [Act.put, zP1, zP2, zP3, zP4, zP5, zP6])
    refine tkH 20 ?_ rfl (Or.inl ⟨by rfl, ?ht20⟩) ?_
    case ht20 => (intro w hSw; (try dsimp only at hSw); go_simp; try with_reducible rfl)
    (try simp only [Act.put, zP1, zP2, zP3, zP4, zP5, zP6])
    refine tkH 21 ?_ rfl (Or.inl ⟨by rfl, ?ht21⟩) ?_
    case ht21 => (intro w hSw; (try dsimp only at hSw); go_simp; try with_reducible rfl)
    (try simp only [Act.put, zP1, zP2, zP3, zP4, zP5, zP6])
    refine tkH 22 ?_ rfl (Or.inl ⟨by rfl, ?ht22⟩) ?_
    case ht22 => (intro w hSw; (try dsimp only at hSw); go_simp; try with_reducible rfl)
    (try simp only [Act.put, zP1, zP2, zP3, zP4, zP5, zP6])
    refine tkH 23 ?_ rfl (Or.inl ⟨by rfl, ?ht23⟩) ?_
    case ht23 => (intro w hSw; (try dsimp only at hSw); go_simp; try with_reducible rfl)
    (try simp only [Act.put, zP1, zP2, zP3, zP4, zP5, zP6])
    refine tkH 24 ?_ rfl (Or.inl ⟨by rfl, ?ht24⟩) ?_
    case ht24 => (intro w hSw; (try dsimp only at hSw); go_simp; try with_reducible rfl)
    (try simp only [Act.put, zP1, zP2, zP3, zP4, zP5, zP6])
    refine tkH 25 ?_ rfl (Or.inl ⟨by rfl, ?ht25⟩) ?_
    case ht25 => (intro w hSw; (try dsimp only at hSw); go_simp; try with_reducible rfl)
    (try simp only [Act.put, zP1, zP2, zP3, zP4, zP5, zP6])
    refine tkH 26 ?_ rfl (Or.inl ⟨by rfl, ?ht26⟩) ?_
    case ht26 => (intro w hSw; (try dsimp only at hSw); go_simp; try with_reducible rfl)
    (try simp only [Act.put, zP1, zP2, zP3, zP4, zP5, zP6])
    refine tkH 27 ?_ rfl (Or.inl ⟨by rfl, ?ht27⟩) ?_
    case ht27 => (intro w hSw; (try dsimp only at hSw); go_simp; try with_reducible rfl)
    (try simp only [Act.put, zP1, zP2, zP3, zP4, zP5, zP6])
    refine wpAnyH_done (by kernel_rfl) ?_ _
    go_wp2_with fail
    go_roundw
    case rel => exact ⟨k + 1, by go_num, by omega, Bw.trans HBWX.out BWX⟩
    case measure => simp [intOf]; omega
  ·obtain rfl : k = s.n := by omega
   go_wp2_with fail
   go_ret
   exact ⟨rfl, Bw.trans HB8.out (Bw.trans HB10.out HBZ.out)⟩
end Go.Proofs.YtkflooljdopldaaGreat
