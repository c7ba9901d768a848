/- Parts of the proof, one after the other. -/
import Derived.Test.YtmkpefielfinjaaDoorL01
import Derived.Lib.ItoaNum
import Derived.Lib.ItoaLen
set_option linter.unusedSimpArgs false
set_option linter.unusedVariables false
/- Compose: the reference's decimal numbers. -/
namespace Go.Proofs.YtmkpefielfinjaaDoor
open Go.RowKit

theorem conv_bytes {w : World} {A : Option Addr} {n cap : Nat} {l : List UInt8} {zs : List Int} (hb : zs = l.map fun b => (b.toNat : Int)) (h : Rd (.int .u8) w A n zs) : (convert 48 9 (.slice A n cap)).run Tryd.prog w = .ok (.string (bs l)) w := by
  subst hb
  have e : strOfNums (l.map fun b => (b.toNat : Int)) = bs l := by
    unfold strOfNums bs
    congr 1
    congr 1
    rw [List.map_map]
    conv => rhs; rw [← List.map_id l]
    apply List.map_congr_left
    intro b _
    simp
  rw [← e]
  rcases Nat.eq_zero_or_pos n with h0 | h0
  · have hb : l = [] := List.eq_nil_of_length_eq_zero (by have := h.1; simpa [h0] using this)
    subst hb
    subst h0
    cases A with
    | none => exact run_convert_bytes_nil w _ _ Tryd.underlying48 Tryd.underlying5 _ _ _ Tryd.underlying9
    | some a =>
      rw [run_convert_bytes_string w _ _ _ _ _ _ Tryd.underlying48 Tryd.underlying5 Tryd.underlying9, run_bytesToString w a 0 cap [] (by kernel_rfl)]
      rfl
  · obtain ⟨g, o, rfl, hx⟩ := h.2 h0
    exact run_convert_bytes_arg w _ _ Tryd.underlying48 Tryd.underlying5 g o n cap _ h.1 (fun i hi => by have := hx i (by have := h.1; omega); simpa [List.getD_eq_getElem?_getD, show i < l.length by have := h.1; simp at this; omega] using this) _ Tryd.underlying9

theorem dec_size (n : Int) (h0 : -9223372036854775808 ≤ n) (h1 : n ≤ 9223372036854775807) : (bs (Lib.itoa n)).size ≤ 21 := by
  have := Lib.itoa_length_le n (by omega) (by omega)
  rw [bs_size]
  omega
theorem dig_small (n : Int) (h0 : 0 ≤ n) (h1 : n < 10) : Lib.itoa n = [UInt8.ofNat (48 + n.toNat)] := by
  unfold Lib.itoa
  rw [if_neg (by omega), Lib.decDigits]
  simp [show n.toNat < 10 by omega]
theorem dig_big (n : Int) (h0 : 10 ≤ n) : Lib.itoa n = Lib.itoa (n / 10) ++ Lib.itoa (n % 10) := by
  rw [dig_small (n % 10) (by omega) (by omega)]
  unfold Lib.itoa
  rw [if_neg (by omega), if_neg (by omega), Lib.decDigits]
  rw [dif_neg (by omega), show (n / 10).toNat = n.toNat / 10 by omega, show (n % 10).toNat = n.toNat % 10 by omega]

set_option maxRecDepth 100000 in
theorem dec_small (n : Int) (w : World) (h0 : 0 ≤ n) (h1 : n < 10) : Calls Tryd.prog 24 #[.int .i64 n] w fun e w' => e = .returned (.string (bs (Lib.itoa n))) ∧ Bw w w' := by
  have hw : IntKind.u8.wrap (48 + n) = 48 + n := by unfold IntKind.wrap; simp [IntKind.bits, IntKind.signed]; omega
  have hk : ∀ T, (convert 48 9 (.slice (some ⟨w.heap.size, 0, none⟩) 1 1)).run Tryd.prog (w.alloc (.cells #[.int .u8 (48 + n)] T)) = .ok (.string (bs (Lib.itoa n))) (w.alloc (.cells #[.int .u8 (48 + n)] T)) := by
    intro T
    refine conv_bytes (zs := [48 + n]) ?_ (Rd.lit w T _ [48 + n] 1 rfl rfl)
    rw [dig_small n h0 h1]
    simp
    omega
  have hk := hk 5
  go_enter Tryd.func24, Tryd.ntmps24
  go_wp2
  go_ret
  exact ⟨rfl, BWX⟩

theorem dec_nat : ∀ (m : Nat) (n : Int) (w : World), n.toNat = m → 0 ≤ n → n ≤ 9223372036854775807 → Calls Tryd.prog 24 #[.int .i64 n] w fun e w' => e = .returned (.string (bs (Lib.itoa n))) ∧ Bw w w' := by
  intro m
  induction m using Nat.strongRecOn with
  | ind m ih =>
    intro n w hm h0 h1
    by_cases hs : n < 10
    · exact dec_small n w h0 hs
    have HE := Lib.hid (dig_big n (by omega))
    go_enter Tryd.func24, Tryd.ntmps24
    go_wp2_with (first
      | (go_at_call 24; refine (ih (n / 10).toNat (by omega) _ _ rfl (by omega) (by omega)).mono ?_; rintro e w1 ⟨rfl, hb1⟩; clear ih; have hz1 := dec_size (n / 10) (by omega) (by omega))
      | (go_at_call 24; refine (dec_small _ _ (by omega) (by omega)).mono ?_; rintro e w2 ⟨rfl, hb2⟩; have hz2 := dec_size (n % 10) (by omega) (by omega))
      | fail)
    go_ret
    refine ⟨?_, BWX⟩
    rw [HE.out]
    rw [bs_add]; rfl

theorem neg_itoa (n : Int) (h1 : n < 0) : Lib.itoa n = 45 :: Lib.itoa (-n) := by
  unfold Lib.itoa
  rw [if_pos h1, if_neg (by omega)]
  congr 2
  omega
theorem dec_neg_small (n : Int) (w : World) (h0 : -10 < n) (h1 : n < 0) : Calls Tryd.prog 24 #[.int .i64 n] w fun e w' => e = .returned (.string (bs (Lib.itoa n))) ∧ Bw w w' := by
  have HE := Lib.hid (neg_itoa n h1)
  go_enter Tryd.func24, Tryd.ntmps24
  go_wp2_with (first
    | (go_at_call 24; refine (dec_small _ _ (by omega) (by omega)).mono ?_; rintro e w2 ⟨rfl, hb2⟩; have hz2 := dec_size (-n) (by omega) (by omega); have hz3 : (⟨#[45]⟩ : ByteArray).size = 1 := rfl)
    | fail)
  go_ret
  refine ⟨?_, BWX⟩
  rw [HE.out]
  exact congrArg (fun x => Ending.returned (.string x)) (bs_add [45] _)

set_option maxRecDepth 100000 in
theorem dec_neg : ∀ (m : Nat) (n : Int) (w : World), (-n).toNat = m → n < 0 → -9223372036854775808 ≤ n → Calls Tryd.prog 24 #[.int .i64 n] w fun e w' => e = .returned (.string (bs (Lib.itoa n))) ∧ Bw w w' := by
  intro m
  induction m using Nat.strongRecOn with
  | ind m ih =>
    intro n w hm h0 h1
    by_cases hs : -10 < n
    · exact dec_neg_small n w hs h0
    have hq : n.tdiv 10 = -((-n) / 10) := by rw [← Int.tdiv_eq_ediv_of_nonneg (by omega), Int.neg_tdiv]; omega
    have hr : n.tmod 10 = -((-n) % 10) := by rw [← Int.tmod_eq_emod_of_nonneg (by omega), Int.neg_tmod]; omega
    have HE := Lib.hid (show Lib.itoa n = Lib.itoa (n.tdiv 10) ++ Lib.itoa (-(n.tmod 10)) by
      rw [neg_itoa n h0, neg_itoa (n.tdiv 10) (by omega), dig_big (-n) (by omega), show -(n.tdiv 10) = -n / 10 by omega, show -(n.tmod 10) = -n % 10 by omega]
      rfl)
    have I1 := fun w => ih (-(n.tdiv 10)).toNat (by omega) (n.tdiv 10) w rfl (by omega) (by omega)
    have I2 := fun w => dec_small (-(n.tmod 10)) w (by omega) (by omega)
    have hz1 := dec_size (n.tdiv 10) (by omega) (by omega)
    have hz2 := dec_size (-(n.tmod 10)) (by omega) (by omega)
    have HQ := Lib.hid hq
    have HR := Lib.hid hr
    have hr1 : -9 ≤ n.tmod 10 := by omega
    have hr2 : n.tmod 10 ≤ 0 := by omega
    clear hq hr ih hm
    go_enter Tryd.func24, Tryd.ntmps24
    go_wp2_with (first
      | (go_at_call 24; refine (I1 _).mono ?_; rintro e w1 ⟨rfl, hb1⟩; clear I1)
      | (go_at_call 24; refine (I2 _).mono ?_; rintro e w2 ⟨rfl, hb2⟩)
      | fail)
    go_ret
    refine ⟨?_, BWX⟩
    rw [HE.out]
    rw [bs_add]; rfl
/-- Decimal writes what AppendInt writes. -/
theorem dec30_any (n : Int) (w : World) (h0 : -9223372036854775808 ≤ n) (h1 : n ≤ 9223372036854775807) : Calls Tryd.prog 24 #[.int .i64 n] w fun e w' => e = .returned (.string (bs (Lib.itoa n))) ∧ Bw w w' := by
  rcases Int.lt_or_le n 0 with h | h
  · exact dec_neg _ n w rfl h h0
  · exact dec_nat _ n w rfl h h1
end Go.Proofs.YtmkpefielfinjaaDoor

/- More on slices that read as lists. -/
namespace Go.Proofs.YtmkpefielfinjaaDoor
open Go.RowKit

theorem wpList_yes {P : Program} {w : World} {ops : Array Oper} {rest : List Oper} {o : Oper} {a : Act} {Q : Exit → Act → World → Prop} (hw : Region.wanted o (yielded ops a.tmps) = true)
    (h : ∀ K : Act → World → Prop, (∀ a w, wpList P ops Q rest a w → K a w) → o.wp P a w K Q) : wpList P ops Q (o :: rest) a w :=
  wpList_step fun K hK => by rw [if_pos hw]; exact h K hK
/-- append to a row of the call's own, from whatever slice, under a guard that lets it. -/
theorem wpList_append_srcG {P : Program} {w : World} {ops : Array Oper} {rest : List Oper} {o : Oper} {a : Act} {Q : Exit → Act → World → Prop} (hgd : Region.wanted o (yielded ops a.tmps) = true) (s x : Operand) (t : TypeId)
    (ho : o.op = .call { callee := .builtin .append, args := #[s, x], argTypes := #[t, t] })
    (base : Nat) (e : TypeId) (i : TypeInfo) (z : Value) (size bytes : Nat) (ht : P.underlying t = some (.slice e)) (hi : P.info? e = some i) (hz : i.zero = some z)
    (hsize : i.size = size) (hby : i.bytes = bytes) (hzs : z.cells.size = size) (hsz : 0 < size)
    (v : Value) (n : Nat) (xs : List Value) (hs : a.eval s = v) (hown : w.ownsRow base e size v n xs)
    (ao : Option Addr) (m c : Nat) (news : List Value) (hx : a.eval x = .slice ao m c) (hl : news.length = m * size) (hnone : ao = none → m = 0) (hnews : ∀ ad, ao = some ad → ∀ j u, news[j]? = some u → w.cell? (ad.add j) = some u) (h1 : ∀ u ∈ news, u.oneCell' = true)
    (h63 : n + m ≤ maxLen) (hbytes : (n + m) * bytes ≤ 140737488355328) (hbase : base ≤ w.heap.size)
    (h : ∀ v' w', w'.ownsRow base e size v' (n + m) (xs ++ news) → w.grownBy w' v.ownBlock → wpList P ops Q rest (a.put o.dst v') w') :
    wpList P ops Q (o :: rest) a w := by
  cases ao with
  | some ad => exact wpList_yes hgd fun _ hK => wp_append_own w s x t ho base e i z size bytes ht hi hz hsize hby hzs hsz v n xs hs hown ad m c news hx hl (hnews ad rfl) h1 h63 hbytes hbase fun v' w' h2 h3 _ => hK _ _ (h v' w' h2 h3)
  | none =>
    have hm := hnone rfl
    subst hm
    have hn : news = [] := List.eq_nil_of_length_eq_zero (by simpa using hl)
    subst hn
    obtain ⟨A', c', rfl, hle, _⟩ := own_form hown
    refine wpList_yes hgd fun K hK => ?_
    have hrun := run_append_nothing (P := P) w t t o.type e i ht hi A' n c' hle (.slice none 0 c) (Src.ofNil w ht c)
    unfold Oper.wp
    simp [execOp, ho, resolve, invoke, builtin, hs, hx, hrun, Result.andThen]
    exact hK _ _ (h _ _ (by simpa using hown) ⟨rfl, rfl, rfl, Nat.le_refl _, fun _ _ _ => rfl⟩)
end Go.Proofs.YtmkpefielfinjaaDoor

/- Walks of the mill's deck: each draw is a number in its range, and only the deck's place moves. -/
namespace Go.Proofs.YtmkpefielfinjaaDoor
open Go.RowKit

theorem addr_add_block (a : Addr) (n : Nat) : (a.add n).block = a.block := by unfold Addr.add; split <;> rfl

theorem mmod_any (v n : Int) (w : World) (h1 : 1 ≤ n) (h2 : n ≤ 4611686018427387904) :
    Calls Tryd.prog 8 #[.int .i64 v, .int .i64 n] w fun e w' => e = .returned (.int .i64 (v % n)) ∧ w = w' := by
  have hb := Int.emod_nonneg v (show n ≠ 0 by omega)
  have hb2 := Int.emod_lt_of_pos v (show 0 < n by omega)
  by_cases hv : 0 ≤ v
  · go_enter Tryd.func8, Tryd.ntmps8
    go_wp2
    go_ret
    exact ⟨rfl, rfl⟩
  · have ht : v.tmod n = if v % n = 0 then 0 else v % n - n := by
      rw [Int.tmod_eq_emod]
      split <;> split <;> omega
    go_enter Tryd.func8, Tryd.ntmps8
    go_wp2
    · go_ret
      exact ⟨rfl, rfl⟩
    · go_ret
      refine ⟨ret_int ?_, rfl⟩
      first | rfl | omega | (show _ = _; simp; omega)

/-- What a list argument reads as: number i lies at place i. -/
def RdI (w : World) (A : Option Addr) (n : Nat) (xs : List Int) : Prop :=
  xs.length = n ∧ ∀ i (h : i < xs.length), ∃ ad, A = some ad ∧ w.cell? (ad.add i) = some (.int .i64 xs[i])

theorem RdI.up {w w' : World} {A : Option Addr} {n : Nat} {xs : List Int} (h : RdI w A n xs) (hA : 0 < n → ∀ ad, A = some ad → ad.block < w.heap.size) (hb : Bw w w') : RdI w' A n xs :=
  ⟨h.1, fun i hi => by
    obtain ⟨ad, e, hx⟩ := h.2 i hi
    refine ⟨ad, e, ?_⟩
    rw [Below.cell hb (p := ad.add i) (by rw [addr_add_block]; exact hA (by have := h.1; omega) ad e)]
    exact hx⟩

end Go.Proofs.YtmkpefielfinjaaDoor
