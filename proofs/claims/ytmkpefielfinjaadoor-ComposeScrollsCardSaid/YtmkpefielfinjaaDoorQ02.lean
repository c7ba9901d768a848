/- Parts of the proof, one after the other. -/
import Derived.Test.YtmkpefielfinjaaDoorQ01
import Derived.Lib.ItoaNum
import Derived.Lib.ItoaLen
set_option linter.unusedSimpArgs false
set_option linter.unusedVariables false
/- Compose: the reference's decimal numbers. -/
namespace Go.Proofs.YtmkpefielfinjaaDoor
open Go.RowKit

theorem conv_bytes {w : World} {A : Option Addr} {n cap : Nat} {l : List UInt8} {zs : List Int} (hb : zs = l.map fun b => (b.toNat : Int)) (h : Rd (.int .u8) w A n zs) : (convert 48 9 (.slice A n cap)).run Tryd.prog w = .ok (.string (bs l)) w := by
  subst hb
  have e : strOfNums (l.map fun b => (b.toNat : Int)) = bs l := by
    unfold strOfNums bs
    congr 1
    congr 1
    rw [List.map_map]
    conv => rhs; rw [← List.map_id l]
    apply List.map_congr_left
    intro b _
    simp
  rw [← e]
  rcases Nat.eq_zero_or_pos n with h0 | h0
  · have hb : l = [] := List.eq_nil_of_length_eq_zero (by have := h.1; simpa [h0] using this)
    subst hb
    subst h0
    cases A with
    | none => exact run_convert_bytes_nil w _ _ Tryd.underlying48 Tryd.underlying5 _ _ _ Tryd.underlying9
    | some a =>
      rw [run_convert_bytes_string w _ _ _ _ _ _ Tryd.underlying48 Tryd.underlying5 Tryd.underlying9, run_bytesToString w a 0 cap [] (by kernel_rfl)]
      rfl
  · obtain ⟨g, o, rfl, hx⟩ := h.2 h0
    exact run_convert_bytes_arg w _ _ Tryd.underlying48 Tryd.underlying5 g o n cap _ h.1 (fun i hi => by have := hx i (by have := h.1; omega); simpa [List.getD_eq_getElem?_getD, show i < l.length by have := h.1; simp at this; omega] using this) _ Tryd.underlying9

theorem dig_small (n : Int) (h0 : 0 ≤ n) (h1 : n < 10) : Lib.itoa n = [UInt8.ofNat (48 + n.toNat)] := by
  unfold Lib.itoa
  rw [if_neg (by omega), Lib.decDigits]
  simp [show n.toNat < 10 by omega]
end Go.Proofs.YtmkpefielfinjaaDoor

/- More on slices that read as lists. -/
namespace Go.Proofs.YtmkpefielfinjaaDoor
open Go.RowKit

theorem own_made {w : World} {base g : Nat} {e : TypeId} {size : Nat} (hg : g = w.heap.size) (hb : base ≤ g) : (w.alloc (.cells #[] e)).ownsRow base e size (.slice (some ⟨g, 0, none⟩) 0 0) 0 [] := by
  subst hg
  exact World.ownsRow_made w #[] 0 hb (by unfold maxLen; omega) (by simp)
theorem wpList_yes {P : Program} {w : World} {ops : Array Oper} {rest : List Oper} {o : Oper} {a : Act} {Q : Exit → Act → World → Prop} (hw : Region.wanted o (yielded ops a.tmps) = true)
    (h : ∀ K : Act → World → Prop, (∀ a w, wpList P ops Q rest a w → K a w) → o.wp P a w K Q) : wpList P ops Q (o :: rest) a w :=
  wpList_step fun K hK => by rw [if_pos hw]; exact h K hK
/-- append to a row of the call's own, from whatever slice, under a guard that lets it. -/
theorem wpList_append_srcG {P : Program} {w : World} {ops : Array Oper} {rest : List Oper} {o : Oper} {a : Act} {Q : Exit → Act → World → Prop} (hgd : Region.wanted o (yielded ops a.tmps) = true) (s x : Operand) (t : TypeId)
    (ho : o.op = .call { callee := .builtin .append, args := #[s, x], argTypes := #[t, t] })
    (base : Nat) (e : TypeId) (i : TypeInfo) (z : Value) (size bytes : Nat) (ht : P.underlying t = some (.slice e)) (hi : P.info? e = some i) (hz : i.zero = some z)
    (hsize : i.size = size) (hby : i.bytes = bytes) (hzs : z.cells.size = size) (hsz : 0 < size)
    (v : Value) (n : Nat) (xs : List Value) (hs : a.eval s = v) (hown : w.ownsRow base e size v n xs)
    (ao : Option Addr) (m c : Nat) (news : List Value) (hx : a.eval x = .slice ao m c) (hl : news.length = m * size) (hnone : ao = none → m = 0) (hnews : ∀ ad, ao = some ad → ∀ j u, news[j]? = some u → w.cell? (ad.add j) = some u) (h1 : ∀ u ∈ news, u.oneCell' = true)
    (h63 : n + m ≤ maxLen) (hbytes : (n + m) * bytes ≤ 140737488355328) (hbase : base ≤ w.heap.size)
    (h : ∀ v' w', w'.ownsRow base e size v' (n + m) (xs ++ news) → w.grownBy w' v.ownBlock → wpList P ops Q rest (a.put o.dst v') w') :
    wpList P ops Q (o :: rest) a w := by
  cases ao with
  | some ad => exact wpList_yes hgd fun _ hK => wp_append_own w s x t ho base e i z size bytes ht hi hz hsize hby hzs hsz v n xs hs hown ad m c news hx hl (hnews ad rfl) h1 h63 hbytes hbase fun v' w' h2 h3 _ => hK _ _ (h v' w' h2 h3)
  | none =>
    have hm := hnone rfl
    subst hm
    have hn : news = [] := List.eq_nil_of_length_eq_zero (by simpa using hl)
    subst hn
    obtain ⟨A', c', rfl, hle, _⟩ := own_form hown
    refine wpList_yes hgd fun K hK => ?_
    have hrun := run_append_nothing (P := P) w t t o.type e i ht hi A' n c' hle (.slice none 0 c) (Src.ofNil w ht c)
    unfold Oper.wp
    simp [execOp, ho, resolve, invoke, builtin, hs, hx, hrun, Result.andThen]
    exact hK _ _ (h _ _ (by simpa using hown) ⟨rfl, rfl, rfl, Nat.le_refl _, fun _ _ _ => rfl⟩)
end Go.Proofs.YtmkpefielfinjaaDoor

/- Walks of the mill's deck: each draw is a number in its range, and only the deck's place moves. -/
namespace Go.Proofs.YtmkpefielfinjaaDoor
open Go.RowKit

theorem addr_add_block (a : Addr) (n : Nat) : (a.add n).block = a.block := by unfold Addr.add; split <;> rfl

theorem set_same (w : World) {p : Addr} {v : Value} (h : w.cell? p = some v) : w.setCell p v = w := by
  have e : (w.setCell p v).heap = w.heap := by
    unfold World.setCell
    dsimp only
    apply Array.ext_getElem?
    intro i
    rw [Array.getElem?_modify]
    split
    · rename_i hi
      subst hi
      unfold World.cell? at h
      cases hb : w.heap[p.block]? with
      | none => rfl
      | some o =>
        rw [hb] at h
        cases o with
        | cells c el fr =>
          simp only at h
          by_cases hs : p.spot.isSome
          · rw [if_pos hs] at h; cases h
          · rw [if_neg hs] at h
            obtain ⟨hl, hv⟩ := Array.getElem?_eq_some_iff.1 h
            simp only [Option.map_some, if_neg hs]
            congr 2
            apply Array.ext_getElem?
            intro j
            rw [Array.getElem?_setIfInBounds]
            split
            · rename_i hj; subst hj; exact h.symm
            · rfl
        | _ => rfl
    · rfl
  have e2 : w.setCell p v = { w with heap := (w.setCell p v).heap } := rfl
  rw [e2, e]

theorem mmod_any (v n : Int) (w : World) (h1 : 1 ≤ n) (h2 : n ≤ 4611686018427387904) :
    Calls Tryd.prog 8 #[.int .i64 v, .int .i64 n] w fun e w' => e = .returned (.int .i64 (v % n)) ∧ w = w' := by
  have hb := Int.emod_nonneg v (show n ≠ 0 by omega)
  have hb2 := Int.emod_lt_of_pos v (show 0 < n by omega)
  by_cases hv : 0 ≤ v
  · go_enter Tryd.func8, Tryd.ntmps8
    go_wp2
    go_ret
    exact ⟨rfl, rfl⟩
  · have ht : v.tmod n = if v % n = 0 then 0 else v % n - n := by
      rw [Int.tmod_eq_emod]
      split <;> split <;> omega
    go_enter Tryd.func8, Tryd.ntmps8
    go_wp2
    · go_ret
      exact ⟨rfl, rfl⟩
    · go_ret
      refine ⟨ret_int ?_, rfl⟩
      first | rfl | omega | (show _ = _; simp; omega)

theorem mnew_any (A : Option Addr) (n c : Nat) (w : World) :
    Calls Tryd.prog 13 #[.slice A n c] w fun e w' => e = .returned (.pointer (some ⟨w.heap.size, 0, none⟩)) ∧ w.alloc (.cells #[.slice A n c, .int .i64 0] 73) = w' := by
  go_enter Tryd.func13, Tryd.ntmps13
  go_wp2
  go_ret
  exact ⟨rfl, rfl⟩

theorem mleft_any (b : Nat) (A : Option Addr) (n c k : Nat) (w : World) (h0 : w.cell? ⟨b, 0, none⟩ = some (.slice A n c)) (h1 : w.cell? ⟨b, 1, none⟩ = some (.int .i64 k)) :
    Calls Tryd.prog 43 #[.pointer (some ⟨b, 0, none⟩)] w fun e w' => e = .returned (.bool (decide ((k : Int) < n))) ∧ ∃ q, w' = w.drewN q := by
  go_enter Tryd.func43, Tryd.ntmps43
  go_wp2
  go_quiet (fail)
  go_wp2
  go_ret
  exact ⟨ret_bool (by simp), _, rfl⟩

/-- What a list argument reads as: number i lies at place i. -/
def RdI (w : World) (A : Option Addr) (n : Nat) (xs : List Int) : Prop :=
  xs.length = n ∧ ∀ i (h : i < xs.length), ∃ ad, A = some ad ∧ w.cell? (ad.add i) = some (.int .i64 xs[i])

theorem RdI.up {w w' : World} {A : Option Addr} {n : Nat} {xs : List Int} (h : RdI w A n xs) (hA : 0 < n → ∀ ad, A = some ad → ad.block < w.heap.size) (hb : Bw w w') : RdI w' A n xs :=
  ⟨h.1, fun i hi => by
    obtain ⟨ad, e, hx⟩ := h.2 i hi
    refine ⟨ad, e, ?_⟩
    rw [Below.cell hb (p := ad.add i) (by rw [addr_add_block]; exact hA (by have := h.1; omega) ad e)]
    exact hx⟩

theorem mnext_end (b : Nat) (A : Option Addr) (n c k : Nat) (m : Int) (w : World) (h0 : w.cell? ⟨b, 0, none⟩ = some (.slice A n c)) (h1 : w.cell? ⟨b, 1, none⟩ = some (.int .i64 k)) (hk : ¬ k < n) :
    Calls Tryd.prog 25 #[.pointer (some ⟨b, 0, none⟩), .int .i64 m] w fun e w' => e = .returned (.int .i64 0) ∧ ∃ q, w' = w.drewN q := by
  have hd : decide ((k : Int) < n) = false := by simp; omega
  go_enter Tryd.func25, Tryd.ntmps25
  go_wp2_with (go_at_call 43; refine (mleft_any _ _ _ _ _ _ h0 h1).mono ?_; rintro e w' ⟨rfl, q, rfl⟩; rw [hd])
  go_ret
  exact ⟨rfl, _, rfl⟩

theorem mnext_go (b : Nat) (ad : Addr) (n c k : Nat) (m x : Int) (w : World) (h0 : w.cell? ⟨b, 0, none⟩ = some (.slice (some ad) n c)) (h1 : w.cell? ⟨b, 1, none⟩ = some (.int .i64 k)) (hf : w.frozen? ⟨b, 1, none⟩ = false) (hk : k < n)
    (hx : w.cell? (ad.add k) = some (.int .i64 x)) (ha : ad.block ≠ b) (hn : n ≤ 9223372036854775807) (hm1 : 1 ≤ m) (hm2 : m ≤ 4611686018427387904) :
    Calls Tryd.prog 25 #[.pointer (some ⟨b, 0, none⟩), .int .i64 m] w fun e w' => e = .returned (.int .i64 (x % m)) ∧ ∃ q, w' = (w.setCell ⟨b, 1, none⟩ (.int .i64 ((k + 1 : Nat) : Int))).drewN q := by
  have hd : decide ((k : Int) < n) = true := by simp; omega
  go_enter Tryd.func25, Tryd.ntmps25
  go_wp2_with (go_at_call 43; refine (mleft_any _ _ _ _ _ _ h0 h1).mono ?_; rintro e w' ⟨rfl, q, rfl⟩; rw [hd])
  have hx' : ∀ v, (w.setCell ⟨b, 1, none⟩ v).cell? (ad.add k) = some (.int .i64 x) := fun v => by
    rw [World.cell?_setCell_other]
    · exact hx
    · intro e
      have := congrArg Addr.block e
      rw [addr_add_block] at this
      exact ha this.symm
  have e1 : (0 : Int) ≤ k := by omega
  have e2 : (k : Int) < n := by omega
  have e3 : (k : Int) ≤ 9223372036854775806 := by omega
  have e4 : IntKind.i64.wrap ((k : Int) + 1 - 1) = k := by rw [IntKind.wrap_i64]; omega
  go_quiet ((go_at_call 8; exact calls_qa (mmod_any _ _ _ hm1 hm2)))
  go_wp2
  go_ret
  exact ⟨rfl, q + nq, by rw [show ((k : Int) + 1) = ((k + 1 : Nat) : Int) from by omega, World.drewN_drewN]⟩

/-- A draw of the deck: some number in the range; only the deck's place moves. -/
theorem mnext_any (b : Nat) (A : Option Addr) (n c k : Nat) (m : Int) (xs : List Int) (w : World) (h0 : w.cell? ⟨b, 0, none⟩ = some (.slice A n c)) (h1 : w.cell? ⟨b, 1, none⟩ = some (.int .i64 k)) (hf : w.frozen? ⟨b, 1, none⟩ = false)
    (hr : RdI w A n xs) (ha : 0 < n → ∀ ad, A = some ad → ad.block ≠ b) (hk : k ≤ n) (hn : n ≤ 9223372036854775807) (hm1 : 1 ≤ m) (hm2 : m ≤ 4611686018427387904) :
    Calls Tryd.prog 25 #[.pointer (some ⟨b, 0, none⟩), .int .i64 m] w fun e w' => ∃ v : Int, ∃ k' : Nat, ∃ q, e = .returned (.int .i64 v) ∧ 0 ≤ v ∧ v < m ∧ k' ≤ n ∧ (w.setCell ⟨b, 1, none⟩ (.int .i64 k')).drewN q = w' := by
  by_cases hlt : k < n
  · obtain ⟨ad, e, hx⟩ := hr.2 k (by have := hr.1; omega)
    subst e
    refine (mnext_go b ad n c k m _ w h0 h1 hf hlt hx (ha (by omega) _ rfl) hn hm1 hm2).mono ?_
    rintro e w' ⟨rfl, q, rfl⟩
    exact ⟨_, k + 1, q, rfl, Int.emod_nonneg _ (by omega), Int.emod_lt_of_pos _ (by omega), by omega, rfl⟩
  · refine (mnext_end b A n c k m w h0 h1 hlt).mono ?_
    rintro e w' ⟨rfl, q, rfl⟩
    exact ⟨0, k, q, rfl, by omega, by omega, hk, by rw [set_same w h1]⟩

end Go.Proofs.YtmkpefielfinjaaDoor
