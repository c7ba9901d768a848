
/- Walks of runes.prefix, beginning, complete, value: each returns the plain function of the same name. -/
import Derived.Test.YtagihjchhpiipaaRunA
import Derived.Test.YtagihjchhpiipaaSl
set_option linter.unusedSimpArgs false
set_option linter.unusedVariables false
namespace Go.Proofs.Ytagihjchhpiipaa
open Go.RowKit

def okRest (low high : Int) : List Int → Bool
  | [] => true
  | c :: t => decide (low ≤ c ∧ c ≤ high) && okRest 128 191 t
def prefixB : List Int → Bool
  | [] => false
  | b :: t => decide ((t.length : Int) + 1 ≤ rsize b) && okRest (rlow b) (rhigh b) t

theorem prefix_out {b lo hi c : Int} {t r : List Int} {k : Nat} (h : okRest lo hi (t.drop k) = okRest (rlow b) (rhigh b) t) (hd : t.drop k = c :: r) (hc : ¬ (lo ≤ c ∧ c ≤ hi)) : prefixB (b :: t) = false := by
  show (decide _ && okRest (rlow b) (rhigh b) t) = false
  rw [← h, hd]
  simp [okRest, hc]
theorem prefix_in {b lo hi c : Int} {t r : List Int} {k : Nat} (h : okRest lo hi (t.drop k) = okRest (rlow b) (rhigh b) t) (hd : t.drop k = c :: r) (hc : lo ≤ c ∧ c ≤ hi) : okRest 128 191 r = okRest (rlow b) (rhigh b) t := by
  rw [← h, hd]
  simp [okRest, hc]
theorem prefix_end {b lo hi : Int} {t : List Int} {k : Nat} (h : okRest lo hi (t.drop k) = okRest (rlow b) (rhigh b) t) (hk : t.length ≤ k) (hs : (t.length : Int) + 1 ≤ rsize b) : prefixB (b :: t) = true := by
  show (decide _ && okRest (rlow b) (rhigh b) t) = true
  rw [← h, List.drop_eq_nil_of_le hk]
  simp [okRest, hs]

theorem prefix_any (A : Option Addr) (n cap : Nat) (bs : List Int) (w : World) (hr : Rd (.int .u8) w A n bs) (hn : n ≤ cap) (hc : cap ≤ 9223372036854775807) :
    Calls Try.prog 31 #[.slice A n cap] w fun e w' => e = .returned (.bool (prefixB bs)) ∧ w = w' := by
  cases bs with
  | nil =>
    have h0 : n = 0 := hr.1.symm
    subst h0
    go_enter Try.func31, Try.ntmps31
    go_wp2_with (go_at_call 32; refine (rsize_any _ _).mono ?_; rintro ee ww ⟨rfl, rfl⟩)
    go_ret
    exact ⟨rfl, rfl⟩
  | cons b t =>
    have hl : t.length + 1 = n := hr.1
    obtain ⟨g, o, rfl, hx⟩ := hr.2 (by omega)
    have h0 : w.cell? ⟨g, o, none⟩ = some (.int .u8 b) := hx 0 (by simp)
    have e1 : (0 : Int) < n := by omega
    have e2 : ((n : Int) == 0) = false := by rw [beq_eq_false_iff_ne]; omega
    by_cases hs : (n : Int) ≤ rsize b
    · by_cases hc1 : cap = 1
      · go_enter Try.func31, Try.ntmps31
        go_wp2_with (first | (go_at_call 32; refine (rsize_any _ _).mono ?_; rintro ee ww ⟨rfl, rfl⟩) | (go_at_call 34; refine (rsecond_any _ _).mono ?_; rintro ee ww ⟨rfl, rfl⟩))
        have ht : t = [] := by cases t with | nil => rfl | cons c t => simp at hl; omega
        subst ht
        refine wp_loop_rounds 1 ?_
        rw [rounds_succ]
        go_wp2
        go_ret
        refine ⟨ret_bool ?_, rfl⟩
        simp at hl
        simp [prefixB, okRest]; omega
      · have hc2 : (1 : Int) < cap := by omega
        have hr1 : ∀ k (h : k < t.length), w.cell? ⟨g, o + 1 + k, none⟩ = some (.int .u8 t[k]) := fun k h => by
          have := hx (k + 1) (by simpa using h)
          rw [show o + (k + 1) = o + 1 + k from by omega] at this
          simpa using this
        clear hx
        go_enter Try.func31, Try.ntmps31
        go_wp2_with (first | (go_at_call 32; refine (rsize_any _ _).mono ?_; rintro ee ww ⟨rfl, rfl⟩) | (go_at_call 34; refine (rsecond_any _ _).mono ?_; rintro ee ww ⟨rfl, rfl⟩))
        go_loop [3, 4, 29] (fun l h i => ∃ (k : Nat) (lo hi : Int), k ≤ t.length ∧ i = .int .i64 k ∧ l = .int .u8 lo ∧ h = .int .u8 hi ∧ okRest lo hi (t.drop k) = okRest (rlow b) (rhigh b) t) (fun _ _ i => t.length - (intOf i).toNat)
        case atStart => exact ⟨0, _, _, Nat.zero_le _, rfl, rfl, rfl, rfl⟩
        case round =>
          obtain ⟨k, lo, hi, hk, rfl, rfl, rfl, hrest⟩ := hrel
          have HR := Lib.hid hrest
          clear hrest
          by_cases hlt : k < t.length
          · have hx := hr1 k hlt
            obtain ⟨c, hcx⟩ : ∃ c, c = t[k] := ⟨_, rfl⟩
            rw [← hcx] at hx
            have HC := Lib.hid hcx
            have HD := Lib.hid (List.drop_eq_getElem_cons hlt)
            clear hcx hr1 hr h0
            go_wp2
            · go_ret
              exact ⟨ret_bool (prefix_out HR.out (HD.out.trans (by rw [← HC.out])) (by omega)).symm, rfl⟩
            · go_round
              case rel => exact ⟨k + 1, 128, 191, by omega, by go_num, rfl, rfl, prefix_in HR.out (HD.out.trans (by rw [← HC.out])) (by omega)⟩
              case measure => simp [intOf]; omega
            · go_ret
              exact ⟨ret_bool (prefix_out HR.out (HD.out.trans (by rw [← HC.out])) (by omega)).symm, rfl⟩
          · clear hr1 hr h0
            go_wp2
            go_ret
            exact ⟨ret_bool (prefix_end HR.out (by omega) (by omega)).symm, rfl⟩
    · go_enter Try.func31, Try.ntmps31
      go_wp2_with (go_at_call 32; refine (rsize_any _ _).mono ?_; rintro ee ww ⟨rfl, rfl⟩)
      go_ret
      refine ⟨ret_bool ?_, rfl⟩
      simp [prefixB]; omega

def beginB (bs : List Int) : Bool := prefixB bs && decide ((bs.length : Int) < rsize (bs.headD 0))
def completeB (bs : List Int) : Bool := prefixB bs && ((bs.length : Int) == rsize (bs.headD 0))

theorem begin_any (A : Option Addr) (n cap : Nat) (bs : List Int) (w : World) (hr : Rd (.int .u8) w A n bs) (hn : n ≤ cap) (hc : cap ≤ 9223372036854775807) :
    Calls Try.prog 25 #[.slice A n cap] w fun e w' => e = .returned (.bool (beginB bs)) ∧ w = w' := by
  cases hp : prefixB bs
  · have HP := Lib.hid hp
    clear hp
    go_enter Try.func25, Try.ntmps25
    go_wp2_with (first | (go_at_call 31; refine (prefix_any _ _ _ bs _ hr hn hc).mono ?_; rintro ee ww ⟨rfl, rfl⟩; rw [HP.out]))
    go_ret
    exact ⟨ret_bool (by simp [beginB, HP.out]), rfl⟩
  · cases bs with
    | nil => simp [prefixB] at hp
    | cons b t =>
      have HP := Lib.hid hp
      clear hp
      have hl : t.length + 1 = n := hr.1
      obtain ⟨g, o, rfl, hx⟩ := hr.2 (by omega)
      have h0 : w.cell? ⟨g, o, none⟩ = some (.int .u8 b) := hx 0 (by simp)
      clear hx
      have e1 : (0 : Int) < n := by omega
      go_enter Try.func25, Try.ntmps25
      go_wp2_with (first | (go_at_call 31; refine (prefix_any _ _ _ (b :: t) _ hr hn hc).mono ?_; rintro ee ww ⟨rfl, rfl⟩; rw [HP.out]) | (go_at_call 32; refine (rsize_any _ _).mono ?_; rintro ee ww ⟨rfl, rfl⟩))
      go_ret
      exact ⟨ret_bool (by simp [beginB, HP.out]; omega), rfl⟩

theorem complete_any (A : Option Addr) (n cap : Nat) (bs : List Int) (w : World) (hr : Rd (.int .u8) w A n bs) (hn : n ≤ cap) (hc : cap ≤ 9223372036854775807) :
    Calls Try.prog 26 #[.slice A n cap] w fun e w' => e = .returned (.bool (completeB bs)) ∧ w = w' := by
  cases hp : prefixB bs
  · have HP := Lib.hid hp
    clear hp
    go_enter Try.func26, Try.ntmps26
    go_wp2_with (first | (go_at_call 31; refine (prefix_any _ _ _ bs _ hr hn hc).mono ?_; rintro ee ww ⟨rfl, rfl⟩; rw [HP.out]))
    go_ret
    exact ⟨ret_bool (by simp [completeB, HP.out]), rfl⟩
  · cases bs with
    | nil => simp [prefixB] at hp
    | cons b t =>
      have HP := Lib.hid hp
      clear hp
      have hl : t.length + 1 = n := hr.1
      obtain ⟨g, o, rfl, hx⟩ := hr.2 (by omega)
      have h0 : w.cell? ⟨g, o, none⟩ = some (.int .u8 b) := hx 0 (by simp)
      clear hx
      have e1 : (0 : Int) < n := by omega
      go_enter Try.func26, Try.ntmps26
      go_wp2_with (first | (go_at_call 31; refine (prefix_any _ _ _ (b :: t) _ hr hn hc).mono ?_; rintro ee ww ⟨rfl, rfl⟩; rw [HP.out]) | (go_at_call 32; refine (rsize_any _ _).mono ?_; rintro ee ww ⟨rfl, rfl⟩))
      go_ret
      exact ⟨ret_bool (by simp [completeB, HP.out, ← hl]), rfl⟩
end Go.Proofs.Ytagihjchhpiipaa
