/- Parts of the proof, one after the other. -/
import Derived.Test.YtkflooljdopldaaGreatS23
import Derived.Test.YtkflooljdopldaaGreatS22
set_option linter.unusedSimpArgs false
set_option linter.unusedVariables false
/- Walk of the reference's prefix, Valid and Flush. -/
namespace Go.Proofs.YtkflooljdopldaaGreat
open Go.RowKit

theorem and192 (x : Int) (h0 : 0 ≤ x) (h1 : x ≤ 255) : (bits .and .u8 x 192 != 128) = !contB x := by
 have key : ∀ y : Fin 256, (bits .and .u8 (y.val : Int) 192 != 128) = !contB (y.val : Int) := by decide +kernel
 have := key ⟨x.toNat, by omega⟩
 simpa [show ((x.toNat : Nat) : Int) = x from by omega] using this
theorem refnum_at (A : Option Addr) (n cap N : Nat) (Ni : Int) (bs : List Int) (d L : Int) (w : World) (hNi : Ni = N) (hL : numN bs d N = L) (hr : Rd (.int .u8) w A n bs) (h1 : 1 ≤ n) (hn : n ≤ N) (h4 : N ≤ 4) (hb : ∀ x ∈ bs, 0 ≤ x ∧ x ≤ 255) (hd : 0 ≤ d ∧ d ≤ 63) :
  Calls Tryz.prog 82 #[.slice A n cap, .int .i64 Ni, .int .i64 d] w fun e w' => e = .returned (.int .i64 L) ∧ ∃ q, w' = w.drewN q := by
 subst hNi; subst hL
 exact refnum_any A n cap N bs d w hr h1 hn h4 hb hd

theorem Rd.drewN {α : Type} {f : α → Value} {w : World} {A : Option Addr} {n : Nat} {xs : List α} (h : Rd f w A n xs) (q : Nat) : Rd f (w.drewN q) A n xs := h.up BWX

set_option maxHeartbeats 4000000 in
theorem refprefix_go (g o n cap N : Nat) (Ni b : Int) (t : List Int) (w : World) (hr : Rd (.int .u8) w (some ⟨g, o, none⟩) n (b :: t)) (hn : n ≤ cap) (hc : cap ≤ 9223372036854775807) (hb : ∀ x ∈ b :: t, 0 ≤ x ∧ x ≤ 255) (hN : rsize b = Ni) (hnN : n ≤ N) (h4 : (N = 1 ∧ Ni = 1) ∨ (N = 2 ∧ Ni = 2) ∨ (N = 3 ∧ Ni = 3) ∨ (N = 4 ∧ Ni = 4)) :
  Calls Tryz.prog 81 #[.slice (some ⟨g, o, none⟩) n cap] w fun e w' => e = .returned (.tuple #[.bool (prefixB (b :: t)), .bool (prefixB (b :: t) && ((n : Int) == Ni))]) ∧ Bw w w' := by
 have hl : t.length + 1 = n := hr.1
 have x0 : w.cell? ⟨g, o, none⟩ = some (.int .u8 b) := by
  obtain ⟨g', o', e, hx⟩ := hr.2 (by omega)
  cases e
  exact hx 0 (by simp)
 have hb0 := (hb b (by simp)).1
 obtain ⟨L, hL⟩ : ∃ L, numN (b :: t) 0 N = L := ⟨_, rfl⟩
 obtain ⟨M, hM⟩ : ∃ M, numN (b :: t) 63 N = M := ⟨_, rfl⟩
 have HP : Hid ((∀ x ∈ t, contB x = true) → prefixB (b :: t) = !badB L M (lowN N)) := Lib.hid (fun h => by rw [← hL, ← hM]; exact prefix_bad b t N hb0 (by omega) (by omega) h)
 have HQ : Hid (∀ x ∈ t, contB x = false → prefixB (b :: t) = false) := Lib.hid (fun x hx h => by
  show (decide _ && okRest (rlow b) (rhigh b) t) = false
  rw [ok_conts t _ _ (rlow_ge b) (rhigh_le b) ⟨x, hx, h⟩, Bool.and_false])
 have HL := Lib.hid hL
 have HM := Lib.hid hM
 have HR := Lib.hid hr
 have HB := Lib.hid hb
 have HS := Lib.hid hN
 have hn1 : (0 : Int) < n := by omega
 have hn4 : (n : Int) ≤ Ni := by omega
 have hn5 : ¬ (Ni < n) := by omega
 have hNe : Ni = N := by omega
 have HNe := Lib.hid hNe
 have hN14 : 1 ≤ N ∧ N ≤ 4 := by omega
 have HN14 := Lib.hid hN14
 have hlow : M < lowN N ∨ (lowN N ≤ M ∧ 1114111 < L) ∨ (lowN N ≤ M ∧ L ≤ 1114111 ∧ 55296 ≤ L ∧ M ≤ 57343) ∨ (lowN N ≤ M ∧ L < 55296) ∨ (lowN N ≤ M ∧ L ≤ 1114111 ∧ 55296 ≤ L ∧ 57343 < M) := by omega
 have HLow := Lib.hid hlow
 clear hL hM hr hb hN hNe hN14 hlow
 rcases h4 with ⟨rfl, rfl⟩ | ⟨rfl, rfl⟩ | ⟨rfl, rfl⟩ | ⟨rfl, rfl⟩
 all_goals
  go_enter Tryz.func81, Tryz.ntmps81
  go_wp2_with (go_at_call 101; refine (refsize_any _ _).mono ?_; rintro ee ww ⟨rfl, rfl⟩; rw [HS.out])
  go_loop [5] (fun i => ∃ k : Nat, i = .int .i64 k ∧ 1 ≤ k ∧ k ≤ n ∧ ∀ x ∈ t.take (k - 1), contB x = true) (fun i => n - (intOf i).toNat)
  case atStart => exact ⟨1, rfl, by omega, by omega, by simp⟩
  case round =>
   obtain ⟨k, rfl, hk1, hk, hcs⟩ := hrel
   have HC := Lib.hid hcs
   clear hcs
   by_cases hlt : k < n
   ·obtain ⟨x, hxx⟩ : ∃ x, x = t[k - 1]'(by omega) := ⟨_, rfl⟩
    have hxc : w.cell? ⟨g, o + k, none⟩ = some (.int .u8 x) := by
     obtain ⟨g', o', e, hx⟩ := HR.out.2 (by omega)
     cases e
     have := hx k (by simp; omega)
     rw [this, hxx]
     congr 2
     obtain ⟨k', rfl⟩ : ∃ k', k = k' + 1 := ⟨k - 1, by omega⟩
     simp
    have hxb := HB.out x (by rw [hxx]; simp)
    have h192 := and192 x hxb.1 hxb.2
    have HX := Lib.hid (show x ∈ t by rw [hxx]; exact List.getElem_mem _)
    have HT := Lib.hid (show t.take (k + 1 - 1) = t.take (k - 1) ++ [x] by rw [hxx, show k + 1 - 1 = k - 1 + 1 by omega, List.take_succ_eq_append_getElem (by omega)])
    have e1 : (0 : Int) ≤ k := by omega
    have e2 : (k : Int) < n := by omega
    clear hxx
    cases hcx : contB x
    ·have HCX := Lib.hid hcx
     rw [hcx] at h192
     clear hcx
     go_wp2
     go_ret2
     exact ⟨by rw [HQ.out x HX.out HCX.out]; rfl, BWX⟩
    ·have HCX := Lib.hid hcx
     rw [hcx] at h192
     clear hcx
     go_wp2
     go_round
     case rel =>
      refine ⟨k + 1, by go_num, by omega, by omega, ?_⟩
      rw [HT.out]
      intro y hy
      rcases List.mem_append.1 hy with h | h
      ·exact HC.out y h
      ·simp at h; subst h; exact HCX.out
     case measure => simp [intOf]; omega
   ·obtain rfl : n = k := by omega
    have hcs := HC.out
    rw [List.take_of_length_le (by omega)] at hcs
    have HP2 := Lib.hid (HP.out hcs)
    clear hcs HC HP HQ
    go_wp2_with fail
    refine (refnum_at _ _ _ _ _ (b :: t) 0 L _ HNe.out HL.out HR.out (by omega) hnN HN14.out.2 HB.out (by omega)).mono ?_
    rintro e w1 ⟨rfl, q, rfl⟩
    go_wp2_with fail
    refine (refnum_at _ _ _ _ _ (b :: t) 63 M _ HNe.out HM.out (HR.out.drewN q) (by omega) hnN HN14.out.2 HB.out (by omega)).mono ?_
    rintro e w2 ⟨rfl, q2, rfl⟩
    rcases HLow.out with h | ⟨h, h'⟩ | ⟨h, h', h'', h'''⟩ | ⟨h, h'⟩ | ⟨h, h', h'', h'''⟩
    all_goals
     simp only [lowN] at h
     first | (exfalso; omega) | skip
     all_goals go_wp2
     all_goals
      go_ret2
      refine ⟨?_, BWX⟩
      rw [HP2.out]
      first
       | (rw [show badB L M (lowN _) = true from decide_eq_true (by simp only [lowN]; omega)]; rfl)
       | (rw [show badB L M (lowN _) = false from decide_eq_false (by simp only [lowN]; omega)]; rfl)

theorem refprefix_any (A : Option Addr) (n cap : Nat) (bs : List Int) (w : World) (hr : Rd (.int .u8) w A n bs) (hn : n ≤ cap) (hc : cap ≤ 9223372036854775807) (hb : ∀ x ∈ bs, 0 ≤ x ∧ x ≤ 255) :
  Calls Tryz.prog 81 #[.slice A n cap] w fun e w' => e = .returned (.tuple #[.bool (prefixB bs), .bool (completeB bs)]) ∧ Bw w w' := by
 cases bs with
 | nil =>
  have h0 : n = 0 := hr.1.symm
  subst h0
  exact (refprefix_nil A cap w).mono fun e w' ⟨he, hw⟩ => ⟨he, hw ▸ Bw.refl _⟩
 | cons b t =>
  have hl : t.length + 1 = n := hr.1
  obtain ⟨g, o, rfl, hx⟩ := hr.2 (by omega)
  have hs : 0 ≤ rsize b ∧ rsize b ≤ 4 := by
   unfold rsize
   repeat' split
   all_goals omega
  by_cases hlt : rsize b < (n : Int)
  ·refine (refprefix_long g o n cap b w (hx 0 (by simp)) (by omega) hlt hs.1).mono fun e w' ⟨he, hw⟩ => ⟨?_, hw ▸ Bw.refl _⟩
   have hp : prefixB (b :: t) = false := by
    show (decide _ && _) = false
    rw [show decide ((t.length : Int) + 1 ≤ rsize b) = false by simp; omega]; rfl
   rw [he, completeB, hp]; rfl
  ·obtain ⟨N, hN⟩ : ∃ N : Nat, rsize b = N := ⟨(rsize b).toNat, by omega⟩
   refine (refprefix_go g o n cap N (rsize b) b t w hr hn hc hb rfl (by omega) (by omega)).mono fun e w' ⟨he, hw⟩ => ⟨?_, hw⟩
   rw [he, completeB]
   have : (((b :: t).length : Nat) : Int) = (n : Int) := by rw [List.length_cons]; omega
   rw [this]; rfl

theorem refvalid_any (A : Option Addr) (n cap : Nat) (bs : List Int) (w : World) (hr : Rd (.int .u8) w A n bs) (hn : n ≤ cap) (hc : cap ≤ 9223372036854775807) (hb : ∀ x ∈ bs, 0 ≤ x ∧ x ≤ 255) :
  Calls Tryz.prog 79 #[.agg #[.slice A n cap]] w fun e w' => e = .returned (.bool (validB bs)) ∧ Bw w w' := by
 obtain ⟨p, hp⟩ : ∃ p, prefixB bs = p := ⟨_, rfl⟩
 obtain ⟨c, hcc⟩ : ∃ c, completeB bs = c := ⟨_, rfl⟩
 have HPC : Hid (validB bs = (decide (n = 0) || (p && !c))) := Lib.hid (by
  have hl := hr.1
  cases bs with
  | nil => simp at hl; subst hl; simp [validB]
  | cons b t =>
   have : decide (n = 0) = false := by simp at hl ⊢; omega
   rw [this, ← hp, ← hcc]
   show (false || beginB (b :: t)) = _
   unfold beginB completeB
   cases h : prefixB (b :: t)
   ·rfl
   ·have hle : ((b :: t).length : Int) ≤ rsize ((b :: t).headD 0) := by
     have h2 : (decide ((t.length : Int) + 1 ≤ rsize b) && okRest (rlow b) (rhigh b) t) = true := h
     simp only [Bool.and_eq_true, decide_eq_true_eq] at h2
     simpa using h2.1
    rw [Bool.eq_iff_iff]
    simp
    simp at hle
    omega)
 have HP := Lib.hid hp
 have HC := Lib.hid hcc
 clear hp hcc
 have key : ∀ (p c : Bool), (prefixB bs = p) → (completeB bs = c) → Calls Tryz.prog 79 #[.agg #[.slice A n cap]] w fun e w' => e = .returned (.bool (decide (n = 0) || (p && !c))) ∧ Bw w w' := by
  intro p c hp hcc
  have HP := Lib.hid hp
  have HC := Lib.hid hcc
  clear hp hcc HPC
  by_cases h0 : n = 0
  ·subst h0
   go_enter Tryz.func79, Tryz.ntmps79
   go_wp2_with (go_at_call 81; refine (refprefix_any _ _ _ bs _ (by exact hr.up BWX) hn hc hb).mono ?_; rintro ee ww ⟨rfl, hbb⟩; rw [HP.out, HC.out]; obtain ⟨L1, d1, rfl⟩ := Bw.isPlus hbb; clear hbb)
   go_ret
   exact ⟨rfl, BWX⟩
  ·have hz : ((n : Int) == 0) = false := by rw [beq_eq_false_iff_ne]; omega
   have hd : decide (n = 0) = false := by simp [h0]
   cases p <;> cases c
   all_goals
    go_enter Tryz.func79, Tryz.ntmps79
    go_wp2_with (go_at_call 81; refine (refprefix_any _ _ _ bs _ (by exact hr.up BWX) hn hc hb).mono ?_; rintro ee ww ⟨rfl, hbb⟩; rw [HP.out, HC.out]; obtain ⟨L1, d1, rfl⟩ := Bw.isPlus hbb; clear hbb)
    go_ret
    exact ⟨by rw [hd]; rfl, BWX⟩
 rw [HPC.out]
 exact key p c HP.out HC.out

end Go.Proofs.YtkflooljdopldaaGreat
