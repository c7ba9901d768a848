/- Walk of runes.value: the number that the bytes of an encoding stand for. -/
import Derived.Test.YtagihjchhpiipaaRunB
set_option linter.unusedSimpArgs false
set_option linter.unusedVariables false
namespace Go.Proofs.Ytagihjchhpiipaa
open Go.RowKit

theorem wraps_i64 (n : Int) (h₀ : 0 ≤ n) (h₁ : n < 2 ^ 63) : IntKind.i64.wrap n = n := by rw [IntKind.wrap_i64]; omega

theorem value1_any (g o cap : Nat) (b : Int) (w : World) (h0 : w.cell? ⟨g, o, none⟩ = some (.int .u8 b)) (hb : 0 ≤ b ∧ b ≤ 255) :
    Calls Try.prog 27 #[.slice (some ⟨g, o, none⟩) 1 cap] w fun e w' => e = .returned (.int .i64 b) ∧ ∃ q, w' = w.drewN q := by
  obtain ⟨b1, b2⟩ := hb
  go_enter Try.func27, Try.ntmps27
  go_wp2
  go_ret
  exact ⟨rfl, 0, rfl⟩

set_option maxHeartbeats 1000000 in
theorem value2_any (g o cap : Nat) (b c : Int) (w : World) (h0 : w.cell? ⟨g, o, none⟩ = some (.int .u8 b)) (h1 : w.cell? ⟨g, o + 1, none⟩ = some (.int .u8 c)) (hb : 0 ≤ b ∧ b ≤ 255) (hc : 0 ≤ c ∧ c ≤ 255) (hcap : (1 : Int) < cap) (hcap2 : cap ≤ 9223372036854775807) :
    Calls Try.prog 27 #[.slice (some ⟨g, o, none⟩) 2 cap] w fun e w' => e = .returned (.int .i64 ((b % 32) * 64 + c % 64)) ∧ ∃ q, w' = w.drewN q := by
  obtain ⟨b1, b2⟩ := hb
  obtain ⟨c1, c2⟩ := hc
  have e0 : bits .and .i64 b 31 = b % 32 := bits_mask .i64 63 (by decide) wraps_i64 5 (by decide) b b1 (by omega)
  have e1 : bits .or .i64 ((b % 32) * 64) (c % 64) = (b % 32) * 64 + c % 64 := bits_join .i64 63 (by decide) wraps_i64 6 _ _ (by omega) (by omega) (by omega) (by omega) (by omega) (by omega)
  go_enter Try.func27, Try.ntmps27
  go_wp2
  go_quiet (fail)
  go_wp2
  refine wp_loop_rounds 2 ?_
  rw [rounds_succ]
  go_wp2
  rw [rounds_succ]
  go_wp2
  go_ret
  exact ⟨rfl, _, rfl⟩

set_option maxHeartbeats 1000000 in
theorem value3_any (g o cap : Nat) (b c d : Int) (w : World) (h0 : w.cell? ⟨g, o, none⟩ = some (.int .u8 b)) (h1 : w.cell? ⟨g, o + 1, none⟩ = some (.int .u8 c)) (h2 : w.cell? ⟨g, o + 1 + 1, none⟩ = some (.int .u8 d)) (hb : 0 ≤ b ∧ b ≤ 255) (hc : 0 ≤ c ∧ c ≤ 255) (hd : 0 ≤ d ∧ d ≤ 255) (hcap : (1 : Int) < cap) (hcap2 : cap ≤ 9223372036854775807) :
    Calls Try.prog 27 #[.slice (some ⟨g, o, none⟩) 3 cap] w fun e w' => e = .returned (.int .i64 (((b % 16) * 64 + c % 64) * 64 + d % 64)) ∧ ∃ q, w' = w.drewN q := by
  obtain ⟨b1, b2⟩ := hb
  obtain ⟨c1, c2⟩ := hc
  obtain ⟨d1, d2⟩ := hd
  have e0 : bits .and .i64 b 15 = b % 16 := bits_mask .i64 63 (by decide) wraps_i64 4 (by decide) b b1 (by omega)
  have e1 : bits .or .i64 ((b % 16) * 64) (c % 64) = (b % 16) * 64 + c % 64 := bits_join .i64 63 (by decide) wraps_i64 6 _ _ (by omega) (by omega) (by omega) (by omega) (by omega) (by omega)
  have e2 : bits .or .i64 (((b % 16) * 64 + c % 64) * 64) (d % 64) = ((b % 16) * 64 + c % 64) * 64 + d % 64 := bits_join .i64 63 (by decide) wraps_i64 6 _ _ (by omega) (by omega) (by omega) (by omega) (by omega) (by omega)
  go_enter Try.func27, Try.ntmps27
  go_wp2
  go_quiet (fail)
  go_wp2
  refine wp_loop_rounds 3 ?_
  rw [rounds_succ]
  go_wp2
  rw [rounds_succ]
  go_wp2
  rw [rounds_succ]
  go_wp2
  go_ret
  exact ⟨rfl, _, rfl⟩

set_option maxHeartbeats 1000000 in
theorem value4_any (g o cap : Nat) (b c d x : Int) (w : World) (h0 : w.cell? ⟨g, o, none⟩ = some (.int .u8 b)) (h1 : w.cell? ⟨g, o + 1, none⟩ = some (.int .u8 c)) (h2 : w.cell? ⟨g, o + 1 + 1, none⟩ = some (.int .u8 d)) (h3 : w.cell? ⟨g, o + 1 + 2, none⟩ = some (.int .u8 x)) (hb : 0 ≤ b ∧ b ≤ 255) (hc : 0 ≤ c ∧ c ≤ 255) (hd : 0 ≤ d ∧ d ≤ 255) (hx : 0 ≤ x ∧ x ≤ 255) (hcap : (1 : Int) < cap) (hcap2 : cap ≤ 9223372036854775807) :
    Calls Try.prog 27 #[.slice (some ⟨g, o, none⟩) 4 cap] w fun e w' => e = .returned (.int .i64 ((((b % 8) * 64 + c % 64) * 64 + d % 64) * 64 + x % 64)) ∧ ∃ q, w' = w.drewN q := by
  obtain ⟨b1, b2⟩ := hb
  obtain ⟨c1, c2⟩ := hc
  obtain ⟨d1, d2⟩ := hd
  obtain ⟨x1, x2⟩ := hx
  have e0 : bits .and .i64 b 7 = b % 8 := bits_mask .i64 63 (by decide) wraps_i64 3 (by decide) b b1 (by omega)
  have e1 : bits .or .i64 ((b % 8) * 64) (c % 64) = (b % 8) * 64 + c % 64 := bits_join .i64 63 (by decide) wraps_i64 6 _ _ (by omega) (by omega) (by omega) (by omega) (by omega) (by omega)
  have e2 : bits .or .i64 (((b % 8) * 64 + c % 64) * 64) (d % 64) = ((b % 8) * 64 + c % 64) * 64 + d % 64 := bits_join .i64 63 (by decide) wraps_i64 6 _ _ (by omega) (by omega) (by omega) (by omega) (by omega) (by omega)
  have e3 : bits .or .i64 ((((b % 8) * 64 + c % 64) * 64 + d % 64) * 64) (x % 64) = (((b % 8) * 64 + c % 64) * 64 + d % 64) * 64 + x % 64 := bits_join .i64 63 (by decide) wraps_i64 6 _ _ (by omega) (by omega) (by omega) (by omega) (by omega) (by omega)
  go_enter Try.func27, Try.ntmps27
  go_wp2
  go_quiet (fail)
  go_wp2
  refine wp_loop_rounds 4 ?_
  rw [rounds_succ]
  go_wp2
  rw [rounds_succ]
  go_wp2
  rw [rounds_succ]
  go_wp2
  rw [rounds_succ]
  go_wp2
  go_ret
  exact ⟨rfl, _, rfl⟩

end Go.Proofs.Ytagihjchhpiipaa
