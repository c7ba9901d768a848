
/- Walk of slices.Clone at bytes, and what a slice result reads as. -/
import Derived.Test.YtagihjchhpiipaaRunB
import Derived.Maps.AppendAt
import Derived.Lib.SliceRun
set_option linter.unusedSimpArgs false
set_option linter.unusedVariables false
namespace Go.Proofs.Ytagihjchhpiipaa
open Go.RowKit

theorem infoB : (Try.prog.info? 5).map (fun i => (i.zero, i.size, i.bytes)) = some (some (.int .u8 0), 1, 1) := by kernel_rfl
theorem clone_any (A : Option Addr) (n cap : Nat) (bs : List Int) (w : World) (hr : Rd (.int .u8) w A n bs) (hn : n ≤ cap) (hc : cap ≤ 9223372036854775807) (hsm : n ≤ 140737488355328) :
    Calls Try.prog 24 #[.slice A n cap] w fun e w' => ∃ v, e = .returned v ∧ Sl (.int .u8) w' v bs ∧ Bw w w' := by
  have hq := fun (w : World) (a : Option Addr) (n c : Nat) => Lib.run_eql_slice_nil (P := Try.prog) w 23 5 a n c 0 0 Try.underlying23
  cases A with
  | none =>
    have h0 : bs = [] := by
      cases bs with
      | nil => rfl
      | cons b t => obtain ⟨g, o, e, -⟩ := hr.2 (by have := hr.1; simp at this; omega); cases e
    subst h0
    go_enter Try.func24, Try.ntmps24
    go_wp2
    go_ret
    exact ⟨_, rfl, ⟨none, 0, rfl, by simp, by omega, rfl, fun h => absurd h (by simp)⟩, (by repeat (first | with_reducible assumption | with_reducible exact Bw.refl _ | with_reducible refine Bw.alloc ?_ _ | with_reducible refine Bw.more ?_ _ _ | with_reducible refine Bw.drew ?_ | with_reducible refine Bw.drewN ?_ _ | ((with_reducible refine Bw.set2 ?_ ?_ _); (focus (first | omega | (simp only [szA, szS, szD, szN, plus_size, Array.size_append] <;> omega)))) | with_reducible refine Bw.trans ?_ (by with_reducible assumption)))⟩
  | some ad =>
    go_enter Try.func24, Try.ntmps24
    obtain ⟨i0, hi, hz0, hz1, hz2⟩ := info_parts infoB
    go_wp2_with (at_builtin; refine wpList_append_own_at _ rfl (.tmp 5) (.tmp 6) 23 rfl w.heap.size 5 i0 (.int .u8 0) 1 1 Try.underlying23 hi hz0 hz1 hz2 rfl (by decide) _ 0 [] rfl (World.ownsRow_made w #[] 0 (Nat.le_refl _) (by unfold maxLen; omega) rfl) ad n cap (bs.map (.int .u8)) rfl (by simpa using hr.1) (Rd.news (hr.up (by repeat (first | with_reducible assumption | with_reducible exact Bw.refl _ | with_reducible refine Bw.alloc ?_ _ | with_reducible refine Bw.more ?_ _ _ | with_reducible refine Bw.drew ?_ | with_reducible refine Bw.drewN ?_ _ | ((with_reducible refine Bw.set2 ?_ ?_ _); (focus (first | omega | (simp only [szA, szS, szD, szN, plus_size, Array.size_append] <;> omega)))) | with_reducible refine Bw.trans ?_ (by with_reducible assumption))))) (one_map (fun _ => rfl) _) (by unfold maxLen; omega) (by omega) (by simp) ?_; intro v1 w1 hown1 hg1 hnil1 hat1)
    go_ret
    rw [List.nil_append] at hown1
    refine ⟨_, rfl, Sl.of_own hown1, Bw.grown (Bw.alloc (Bw.refl w) _) hg1 ?_⟩
    intro k hk
    cases hk
    exact Nat.le_refl _
end Go.Proofs.Ytagihjchhpiipaa
