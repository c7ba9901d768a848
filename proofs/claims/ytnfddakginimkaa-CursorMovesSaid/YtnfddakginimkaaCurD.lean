/- ref17.Move returns what the plain function mv says. -/
import Derived.Test.YtnfddakginimkaaCurC
set_option linter.unusedSimpArgs false
set_option linter.unusedVariables false
namespace Go.Proofs.Ytnfddakginimkaa
open Go.RowKit

set_option maxHeartbeats 1000000 in
theorem rmove_no (r c : Int) (b : Bool) (kind n t m rows cols : Int) (w : World) (hr : rows ≤ 1000000) (hc : cols ≤ 1000000) (hv : vldB r c rows cols = false) :
    Calls Try.prog 10 #[.agg #[.int .i64 r, .int .i64 c, .bool b], .int .i64 kind, .int .i64 n, .agg #[.int .i64 t, .int .i64 m], .int .i64 rows, .int .i64 cols] w fun e w' => e = .returned (.agg #[.int .i64 r, .int .i64 c, .bool b]) ∧ Bw w w' := by
  have HV := Lib.hid hv
  clear hv
  go_enter Try.func10, Try.ntmps10
  go_wp2_with (go_at_call 12; refine (rvalid_any _ _ _ _ _ _).mono ?_; rintro ee ww ⟨rfl, rfl⟩; rw [HV.out])
  refine bodyPost_ret (v := ?v) ?res rfl ?post
  case res => (simp [results, Try.results10, go_sem]; rfl)
  exact ⟨rfl, (by repeat (first | with_reducible assumption | with_reducible exact Bw.refl _ | with_reducible refine Bw.alloc ?_ _ | with_reducible refine Bw.more ?_ _ _ | with_reducible refine Bw.drew ?_ | with_reducible refine Bw.drewN ?_ _ | ((with_reducible refine Bw.set2 ?_ ?_ _); (focus (first | omega | (simp only [szA, szS, szD, szN, plus_size] <;> omega)))) | with_reducible refine Bw.trans ?_ (by with_reducible assumption)))⟩

set_option maxHeartbeats 1000000 in
theorem rmove_nr (r c : Int) (b : Bool) (kind n t m rows cols : Int) (w : World) (hr : rows ≤ 1000000) (hc : cols ≤ 1000000) (hv : vldB r c rows cols = true) (hq : rgtB t m rows = false) :
    Calls Try.prog 10 #[.agg #[.int .i64 r, .int .i64 c, .bool b], .int .i64 kind, .int .i64 n, .agg #[.int .i64 t, .int .i64 m], .int .i64 rows, .int .i64 cols] w fun e w' => e = .returned (.agg #[.int .i64 r, .int .i64 c, .bool b]) ∧ Bw w w' := by
  have HV := Lib.hid hv
  have HR := Lib.hid hq
  clear hv hq
  go_enter Try.func10, Try.ntmps10
  go_wp2_with (first | (go_at_call 12; refine (rvalid_any _ _ _ _ _ _).mono ?_; rintro ee ww ⟨rfl, rfl⟩; rw [HV.out]) | (go_at_call 18; refine (rright_any _ _ _ _).mono ?_; rintro ee ww ⟨rfl, rfl⟩; rw [HR.out]))
  refine bodyPost_ret (v := ?v) ?res rfl ?post
  case res => (simp [results, Try.results10, go_sem]; rfl)
  exact ⟨rfl, (by repeat (first | with_reducible assumption | with_reducible exact Bw.refl _ | with_reducible refine Bw.alloc ?_ _ | with_reducible refine Bw.more ?_ _ _ | with_reducible refine Bw.drew ?_ | with_reducible refine Bw.drewN ?_ _ | ((with_reducible refine Bw.set2 ?_ ?_ _); (focus (first | omega | (simp only [szA, szS, szD, szN, plus_size] <;> omega)))) | with_reducible refine Bw.trans ?_ (by with_reducible assumption)))⟩

set_option maxHeartbeats 4000000 in
theorem rmove_yes (r c : Int) (b : Bool) (kind n t m rows cols : Int) (w : World) (hr : rows ≤ 1000000) (hc : cols ≤ 1000000) (hn : n ≤ 9223372036854775807) (h1 : 0 ≤ r) (h2 : r < rows) (h3 : 0 ≤ c) (h4 : c < cols) (h5 : 0 ≤ t) (h6 : t ≤ m) (h7 : m < rows) :
    Calls Try.prog 10 #[.agg #[.int .i64 r, .int .i64 c, .bool b], .int .i64 kind, .int .i64 n, .agg #[.int .i64 t, .int .i64 m], .int .i64 rows, .int .i64 cols] w fun e w' => e = .returned (curV (mv r c b kind n t m rows cols)) ∧ Bw w w' := by
  have HV := Lib.hid (show vldB r c rows cols = true from decide_eq_true ⟨h1, h2, h3, h4⟩)
  have HR := Lib.hid (show rgtB t m rows = true from decide_eq_true ⟨h5, h6, h7⟩)
  go_enter Try.func10, Try.ntmps10
  go_wp2_with (first
    | (go_at_call 12; refine (rvalid_any _ _ _ _ _ _).mono ?_; rintro ee ww ⟨rfl, rfl⟩; rw [HV.out])
    | (go_at_call 18; refine (rright_any _ _ _ _).mono ?_; rintro ee ww ⟨rfl, rfl⟩; rw [HR.out])
    | (go_at_call 17; refine (ctab_any _ _ _ _ h3 h4 hc (by omega) (by omega)).mono ?_; rintro ee ww ⟨rfl, rfl⟩))
  all_goals refine bodyPost_ret (by simp [results, Try.results10, go_sem]; rfl) rfl ⟨?_, (by repeat (first | with_reducible assumption | with_reducible exact Bw.refl _ | with_reducible refine Bw.alloc ?_ _ | with_reducible refine Bw.more ?_ _ _ | with_reducible refine Bw.drew ?_ | with_reducible refine Bw.drewN ?_ _ | ((with_reducible refine Bw.set2 ?_ ?_ _); (focus (first | omega | (simp only [szA, szS, szD, szN, plus_size] <;> omega)))) | with_reducible refine Bw.trans ?_ (by with_reducible assumption)))⟩
  all_goals (have e1 := HV.out; have e2 := HR.out; clear HV HR hr hc; try simp only [beq_iff_eq, beq_eq_false_iff_ne, ne_eq] at *)
  all_goals (first | (rw [mv_other (by omega)]; rfl) | (refine curV_ext ?_ ?_ ?_ <;> simp [mv, *] <;> first | omega | (congr 1; omega) | (unfold tabN; split <;> omega)))


theorem rmove_any (r c : Int) (b : Bool) (kind n t m rows cols : Int) (w : World) (hr : rows ≤ 1000000) (hc : cols ≤ 1000000) (hn : n ≤ 9223372036854775807) :
    Calls Try.prog 10 #[.agg #[.int .i64 r, .int .i64 c, .bool b], .int .i64 kind, .int .i64 n, .agg #[.int .i64 t, .int .i64 m], .int .i64 rows, .int .i64 cols] w fun e w' => e = .returned (curV (mv r c b kind n t m rows cols)) ∧ Bw w w' := by
  cases hv : vldB r c rows cols
  · have e : mv r c b kind n t m rows cols = (r, c, b) := by simp [mv, hv]
    rw [e]; exact rmove_no r c b kind n t m rows cols w hr hc hv
  · cases hq : rgtB t m rows
    · have e : mv r c b kind n t m rows cols = (r, c, b) := by simp [mv, hq]
      rw [e]; exact rmove_nr r c b kind n t m rows cols w hr hc hv hq
    · have h1 := of_decide_eq_true hv
      have h2 := of_decide_eq_true hq
      exact rmove_yes r c b kind n t m rows cols w hr hc hn h1.1 h1.2.1 h1.2.2.1 h1.2.2.2 h2.1 h2.2.1 h2.2.2
end Go.Proofs.Ytnfddakginimkaa
