/- More on slices that read as lists. -/
import Derived.Test.YtacekeobmijipaaDoorSl
set_option linter.unusedSimpArgs false
set_option linter.unusedVariables false
namespace Go.Proofs.YtacekeobmijipaaDoor
open Go.RowKit

/-- A local struct of one slice, stored to behind a callee's blocks: a list of other things reads as before. -/
theorem Rd.refit {α : Type} {f : α → Value} {w : World} {L : Array Obj} {d : Nat} {T : TypeId} {u0 u : Value} {A : Option Addr} {n : Nat} {xs : List α} (h : Rd f (plus (w.alloc (.cells #[u0] T)) L d) A n xs) (hne : ∀ x, f x ≠ u0) : Rd f (plus (w.alloc (.cells #[u] T)) L d) A n xs := by
  have e : (plus (w.alloc (.cells #[u0] T)) L d).setCell ⟨w.heap.size, 0, none⟩ u = plus (w.alloc (.cells #[u] T)) L d := by
    rw [plus_set _ _ _ _ _ (by simp)]
    simp [go_sem]
  rw [← e]
  exact h.set (u0 := u0) (by repeat (first | ((with_reducible refine cell_alloc_here ?_ ?_); (focus (first | omega | (simp only [szA, szS, szD, szN, plus_size, Array.size_append] <;> omega))); (focus rfl)) | with_reducible refine cell_alloc_some ?_ _ | with_reducible refine cell_plus_some ?_ _ _ | ((with_reducible refine cell_set_some ?_ ?_); (focus (first | omega | (simp only [szA, szS, szD, szN, plus_size, Array.size_append] <;> omega)))) | with_reducible refine cell_drew_some ?_ | with_reducible refine cell_drewN_some ?_ _)) hne u
theorem own_made {w : World} {base g : Nat} {e : TypeId} {size : Nat} (hg : g = w.heap.size) (hb : base ≤ g) : (w.alloc (.cells #[] e)).ownsRow base e size (.slice (some ⟨g, 0, none⟩) 0 0) 0 [] := by
  subst hg
  exact World.ownsRow_made w #[] 0 hb (by unfold maxLen; omega) (by simp)
theorem wpList_yes {P : Program} {w : World} {ops : Array Oper} {rest : List Oper} {o : Oper} {a : Act} {Q : Exit → Act → World → Prop} (hw : Region.wanted o (yielded ops a.tmps) = true)
    (h : ∀ K : Act → World → Prop, (∀ a w, wpList P ops Q rest a w → K a w) → o.wp P a w K Q) : wpList P ops Q (o :: rest) a w :=
  wpList_step fun K hK => by rw [if_pos hw]; exact h K hK
/-- append to a row of the call's own, from whatever slice, under a guard that lets it. -/
theorem wpList_append_srcG {P : Program} {w : World} {ops : Array Oper} {rest : List Oper} {o : Oper} {a : Act} {Q : Exit → Act → World → Prop} (hgd : Region.wanted o (yielded ops a.tmps) = true) (s x : Operand) (t : TypeId)
    (ho : o.op = .call { callee := .builtin .append, args := #[s, x], argTypes := #[t, t] })
    (base : Nat) (e : TypeId) (i : TypeInfo) (z : Value) (size bytes : Nat) (ht : P.underlying t = some (.slice e)) (hi : P.info? e = some i) (hz : i.zero = some z)
    (hsize : i.size = size) (hby : i.bytes = bytes) (hzs : z.cells.size = size) (hsz : 0 < size)
    (v : Value) (n : Nat) (xs : List Value) (hs : a.eval s = v) (hown : w.ownsRow base e size v n xs)
    (ao : Option Addr) (m c : Nat) (news : List Value) (hx : a.eval x = .slice ao m c) (hl : news.length = m * size) (hnone : ao = none → m = 0) (hnews : ∀ ad, ao = some ad → ∀ j u, news[j]? = some u → w.cell? (ad.add j) = some u) (h1 : ∀ u ∈ news, u.oneCell' = true)
    (h63 : n + m ≤ maxLen) (hbytes : (n + m) * bytes ≤ 140737488355328) (hbase : base ≤ w.heap.size)
    (h : ∀ v' w', w'.ownsRow base e size v' (n + m) (xs ++ news) → w.grownBy w' v.ownBlock → wpList P ops Q rest (a.put o.dst v') w') :
    wpList P ops Q (o :: rest) a w := by
  cases ao with
  | some ad => exact wpList_yes hgd fun _ hK => wp_append_own w s x t ho base e i z size bytes ht hi hz hsize hby hzs hsz v n xs hs hown ad m c news hx hl (hnews ad rfl) h1 h63 hbytes hbase fun v' w' h2 h3 _ => hK _ _ (h v' w' h2 h3)
  | none =>
    have hm := hnone rfl
    subst hm
    have hn : news = [] := List.eq_nil_of_length_eq_zero (by simpa using hl)
    subst hn
    obtain ⟨A', c', rfl, hle, _⟩ := own_form hown
    refine wpList_yes hgd fun K hK => ?_
    have hrun := run_append_nothing (P := P) w t t o.type e i ht hi A' n c' hle (.slice none 0 c) (Src.ofNil w ht c)
    unfold Oper.wp
    simp [execOp, ho, resolve, invoke, builtin, hs, hx, hrun, Result.andThen]
    exact hK _ _ (h _ _ (by simpa using hown) ⟨rfl, rfl, rfl, Nat.le_refl _, fun _ _ _ => rfl⟩)
/-- The same at a step of a region that draws its order. -/
theorem step_append_srcG {P : Program} {w : World} {ops : Array Oper} {o : Oper} {a : Act} {K : Act → World → Prop} {Q : Exit → Act → World → Prop} {E : Prop} (hgd : Region.wanted o (yielded ops a.tmps) = true) (s x : Operand) (t : TypeId)
    (ho : o.op = .call { callee := .builtin .append, args := #[s, x], argTypes := #[t, t] })
    (base : Nat) (e : TypeId) (i : TypeInfo) (z : Value) (size bytes : Nat) (ht : P.underlying t = some (.slice e)) (hi : P.info? e = some i) (hz : i.zero = some z)
    (hsize : i.size = size) (hby : i.bytes = bytes) (hzs : z.cells.size = size) (hsz : 0 < size)
    (v : Value) (n : Nat) (xs : List Value) (hs : a.eval s = v) (hown : w.ownsRow base e size v n xs)
    (ao : Option Addr) (m c : Nat) (news : List Value) (hx : a.eval x = .slice ao m c) (hl : news.length = m * size) (hnone : ao = none → m = 0) (hnews : ∀ ad, ao = some ad → ∀ j u, news[j]? = some u → w.cell? (ad.add j) = some u) (h1 : ∀ u ∈ news, u.oneCell' = true)
    (h63 : n + m ≤ maxLen) (hbytes : (n + m) * bytes ≤ 140737488355328) (hbase : base ≤ w.heap.size)
    (h : ∀ v' w', w'.ownsRow base e size v' (n + m) (xs ++ news) → w.grownBy w' v.ownBlock → K (a.put o.dst v') w') :
    if Region.wanted o (yielded ops a.tmps) = true then Oper.wp P o a w K Q else E := by
  rw [if_pos hgd]
  cases ao with
  | some ad => exact wp_append_own w s x t ho base e i z size bytes ht hi hz hsize hby hzs hsz v n xs hs hown ad m c news hx hl (hnews ad rfl) h1 h63 hbytes hbase fun v' w' h2 h3 _ => h v' w' h2 h3
  | none =>
    have hm := hnone rfl
    subst hm
    have hn : news = [] := List.eq_nil_of_length_eq_zero (by simpa using hl)
    subst hn
    obtain ⟨A', c', rfl, hle, _⟩ := own_form hown
    have hrun := run_append_nothing (P := P) w t t o.type e i ht hi A' n c' hle (.slice none 0 c) (Src.ofNil w ht c)
    unfold Oper.wp
    simp [execOp, ho, resolve, invoke, builtin, hs, hx, hrun, Result.andThen]
    exact h _ _ (by simpa using hown) ⟨rfl, rfl, rfl, Nat.le_refl _, fun _ _ _ => rfl⟩
end Go.Proofs.YtacekeobmijipaaDoor
