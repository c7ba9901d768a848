/- What a slice value reads as; worlds that have only grown. -/
import Derived.Test.YtacekeobmijipaaDoorBase
import Derived.Maps.AppendAt
import Derived.Lib.SliceRun
import Derived.Deep.AppendSrc
import Derived.Deep.Upon
set_option linter.unusedSimpArgs false
set_option linter.unusedVariables false
namespace Go.Proofs.YtacekeobmijipaaDoor
open Go.RowKit

/-- What a list of one-cell elements reads as: element i lies at place i. -/
def Rd {α : Type} (f : α → Value) (w : World) (A : Option Addr) (n : Nat) (xs : List α) : Prop :=
  xs.length = n ∧ (0 < n → ∃ g o, A = some ⟨g, o, none⟩ ∧ ∀ i (h : i < xs.length), w.cell? ⟨g, o + i, none⟩ = some (f xs[i]))
/-- The value is a slice that reads as xs. -/
def Sl {α : Type} (f : α → Value) (w : World) (v : Value) (xs : List α) : Prop :=
  ∃ A c, v = .slice A xs.length c ∧ xs.length ≤ c ∧ c ≤ 9223372036854775807 ∧ Rd f w A xs.length xs
theorem Rd.up {α : Type} {f : α → Value} {w w' : World} {A : Option Addr} {n : Nat} {xs : List α} (h : Rd f w A n xs) (hb : Bw w w') : Rd f w' A n xs := by
  refine ⟨h.1, fun h0 => ?_⟩
  obtain ⟨g, o, e, hx⟩ := h.2 h0
  refine ⟨g, o, e, fun i hi => ?_⟩
  have h1 := hx i hi
  rw [Below.cell hb (p := ⟨g, o + i, none⟩) (lt_of_cell h1)]
  exact h1
theorem Sl.up {α : Type} {f : α → Value} {w w' : World} {v : Value} {xs : List α} (h : Sl f w v xs) (hb : Bw w w') : Sl f w' v xs := by
  obtain ⟨A, c, e, h1, h2, h3⟩ := h
  exact ⟨A, c, e, h1, h2, h3.up hb⟩
theorem Sl.of_own {α : Type} {f : α → Value} {w : World} {base : Nat} {e : TypeId} {v : Value} {n : Nat} {xs : List α} (h : w.ownsRow base e 1 v n (xs.map f)) : Sl f w v xs := by
  have hl : n = xs.length := by have := h.1; simp at this; omega
  subst hl
  rcases h.2 with ⟨rfl, h0⟩ | ⟨g, cap, cur, rfl, _, hh, hnc, hm, _, htake⟩
  · refine ⟨none, 0, by rw [h0], by omega, by omega, rfl, fun h1 => absurd h1 (by omega)⟩
  · refine ⟨_, cap, rfl, hnc, by unfold maxLen at hm; omega, rfl, fun h0 => ⟨g, 0, rfl, fun i hi => ?_⟩⟩
    have := h.cells (g := g) rfl i (f xs[i]) (by simp [hi])
    simpa [Addr.add, Nat.zero_add] using (show w.cell? ⟨g, 0 + i, none⟩ = _ from by by_cases hi0 : i = 0 <;> simpa [Addr.add, hi0] using this)
theorem Bw.grown {w w1 w2 : World} {row : Option Nat} (h : Bw w w1) (hg : w1.grownBy w2 row) (hr : ∀ k, row = some k → w.heap.size ≤ k) : Bw w w2 := Below.grown h hg h.size hr
theorem Rd.news {α : Type} {f : α → Value} {w : World} {ad : Addr} {n : Nat} {xs : List α} (h : Rd f w (some ad) n xs) : ∀ j u, (xs.map f)[j]? = some u → w.cell? (ad.add j) = some u := by
  intro j u hj
  rw [List.getElem?_map] at hj
  by_cases hl : j < xs.length
  · obtain ⟨g, o, e, hx⟩ := h.2 (by have := h.1; omega)
    cases e
    rw [List.getElem?_eq_getElem hl] at hj
    simp only [Option.map_some, Option.some.injEq] at hj
    subst hj
    have := hx j hl
    by_cases h0 : j = 0
    · subst h0; simpa [Addr.add] using this
    · simpa [Addr.add, h0] using this
  · rw [List.getElem?_eq_none (by omega)] at hj; cases hj
theorem one_map {α : Type} {f : α → Value} (hf : ∀ x, (f x).oneCell' = true) (xs : List α) : ∀ u ∈ xs.map f, u.oneCell' = true := by
  intro u hu
  obtain ⟨x, -, rfl⟩ := List.mem_map.1 hu
  exact hf x
theorem Bw.of_grown {w w1 : World} (h : w.grownBy w1 none) : Bw w w1 := ⟨h.os, h.tape, h.output, h.size, fun k hk => h.block k hk (by simp)⟩
theorem cell_bw {w w1 : World} {p : Addr} {v : Value} (hb : Bw w w1) (h : w.cell? p = some v) : w1.cell? p = some v := (Below.cell hb (lt_of_cell h)).trans h
theorem _root_.Go.World.ownsRow.bw {w w1 : World} {base : Nat} {e : TypeId} {s : Nat} {v : Value} {n : Nat} {xs : List Value} (h : w.ownsRow base e s v n xs) (hb : Bw w w1) : w1.ownsRow base e s v n xs := by
  have hg : w.grownBy w1 none := ⟨hb.os, hb.tape, hb.output, hb.size, fun k hk _ => hb.block k hk⟩
  refine h.kept hg ?_
  cases v.ownBlock
  · exact .inl rfl
  · exact .inr (by simp)
theorem Sl.mk' {α : Type} {f : α → Value} {w : World} {A : Option Addr} {N c : Nat} {xs : List α} (hN : N = xs.length) (h1 : N ≤ c) (h2 : c ≤ 9223372036854775807) (h3 : Rd f w A N xs) : Sl f w (.slice A N c) xs := by
  subst hN; exact ⟨A, c, rfl, h1, h2, h3⟩
theorem Rd.set {α : Type} {f : α → Value} {w : World} {A : Option Addr} {n : Nat} {xs : List α} {p : Addr} {u0 : Value} (h : Rd f w A n xs) (hp : w.cell? p = some u0) (hne : ∀ x, f x ≠ u0) (u : Value) : Rd f (w.setCell p u) A n xs := by
  refine ⟨h.1, fun h0 => ?_⟩
  obtain ⟨g, o, e, hx⟩ := h.2 h0
  refine ⟨g, o, e, fun i hi => ?_⟩
  rw [World.cell?_setCell_other]
  · exact hx i hi
  · intro e2
    have h1 := hx i hi
    rw [← e2, hp] at h1
    exact hne _ (Option.some.inj h1).symm
theorem Sl.set {α : Type} {f : α → Value} {w : World} {v : Value} {xs : List α} {p : Addr} {u0 : Value} (h : Sl f w v xs) (hp : w.cell? p = some u0) (hne : ∀ x, f x ≠ u0) (u : Value) : Sl f (w.setCell p u) v xs := by
  obtain ⟨A, c, e, h1, h2, h3⟩ := h
  exact ⟨A, c, e, h1, h2, h3.set hp hne u⟩
theorem Sl.nil_ {α : Type} {f : α → Value} (w : World) (A : Option Addr) (c : Nat) (h : c ≤ 9223372036854775807) : Sl f w (.slice A 0 c) [] := ⟨A, c, rfl, by simp, h, rfl, fun h => absurd h (by simp)⟩
theorem Rd.none_ {α : Type} {f : α → Value} {w : World} {A : Option Addr} {n : Nat} {xs : List α} (h : Rd f w A n xs) : A = none → n = 0 ∧ n = 0 := by
  intro e
  subst e
  rcases Nat.eq_zero_or_pos n with h0 | h0
  · exact ⟨h0, h0⟩
  · obtain ⟨g, o, e, -⟩ := h.2 h0; cases e
theorem Rd.news2 {α : Type} {f : α → Value} {w : World} {A : Option Addr} {n : Nat} {xs : List α} (h : Rd f w A n xs) : ∀ ad, A = some ad → ∀ j u, (xs.map f)[j]? = some u → w.cell? (ad.add j) = some u := by
  intro ad e
  subst e
  exact h.news
theorem cell_one_at {w : World} {g : Nat} {x : Value} (h : w.cell? ⟨g, 0, none⟩ = some x) : ∀ j u, [x][j]? = some u → w.cell? ((⟨g, 0, none⟩ : Addr).add j) = some u := by
  intro j u hj
  match j, hj with
  | 0, hj => simp at hj; subst hj; simpa [Addr.add] using h
theorem Sl.lit {α : Type} {f : α → Value} (w : World) (T : TypeId) (cs : Array Value) (xs : List α) (n c : Nat) (hc : cs = (xs.map f).toArray) (hn : n = xs.length) (h1 : n ≤ c) (h2 : c ≤ 9223372036854775807) : Sl f (w.alloc (.cells cs T)) (.slice (some ⟨w.heap.size, 0, none⟩) n c) xs := by
  subst hc
  refine Sl.mk' hn h1 h2 ⟨hn.symm, fun _ => ⟨_, 0, rfl, fun i hi => ?_⟩⟩
  rw [Nat.zero_add]
  exact cell_alloc_here rfl (by simp [hi])
theorem grown_refl (w : World) (r : Option Nat) : w.grownBy w r := ⟨rfl, rfl, rfl, Nat.le_refl _, fun _ _ _ => rfl⟩
theorem grown_bw {w w' : World} (h : Bw w w') (r : Option Nat) : w.grownBy w' r := ⟨h.os, h.tape, h.output, h.size, fun k hk _ => h.block k hk⟩
theorem grown_drewN {w w' : World} {r : Option Nat} (h : w.grownBy w' r) (q : Nat) : w.grownBy (w'.drewN q) r := ⟨h.os, h.tape, h.output, h.size, h.block⟩
theorem grown_set {w w' : World} {b : Nat} (h : w.grownBy w' (some b)) (o : Nat) (v : Value) : w.grownBy (w'.setCell ⟨b, o, none⟩ v) (some b) :=
  ⟨h.os, h.tape, h.output, by rw [szS]; exact h.size, fun k hk hne => (Below.heap_setCell w' ⟨b, o, none⟩ v k (fun e => hne (by rw [e]))).trans (h.block k hk hne)⟩
theorem grown_cell {w w' : World} {b : Nat} (h : w.grownBy w' (some b)) {p : Addr} (hl : p.block < w.heap.size) (hne : p.block ≠ b) : w'.cell? p = w.cell? p :=
  World.cell?_of_block (h.block _ hl (fun e => hne (Option.some.inj e)))
theorem grown_frozen {w w' : World} {b : Nat} (h : w.grownBy w' (some b)) {p : Addr} (hl : p.block < w.heap.size) (hne : p.block ≠ b) : w'.frozen? p = w.frozen? p :=
  World.frozen?_of_block (h.block _ hl (fun e => hne (Option.some.inj e)))
theorem Bw.deck {w w1 w2 : World} {b : Nat} (h : Bw w w1) (hg : w1.grownBy w2 (some b)) (hb : w.heap.size ≤ b) : Bw w w2 := Bw.grown h hg (fun k hk => by cases hk; exact hb)
/-- What an owned row's value looks like. -/
theorem own_form {w : World} {base : Nat} {e : TypeId} {s : Nat} {v : Value} {n : Nat} {xs : List Value} (h : w.ownsRow base e s v n xs) : ∃ A c, v = .slice A n c ∧ n ≤ c ∧ c ≤ 9223372036854775807 := by
  rcases h.2 with ⟨rfl, rfl⟩ | ⟨g, cap, cur, rfl, _, _, h1, h2, _⟩
  · exact ⟨none, 0, rfl, Nat.le_refl _, by omega⟩
  · exact ⟨_, cap, rfl, h1, by unfold maxLen at h2; omega⟩
theorem Rd.lit {α : Type} {f : α → Value} (w : World) (T : TypeId) (cs : Array Value) (xs : List α) (n : Nat) (hc : cs = (xs.map f).toArray) (hn : n = xs.length) : Rd f (w.alloc (.cells cs T)) (some ⟨w.heap.size, 0, none⟩) n xs := by
  subst hc
  refine ⟨hn.symm, fun _ => ⟨_, 0, rfl, fun i hi => ?_⟩⟩
  rw [Nat.zero_add]
  exact cell_alloc_here rfl (by simp [hi])
theorem Rd.nil_ {α : Type} {f : α → Value} (w : World) (A : Option Addr) : Rd f w A 0 [] := ⟨rfl, fun h => absurd h (by simp)⟩
/-- A cell of a literal block, at whatever place. -/
theorem lit_pick {α : Type} {f : α → Value} (w : World) (T : TypeId) (cs : Array Value) (xs : List α) (hc : cs = (xs.map f).toArray) (P : α → Prop) (hP : ∀ x ∈ xs, P x) (v : Int) (h0 : 0 ≤ v) (h1 : v < xs.length) :
    ∃ x, P x ∧ (w.alloc (.cells cs T)).cell? ⟨w.heap.size, v.toNat, none⟩ = some (f x) := by
  have hl : v.toNat < xs.length := by omega
  refine ⟨xs[v.toNat], hP _ (List.getElem_mem _), ?_⟩
  subst hc
  exact cell_alloc_here rfl (by simp [hl])
theorem own_deck {w w' : World} {b base : Nat} {e : TypeId} {s : Nat} {v : Value} {n : Nat} {xs : List Value} (h : w.ownsRow base e s v n xs) (hg : w.grownBy w' (some b)) (hb : b < base) : w'.ownsRow base e s v n xs := by
  refine h.kept hg ?_
  cases hv : v.ownBlock with
  | none => exact .inl rfl
  | some k => exact .inr (fun e => by cases e; have := (h.lt _ hv).1; omega)
theorem own_rd {α : Type} {f : α → Value} {w : World} {base : Nat} {e : TypeId} {A : Option Addr} {n c m : Nat} {xs : List α} (h : w.ownsRow base e 1 (.slice A n c) m (xs.map f)) : Rd f w A n xs := by
  obtain ⟨A', c', e', _, _, hR⟩ := Sl.of_own h
  cases e'
  exact hR
theorem own_nil {w : World} {base : Nat} {e : TypeId} {s : Nat} {A : Option Addr} {n c m : Nat} {xs : List Value} (h : w.ownsRow base e s (.slice A n c) m xs) : A = none → c = 0 := by
  intro e0
  subst e0
  rcases h.2 with ⟨e1, _⟩ | ⟨g, cap, cur, e1, _⟩
  · cases e1; rfl
  · cases e1
/-- append to a row of the call's own, from whatever slice. -/
theorem wpList_append_src {P : Program} {w : World} {ops : Array Oper} {rest : List Oper} {o : Oper} {a : Act} {Q : Exit → Act → World → Prop} (hgd : o.guard = none) (s x : Operand) (t : TypeId)
    (ho : o.op = .call { callee := .builtin .append, args := #[s, x], argTypes := #[t, t] })
    (base : Nat) (e : TypeId) (i : TypeInfo) (z : Value) (size bytes : Nat) (ht : P.underlying t = some (.slice e)) (hi : P.info? e = some i) (hz : i.zero = some z)
    (hsize : i.size = size) (hby : i.bytes = bytes) (hzs : z.cells.size = size) (hsz : 0 < size)
    (v : Value) (n : Nat) (xs : List Value) (hs : a.eval s = v) (hown : w.ownsRow base e size v n xs)
    (ao : Option Addr) (m c : Nat) (news : List Value) (hx : a.eval x = .slice ao m c) (hl : news.length = m * size) (hnone : ao = none → m = 0) (hnews : ∀ ad, ao = some ad → ∀ j u, news[j]? = some u → w.cell? (ad.add j) = some u) (h1 : ∀ u ∈ news, u.oneCell' = true)
    (h63 : n + m ≤ maxLen) (hbytes : (n + m) * bytes ≤ 140737488355328) (hbase : base ≤ w.heap.size)
    (h : ∀ v' w', w'.ownsRow base e size v' (n + m) (xs ++ news) → w.grownBy w' v.ownBlock → wpList P ops Q rest (a.put o.dst v') w') :
    wpList P ops Q (o :: rest) a w := by
  cases ao with
  | some ad => exact wpList_append_own w hgd s x t ho base e i z size bytes ht hi hz hsize hby hzs hsz v n xs hs hown ad m c news hx hl (hnews ad rfl) h1 h63 hbytes hbase (fun v' w' a1 a2 _ => h v' w' a1 a2)
  | none =>
    have hm := hnone rfl
    subst hm
    have hn : news = [] := List.eq_nil_of_length_eq_zero (by simpa using hl)
    subst hn
    obtain ⟨A', c', rfl, hle, _⟩ := own_form hown
    refine wpList_plain hgd fun K hK => ?_
    have hrun := run_append_nothing (P := P) w t t o.type e i ht hi A' n c' hle (.slice none 0 c) (Src.ofNil w ht c)
    unfold Oper.wp
    simp [execOp, ho, resolve, invoke, builtin, hs, hx, hrun, Result.andThen]
    exact hK _ _ (h _ _ (by simpa using hown) ⟨rfl, rfl, rfl, Nat.le_refl _, fun _ _ _ => rfl⟩)
theorem Rd.take {α : Type} {f : α → Value} {w : World} {A : Option Addr} {n : Nat} {xs : List α} (h : Rd f w A n xs) (p : Nat) (hp : p ≤ n) : Rd f w A p (xs.take p) := by
  refine ⟨by have := h.1; simp; omega, fun h0 => ?_⟩
  obtain ⟨g, o, e, hx⟩ := h.2 (by omega)
  exact ⟨g, o, e, fun i hi => by simp at hi; rw [hx i (by omega)]; simp⟩
theorem Rd.drop {α : Type} {f : α → Value} {w : World} {ad : Addr} {n : Nat} {xs : List α} (h : Rd f w (some ad) n xs) (p : Nat) (hp : p ≤ n) : Rd f w (some (ad.add p)) (n - p) (xs.drop p) := by
  refine ⟨by have := h.1; simp; omega, fun h0 => ?_⟩
  obtain ⟨g, o, e, hx⟩ := h.2 (by omega)
  cases e
  refine ⟨g, o + p, by by_cases hp0 : p = 0 <;> simp [Addr.add, hp0], fun i hi => ?_⟩
  have := hx (p + i) (by simp at hi; omega)
  rw [show o + p + i = o + (p + i) by omega, this]
  simp
theorem Sl.get {α : Type} {f : α → Value} {w : World} {v : Value} {xs : List α} (h : Sl f w v xs) {N : Nat} (hN : xs.length = N) : ∃ A c, v = .slice A N c ∧ N ≤ c ∧ c ≤ 9223372036854775807 ∧ Rd f w A N xs := by
  subst hN; exact h
end Go.Proofs.YtacekeobmijipaaDoor
