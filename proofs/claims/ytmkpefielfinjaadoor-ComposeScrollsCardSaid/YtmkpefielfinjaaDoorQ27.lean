/- Parts of the proof, one after the other. -/
import Derived.Test.YtmkpefielfinjaaDoorQ26
import Derived.Test.YtmkpefielfinjaaDoorQ06
import Derived.Test.YtmkpefielfinjaaDoorQ07
set_option linter.unusedSimpArgs false
set_option linter.unusedVariables false
/- Scanners: the reference's Valid, to, in. -/
namespace Go.Proofs.YtmkpefielfinjaaDoor
open Go.RowKit

/-- A scanner is valid: of its mode, private marker and parameters. -/
def scB (md pv : Int) (n : Nat) (xs : List Int) : Prop := (md ≠ 3 ∧ 0 ≤ md ∧ md ≤ 6 ∧ pv = 0 ∧ n = 0) ∨ (md = 3 ∧ 1 ≤ n ∧ n ≤ 16 ∧ (pv = 0 ∨ (60 ≤ pv ∧ pv ≤ 63)) ∧ ∀ x ∈ xs, 0 ≤ x ∧ x ≤ 9999)
/-- A valid scanner in memory. -/
def ScnOk (w : World) (md pv : Int) (A : Option Addr) (n c : Nat) (xs : List Int) : Prop := Rd (.int .i64) w A n xs ∧ n ≤ c ∧ c ≤ 9223372036854775807 ∧ scB md pv n xs
theorem ScnOk.up {w w' : World} {md pv : Int} {A : Option Addr} {n c : Nat} {xs : List Int} (h : ScnOk w md pv A n c xs) (hb : Bw w w') : ScnOk w' md pv A n c xs := ⟨h.1.up hb, h.2⟩
theorem ScnOk.to (w : World) (m : Int) (h : m ≠ 3 ∧ 0 ≤ m ∧ m ≤ 6) : ScnOk w m 0 none 0 0 [] := ⟨Rd.nil_ w none, Nat.le_refl _, by omega, .inl ⟨h.1, h.2.1, h.2.2, rfl, rfl⟩⟩
/-- An operation in memory: four cells; its parameters. -/
structure OpR where
  kd : Int
  f : Int
  pv : Int
  A : Option Addr
  n : Nat
  c : Nat
  xs : List Int
def OpR.vals (o : OpR) : List Value := [.int .i64 o.kd, .int .i64 o.f, .int .i64 o.pv, .slice o.A o.n o.c]
def OpR.Ok (w : World) (o : OpR) : Prop := Rd (.int .i64) w o.A o.n o.xs ∧ o.n ≤ o.c ∧ o.c ≤ 9223372036854775807 ∧ o.n ≤ 1000
theorem OpR.Ok.up {w w' : World} {o : OpR} (h : o.Ok w) (hb : Bw w w') : o.Ok w' := ⟨h.1.up hb, h.2⟩
/-- The operations' cells, one after the other. -/
def opsV (l : List OpR) : List Value := l.flatMap OpR.vals
theorem opsV_len (l : List OpR) : (opsV l).length = l.length * 4 := by
  induction l with
  | nil => rfl
  | cons o l ih => simp only [opsV, List.flatMap_cons, List.length_append, List.length_cons] at ih ⊢; rw [ih]; simp [OpR.vals]; omega
/-- A list of operations in memory, and all that it leans on. -/
def OpsL (w : World) (A : Option Addr) (m : Nat) (l : List OpR) : Prop :=
  l.length = m ∧ (∀ o ∈ l, o.Ok w) ∧ (A = none → m = 0) ∧ ∀ ad, A = some ad → ∀ j u, (opsV l)[j]? = some u → w.cell? (ad.add j) = some u
theorem OpsL.nil_ (w : World) : OpsL w none 0 [] := ⟨rfl, by simp, fun _ => rfl, fun ad e => by cases e⟩
/-- The list lies in a block of numbers. -/
def TyA (w : World) (A : Option Addr) : Prop := ∀ ad, A = some ad → ∃ cs fr, w.heap[ad.block]? = some (.cells cs 3 fr)
theorem TyA.none (w : World) : TyA w none := fun ad e => by cases e
theorem TyA.lt {w : World} {A : Option Addr} (h : TyA w A) : ∀ ad, A = some ad → ad.block < w.heap.size := fun ad e => by
  obtain ⟨cs, fr, h1⟩ := h ad e
  exact (Array.getElem?_eq_some_iff.1 h1).1
theorem TyA.up {w w' : World} {A : Option Addr} (h : TyA w A) (hb : Bw w w') : TyA w' A := fun ad e => by
  obtain ⟨cs, fr, h1⟩ := h ad e
  exact ⟨cs, fr, (hb.block ad.block (Array.getElem?_eq_some_iff.1 h1).1).trans h1⟩
theorem TyA.far {w w' : World} {A : Option Addr} {row : Option Nat} (h : TyA w A) (hg : w.grownBy w' row) (hne : ∀ ad, A = some ad → some ad.block ≠ row) : TyA w' A := fun ad e => by
  obtain ⟨cs, fr, h1⟩ := h ad e
  exact ⟨cs, fr, (hg.block ad.block (Array.getElem?_eq_some_iff.1 h1).1 (hne ad e)).trans h1⟩
theorem TyA.own {w : World} {base s n m c : Nat} {A : Option Addr} {xs : List Value} (h : w.ownsRow base 3 s (.slice A n c) m xs) : TyA w A := fun ad e => by
  rcases h.2 with ⟨h1, _⟩ | ⟨g, cap, cur, h1, _, hg, _⟩
  · cases h1; cases e
  · cases h1; cases e; exact ⟨cur, (0, 0), hg⟩
theorem TyA.sb {w : World} {g : Nat} {cs : Array Value} (h : Sb w g cs 3) : TyA w (some ⟨g, 0, Option.none⟩) := fun ad e => by
  cases e
  exact ⟨cs, (0, 0), h⟩
end Go.Proofs.YtmkpefielfinjaaDoor

/- Scanners: their boxes. -/
namespace Go.Proofs.YtmkpefielfinjaaDoor
open Go.RowKit

theorem wpList_store_cs {P : Program} {ops : Array Oper} {rest : List Oper} {o : Oper} {a : Act} {w : World} {Q : Exit → Act → World → Prop} (T : TypeId) (cs : Array Value) (g : Nat) (x y : Operand) (hi : (P.info? T).map (·.size) = some cs.size) (hone : cs.all (·.oneCell') = true) (ho : o.op = .store T x y) (hgd : o.guard = none)
    (hx : a.eval x = .pointer (some ⟨g, 0, none⟩)) (hy : a.eval y = .agg cs) (hg : ∃ old, Sb w g old T ∧ old.size = cs.size)
    (h : ∀ w', Sb w' g cs T → w.grownBy w' (some g) → wpList P ops Q rest (a.put o.dst undef) w') : wpList P ops Q (o :: rest) a w := by
  obtain ⟨old, hg, hold⟩ := hg
  exact wpList_store_row hgd T x y ho g cs hx hy T old hg hi hold hone
    (h _ (setRow_heap w g old _ _ _ hg) ⟨rfl, rfl, rfl, by simp [World.setRow], fun k hk hne => setRow_other w g k _ (fun e => hne (by rw [e]))⟩)
theorem Rd.far {α : Type} {f : α → Value} {w w' : World} {A : Option Addr} {n : Nat} {xs : List α} {row : Option Nat} (h : Rd f w A n xs) (hg : w.grownBy w' row) (hne : ∀ ad, A = some ad → some ad.block ≠ row) : Rd f w' A n xs := by
  refine ⟨h.1, fun h0 => ?_⟩
  obtain ⟨g, o, e, hx⟩ := h.2 h0
  refine ⟨g, o, e, fun i hi => ?_⟩
  have h1 := hx i hi
  rw [World.grownBy.cell_far hg ⟨g, o + i, none⟩ (lt_of_cell h1) (by have := hne ⟨g, o, none⟩ e; exact this)]
  exact h1
theorem ScnOk.far {w w' : World} {md pv : Int} {A : Option Addr} {n c : Nat} {xs : List Int} {row : Option Nat} (h : ScnOk w md pv A n c xs) (hg : w.grownBy w' row) (hne : ∀ ad, A = some ad → some ad.block ≠ row) : ScnOk w' md pv A n c xs := ⟨h.1.far hg hne, h.2⟩
theorem OpsL.up {w w' : World} {A : Option Addr} {m : Nat} {l : List OpR} (h : OpsL w A m l) (hb : Bw w w') : OpsL w' A m l := ⟨h.1, fun o ho => (h.2.1 o ho).up hb, h.2.2.1, fun ad e j u hu => by
  have h1 := h.2.2.2 ad e j u hu
  rw [Below.cell hb (lt_of_cell h1)]
  exact h1⟩
theorem OpsL.far {w w' : World} {A : Option Addr} {m : Nat} {l : List OpR} {row : Option Nat} (h : OpsL w A m l) (hg : w.grownBy w' row) (hne : ∀ ad, A = some ad → some ad.block ≠ row) (hno : ∀ o ∈ l, ∀ ad, o.A = some ad → some ad.block ≠ row) : OpsL w' A m l := ⟨h.1, fun o ho => ⟨(h.2.1 o ho).1.far hg (hno o ho), (h.2.1 o ho).2⟩, h.2.2.1, fun ad e j u hu => by
  have h1 := h.2.2.2 ad e j u hu
  have e2 : (ad.add j).block = ad.block := by unfold Addr.add; split <;> rfl
  rw [World.grownBy.cell_far hg _ (lt_of_cell h1) (by rw [e2]; exact hne ad e)]
  exact h1⟩
/-- One operation in a block of its own. -/
theorem OpsL.one {w : World} {g : Nat} {T : TypeId} (o : OpR) (h : Sb w g o.vals.toArray T) (ho : o.Ok w) : OpsL w (some ⟨g, 0, none⟩) 1 [o] := by
  refine ⟨rfl, by simpa using ho, (fun e => by cases e), fun ad e j u hu => ?_⟩
  cases e
  have e1 : opsV [o] = o.vals := by simp [opsV]
  rw [e1] at hu
  exact World.news_of_block h j u (by simpa using hu)
end Go.Proofs.YtmkpefielfinjaaDoor

/- Compose: which views are valid, on both sides. -/
namespace Go.Proofs.YtmkpefielfinjaaDoor
open Go.RowKit

def viewB (R C : Int) (cs : List C4) (row col : Int) : Bool := gridB R C cs && decide (0 ≤ row ∧ row < R ∧ 0 ≤ col ∧ col < C)

set_option maxRecDepth 100000 in
set_option maxHeartbeats 2000000 in
theorem gview_any (R C : Int) (A : Option Addr) (n c : Nat) (cs : List C4) (row col : Int) (hid : Bool) (w : World) (hr : Rg w A n cs) (hn : n ≤ c) (hc : c ≤ 9223372036854775807) :
    Calls Tryd.prog 35 #[.agg #[.int .i64 R, .int .i64 C, .slice A n c, .int .i64 row, .int .i64 col, .bool hid]] w fun e w' => e = .returned (.bool (viewB R C cs row col)) ∧ Bw w w' := by
  have HR := Lib.hid hr
  clear hr
  have hz : gridB R C cs = false ∨ (gridB R C cs = true ∧ row < 0) ∨ (gridB R C cs = true ∧ 0 ≤ row ∧ R ≤ row) ∨ (gridB R C cs = true ∧ (0 ≤ row ∧ row < R) ∧ col < 0) ∨ (gridB R C cs = true ∧ (0 ≤ row ∧ row < R) ∧ 0 ≤ col ∧ C ≤ col) ∨ (gridB R C cs = true ∧ (0 ≤ row ∧ row < R) ∧ 0 ≤ col ∧ col < C) := by
    cases gridB R C cs
    · exact .inl rfl
    · simp only [true_and, Bool.true_eq_false, false_or]
      omega
  rcases hz with h | ⟨h, h1⟩ | ⟨h, h1, h2⟩ | ⟨h, ⟨h1, h2⟩, h3⟩ | ⟨h, ⟨h1, h2⟩, h3, h4⟩ | ⟨h, ⟨h1, h2⟩, h3, h4⟩
  all_goals
    have HV := Lib.hid h
    first
      | (have HE := Lib.hid (show viewB R C cs row col = false by unfold viewB; rw [h, Bool.false_and]); clear h)
      | (have HE := Lib.hid (show viewB R C cs row col = false by unfold viewB; rw [h, Bool.true_and]; exact decide_eq_false (by omega)); clear h)
      | (have HE := Lib.hid (show viewB R C cs row col = true by unfold viewB; rw [h, Bool.true_and]; exact decide_eq_true (by omega)); clear h)
    go_enter Tryd.func35, Tryd.ntmps35
    go_wp2_with (first
      | (go_at_call 52; refine (ggvalid_any R C A n c cs _ (by exact HR.out.up (show Bw w _ from BWX)) hn hc).mono ?_; rintro ee wv ⟨rfl, hbv⟩; rw [HV.out]; have x0 := cell_bw hbv (cell_alloc_here (w := w) (cs := #[.int .i64 R, .int .i64 C, .slice A n c, .int .i64 row, .int .i64 col, .bool hid]) (T := 34) (fr := (0, 0)) (i := 0) rfl rfl); have x1 := cell_bw hbv (cell_alloc_here (w := w) (cs := #[.int .i64 R, .int .i64 C, .slice A n c, .int .i64 row, .int .i64 col, .bool hid]) (T := 34) (fr := (0, 0)) (i := 1) rfl rfl); have x3 := cell_bw hbv (cell_alloc_here (w := w) (cs := #[.int .i64 R, .int .i64 C, .slice A n c, .int .i64 row, .int .i64 col, .bool hid]) (T := 34) (fr := (0, 0)) (i := 3) rfl rfl); have x4 := cell_bw hbv (cell_alloc_here (w := w) (cs := #[.int .i64 R, .int .i64 C, .slice A n c, .int .i64 row, .int .i64 col, .bool hid]) (T := 34) (fr := (0, 0)) (i := 4) rfl rfl))
      | fail)
    go_ret
    exact ⟨by rw [HE.out]; first | rfl | (show Ending.returned (.bool (decide (col < C))) = _; rw [decide_eq_false (by omega)]) | (show Ending.returned (.bool (decide (col < C))) = _; rw [decide_eq_true (by omega)]), Bw.trans (show Bw w (w.alloc _) from BWX) hbv⟩
end Go.Proofs.YtmkpefielfinjaaDoor
