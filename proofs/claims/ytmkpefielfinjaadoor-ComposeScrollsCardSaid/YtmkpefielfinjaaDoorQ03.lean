/- Parts of the proof, one after the other. -/
import Derived.Test.YtmkpefielfinjaaDoorQ02
import Derived.Test.YtmkpefielfinjaaDoorShelf
import Derived.OneCell
import Derived.Lib.OthersKept
import Derived.PlainAid
import Derived.Lib.SlBytesConst
import Derived.Deep.DeepCutAuto
import Derived.Deep.QuietTactic
set_option linter.unusedSimpArgs false
set_option linter.unusedVariables false
/- Attributes: Valid, in, made; the plain function of one parameter; walks of single, and of the reference's one. -/
namespace Go.Proofs.YtmkpefielfinjaaDoor
open Go.RowKit

def atV (f g b : Int) : Value := .agg #[.int .i64 f, .int .i64 g, .int .i64 b]
def avB (f g b : Int) : Bool := decide (0 ≤ f ∧ f ≤ 7 ∧ 0 ≤ g ∧ g ≤ 16 ∧ 0 ≤ b ∧ b ≤ 16)

theorem avalid_yes (f g b : Int) (w : World) (h : avB f g b = true) :
    Calls Tryd.prog 95 #[atV f g b] w fun e w' => e = .returned (.bool true) ∧ w.alloc (.cells #[.int .i64 f, .int .i64 g, .int .i64 b] 43) = w' := by
  have hc : 0 ≤ f ∧ f ≤ 7 ∧ 0 ≤ g ∧ g ≤ 16 ∧ 0 ≤ b ∧ b ≤ 16 := of_decide_eq_true h
  obtain ⟨c1, c2, c3, c4, c5, c6⟩ := hc
  clear h
  unfold atV
  go_enter Tryd.func95, Tryd.ntmps95
  go_wp2
  go_ret
  exact ⟨rfl, rfl⟩

theorem avalid_no (f g b : Int) (w : World) (h : avB f g b = false) :
    Calls Tryd.prog 95 #[atV f g b] w fun e w' => e = .returned (.bool false) ∧ w.alloc (.cells #[.int .i64 f, .int .i64 g, .int .i64 b] 43) = w' := by
  have hc : ¬ (0 ≤ f ∧ f ≤ 7 ∧ 0 ≤ g ∧ g ≤ 16 ∧ 0 ≤ b ∧ b ≤ 16) := of_decide_eq_false h
  have hc2 : f < 0 ∨ (0 ≤ f ∧ 7 < f) ∨ (0 ≤ f ∧ f ≤ 7 ∧ g < 0) ∨ (0 ≤ f ∧ f ≤ 7 ∧ 0 ≤ g ∧ 16 < g) ∨ (0 ≤ f ∧ f ≤ 7 ∧ 0 ≤ g ∧ g ≤ 16 ∧ b < 0) ∨ (0 ≤ f ∧ f ≤ 7 ∧ 0 ≤ g ∧ g ≤ 16 ∧ 0 ≤ b ∧ 16 < b) := by omega
  clear h hc
  unfold atV
  rcases hc2 with h1 | ⟨h1, h2⟩ | ⟨h1, h2, h3⟩ | ⟨h1, h2, h3, h4⟩ | ⟨h1, h2, h3, h4, h5⟩ | ⟨h1, h2, h3, h4, h5, h6⟩
  all_goals
    go_enter Tryd.func95, Tryd.ntmps95
    go_wp2
    go_ret
    exact ⟨by first | rfl | (refine ret_bool ?_; simp; omega), rfl⟩
theorem avalid_any (f g b : Int) (w : World) :
    Calls Tryd.prog 95 #[atV f g b] w fun e w' => e = .returned (.bool (avB f g b)) ∧ w.alloc (.cells #[.int .i64 f, .int .i64 g, .int .i64 b] 43) = w' := by
  cases h : avB f g b
  · exact avalid_no f g b w h
  · exact avalid_yes f g b w h

/-- One parameter's effect. -/
def single (f g b p : Int) : Int × Int × Int :=
  if p = 0 then (0, 0, 0) else if p = 1 then (bits .or .i64 f 1, g, b) else if p = 4 then (bits .or .i64 f 2, g, b) else if p = 7 then (bits .or .i64 f 4, g, b)
  else if p = 22 then (bits .andNot .i64 f 1, g, b) else if p = 24 then (bits .andNot .i64 f 2, g, b) else if p = 27 then (bits .andNot .i64 f 4, g, b)
  else if 30 ≤ p ∧ p ≤ 37 then (f, p - 29, b) else if 90 ≤ p ∧ p ≤ 97 then (f, p - 81, b) else if p = 39 then (f, 0, b)
  else if 40 ≤ p ∧ p ≤ 47 then (f, g, p - 39) else if 100 ≤ p ∧ p ≤ 107 then (f, g, p - 91) else if p = 49 then (f, g, 0) else (f, g, b)
end Go.Proofs.YtmkpefielfinjaaDoor

/- Attributes: the closure of Bytes that writes a parameter. -/
namespace Go.Proofs.YtmkpefielfinjaaDoor
open Go.RowKit

theorem infoB : (Tryd.prog.info? 5).map (fun i => (i.zero, i.size, i.bytes)) = some (some (.int .u8 0), 1, 1) := by kernel_rfl
/-- What the table of powers reads as, whatever the call does at its own blocks. -/
def PowT (B : Nat) (w : World) : Prop := Lib.TabBelow Tryd.prog B w "internal/strconv.uint64pow10" .u64 Lib.pow10Tab
end Go.Proofs.YtmkpefielfinjaaDoor

/- Compose: the program's line of a job. -/
namespace Go.Proofs.YtmkpefielfinjaaDoor
open Go.RowKit Go.PlainAid

/-- A character as a line shows it. -/
def clean (b : UInt8) : UInt8 := if b.toNat < 32 ∨ 126 < b.toNat then 63 else b
def nameL (s : ByteArray) : List UInt8 := s.data.toList.map clean
theorem nameL_len (s : ByteArray) : (nameL s).length = s.size := by
  unfold nameL
  rw [List.length_map, Array.length_toList]
  rfl
def cln (b : Int) : Int := if b < 32 ∨ 126 < b then 63 else b
theorem nameL_snoc (s : ByteArray) (k : Nat) (h : k < s.size) : Lib.byteCells ((nameL s).take (k + 1)) = Lib.byteCells ((nameL s).take k) ++ [.int .u8 (cln (bt s k))] := by
  have hl : k < (nameL s).length := by rw [nameL_len]; exact h
  have hk : k < s.data.size := h
  rw [List.take_succ_eq_append_getElem hl, Lib.byteCells_append]
  congr 1
  have e : (nameL s)[k] = clean (s.data[k]) := by simp [nameL]
  have e2 : bt s k = ((s.data[k]).toNat : Int) := by unfold bt; rw [dif_pos h]; rfl
  rw [e, e2]
  unfold clean cln Lib.byteCells
  by_cases hc : (s.data[k]).toNat < 32 ∨ 126 < (s.data[k]).toNat
  · rw [if_pos hc, if_pos (by omega)]; rfl
  · rw [if_neg hc, if_neg (by omega)]; rfl
def headL (mark : Bool) : List UInt8 := [if mark then 62 else 32, 32]
def runL (runs : Int) : List UInt8 := if runs = 0 then [] else [32, 126] ++ Lib.itoa runs
/-- The line of a job. -/
def lineL (s : ByteArray) (p inc runs : Int) (mark : Bool) : List UInt8 := headL mark ++ nameL s ++ [32] ++ (wordB p).data.toList ++ [32, 35] ++ Lib.itoa inc ++ runL runs
/-- A status in a block of its own. -/
def SAt (w : World) (b : Nat) (s : ByteArray) (p inc runs : Int) : Prop := w.cell? ⟨b, 0, none⟩ = some (.string s) ∧ w.cell? ⟨b, 1, none⟩ = some (.int .i64 p) ∧ w.cell? ⟨b, 2, none⟩ = some (.int .i64 inc) ∧ w.cell? ⟨b, 3, none⟩ = some (.int .i64 runs)
theorem SAt.below {w w' : World} {B b : Nat} {s : ByteArray} {p inc runs : Int} (h : SAt w b s p inc runs) (hb : Below B w w') (hl : b < B) : SAt w' b s p inc runs := by
  obtain ⟨h0, h1, h2, h3⟩ := h
  exact ⟨(Below.cell hb (p := ⟨b, 0, none⟩) hl).trans h0, (Below.cell hb (p := ⟨b, 1, none⟩) hl).trans h1, (Below.cell hb (p := ⟨b, 2, none⟩) hl).trans h2, (Below.cell hb (p := ⟨b, 3, none⟩) hl).trans h3⟩
def Ln (w wr : World) (s : ByteArray) (p inc runs : Int) : Prop := SAt wr w.heap.size s p inc runs ∧ Bw w wr
theorem Ln.step {w wr w1 : World} {s : ByteArray} {p inc runs : Int} (h : Ln w wr s p inc runs) (hb : Below (w.heap.size + 1) wr w1) : Ln w w1 s p inc runs :=
  ⟨h.1.below hb (Nat.lt_succ_self _), Below.trans h.2 (Below.mono hb (by omega))⟩
theorem Ln.lt {w wr : World} {s : ByteArray} {p inc runs : Int} (h : Ln w wr s p inc runs) : w.heap.size + 1 ≤ wr.heap.size := lt_of_cell h.1.1
theorem PowT.raise {B B' : Nat} {w : World} (h : PowT B w) (hle : B ≤ B') : PowT B' w := fun w' hb => h w' (Below.mono hb hle)
theorem own_conv {w : World} {B : Nat} {A : Option Addr} {n c m : Nat} {l : List UInt8} {xs : List Value} (h : w.ownsRow B 5 1 (.slice A n c) m xs) (hx : xs = Lib.byteCells l) : (convert 48 9 (.slice A n c)).run Tryd.prog w = .ok (.string (bs l)) w := by
  subst hx
  refine conv_bytes rfl (own_rd (e := 5) (f := .int .u8) (base := B) (m := m) (c := c) ?_)
  rw [List.map_map]
  exact h
theorem below_row {w w1 : World} {B n : Nat} {v : Value} {xs : List Value} (h : w.ownsRow B 5 1 v n xs) (hg : w.grownBy w1 v.ownBlock) (hB : B ≤ w.heap.size) : Below B w w1 :=
  Below.grown (Below.refl B w) hg hB (fun q hq => (h.lt q hq).1)

/-- A row of new memory: an own one, or a literal that has no room. -/
def OwnZ (w : World) (B : Nat) (v : Value) (n : Nat) (xs : List Value) : Prop :=
  w.ownsRow B 5 1 v n xs ∨ ∃ g, v = .slice (some ⟨g, 0, none⟩) n n ∧ xs.length = n ∧ B ≤ g ∧ n ≤ 1000 ∧ ∀ j u, xs[j]? = some u → w.cell? ((⟨g, 0, none⟩ : Addr).add j) = some u
theorem OwnZ.form {w : World} {B : Nat} {v : Value} {n : Nat} {xs : List Value} (h : OwnZ w B v n xs) : ∃ A c, v = .slice A n c ∧ n ≤ c ∧ c ≤ 9223372036854775807 := by
  rcases h with h | ⟨g, rfl, _, _, h5, _⟩
  · exact own_form h
  · exact ⟨_, n, rfl, Nat.le_refl _, by omega⟩
theorem OwnZ.len {w : World} {B : Nat} {v : Value} {n : Nat} {xs : List Value} (h : OwnZ w B v n xs) : xs.length = n := by
  rcases h with h | ⟨g, _, h, _⟩
  · simpa using h.1
  · exact h
theorem OwnZ.alloc {w : World} {B : Nat} {v : Value} {n : Nat} {xs : List Value} (h : OwnZ w B v n xs) (o : Obj) : OwnZ (w.alloc o) B v n xs := by
  rcases h with h | ⟨g, h1, h2, h3, h5, h4⟩
  · exact .inl (h.alloc o)
  · exact .inr ⟨g, h1, h2, h3, h5, fun j u hj => cell_alloc_some (h4 j u hj) o⟩
theorem OwnZ.drewN {w : World} {B : Nat} {v : Value} {n : Nat} {xs : List Value} (h : OwnZ w B v n xs) (q : Nat) : OwnZ (w.drewN q) B v n xs := by
  rcases h with h | ⟨g, h1, h2, h3, h5, h4⟩
  · exact .inl h
  · exact .inr ⟨g, h1, h2, h3, h5, fun j u hj => cell_drewN_some (h4 j u hj) q⟩
theorem wpList_append_z {ops : Array Oper} {rest : List Oper} {o : Oper} {a : Act} {Q : Exit → Act → World → Prop} {w : World} (hgd : Region.wanted o (yielded ops a.tmps) = true) (s x : Operand)
    (ho : o.op = .call { callee := .builtin .append, args := #[s, x], argTypes := #[48, 48] })
    (B : Nat) (v : Value) (n : Nat) (xs : List Value) (hs : a.eval s = v) (hown : OwnZ w B v n xs) (ad : Addr) (c : Nat) (u : Value) (hx : a.eval x = .slice (some ad) 1 c) (hc : w.cell? ad = some u) (h1 : u.oneCell' = true)
    (h63 : n + 1 ≤ 100000000000) (hB : B ≤ w.heap.size) (h : ∀ v' w', w'.ownsRow B 5 1 v' (n + 1) (xs ++ [u]) → Below B w w' → wpList Tryd.prog ops Q rest (a.put o.dst v') w') : wpList Tryd.prog ops Q (o :: rest) a w := by
  obtain ⟨i0, hi, hz0, hz1, hz2⟩ := info_parts infoB
  have hcu : ∀ j y, [u][j]? = some y → w.cell? (ad.add j) = some y := by
    intro j y hj
    match j, hj with
    | 0, hj => simp at hj; subst hj; simpa [Addr.add] using hc
  rcases hown with hown | ⟨g, rfl, hl, hg, hn, hcl⟩
  · exact wpList_append_srcG hgd s x 48 ho B 5 i0 (.int .u8 0) 1 1 Tryd.underlying48 hi hz0 hz1 hz2 rfl (by decide) v n xs hs hown (some ad) 1 c [u] hx rfl (fun e => by cases e) (fun ad' e => by cases e; exact hcu) (by simp; exact h1) (by unfold maxLen; omega) (by omega) hB (fun v' w' a1 a2 => h v' w' a1 (below_row hown a2 hB))
  · refine wpList_yes hgd fun K hK => ?_
    have hsrc : Src Tryd.prog i0.size 48 (.slice (some ad) 1 c) 1 [u] w := by rw [hz1]; exact Src.ofSlice w Tryd.underlying48 ad 1 c [u] rfl hcu (by simp; exact h1)
    have hrun := run_append_grow_src (P := Tryd.prog) w 48 48 o.type 5 i0 (.int .u8 0) Tryd.underlying48 hi hz0 (some ⟨g, 0, none⟩) n n xs (run_firstCells_some (P := Tryd.prog) w.drew i0.size n ⟨g, 0, none⟩ n n xs (by rw [hz1, hl, Nat.mul_one]) (by simpa using hcl)) _ 1 [u] hsrc (by omega) (by omega) (by rw [hz2]; exact growslice_fits (by omega) (by omega))
    have hge := grownCap_ge w (n + 1) n 5
    have hcm : grownCap w (n + 1) n 5 ≤ maxLen := grownCap_le_maxLen w (n + 1) n 5 (by unfold maxLen; omega)
    unfold Oper.wp
    simp [execOp, ho, resolve, invoke, builtin, hs, hx, hrun, Result.andThen]
    refine hK _ _ (h _ _ ⟨by simp [hl], .inr ⟨w.heap.size, _, _, rfl, hB, heap_alloc_new w.drew _, hge, hcm, ?_, ?_⟩⟩ (Below.alloc (Below.drew (Below.refl B w)) hB _))
    · have hz1 : (Value.int IntKind.u8 0).cells.size = 1 := rfl
      simp only [Array.size_append, List.size_toArray, size_zeroCells, hz1, List.length_append, List.length_cons, List.length_nil, hl]
      omega
    · rw [Array.toList_append, List.toList_toArray]
      exact List.take_left' (by simp [hl])

@[go_sem] theorem conv_lit (w : World) (C : Array Value) (n c b : Nat) (hb : b = w.heap.size) : (convert 48 48 (.slice (some ⟨b, 0, none⟩) n c)).run Tryd.prog (w.alloc (.cells C 5)) = .ok (.slice (some ⟨b, 0, none⟩) n c) (w.alloc (.cells C 5 (C.size, C.size + 1))) := by
  subst hb
  exact Lib.run_convert_bytes_const (P := Tryd.prog) w 48 5 C n c Tryd.underlying48 Tryd.underlying5
@[go_sem] theorem lit_cell0 (w : World) (x y : Value) (b : Nat) (hb : b = w.heap.size) : (w.alloc (.cells #[x, y] 5 (2, 3))).cell? ⟨b, 0, none⟩ = some x := cell_alloc_here hb rfl
@[go_sem] theorem lit_frozen0 (w : World) (x y : Value) (b : Nat) (hb : b = w.heap.size) : (w.alloc (.cells #[x, y] 5 (2, 3))).frozen? ⟨b, 0, none⟩ = false := by
  subst hb
  unfold World.frozen?
  rw [heap_alloc_new]
  rfl
@[go_sem] theorem lit_set0 (w : World) (x y u : Value) (b : Nat) (hb : b = w.heap.size) : (w.alloc (.cells #[x, y] 5 (2, 3))).setCell ⟨b, 0, none⟩ u = w.alloc (.cells #[u, y] 5 (2, 3)) := by
  subst hb
  have hm : ∀ (a : Array Obj) (x : Obj) (f : Obj → Obj), (a.push x).modify a.size f = a.push (f x) := by
    intro a x f
    apply Array.ext
    · simp
    · intro i h1 h2
      simp only [Array.getElem_modify, Array.getElem_push]
      by_cases h : a.size = i
      · subst h; simp
      · have hi : i < a.size := by simp at h1; omega
        simp [h, hi]
  unfold World.setCell World.alloc
  dsimp only
  rw [hm]
  rfl
theorem cell_two {w : World} {g : Nat} {x y : Value} (h0 : w.cell? ⟨g, 0, none⟩ = some x) (h1 : w.cell? ⟨g, 1, none⟩ = some y) : ∀ j u, [x, y][j]? = some u → w.cell? ((⟨g, 0, none⟩ : Addr).add j) = some u := by
  intro j u hj
  match j, hj with
  | 0, hj => simp at hj; subst hj; simpa [Addr.add] using h0
  | 1, hj => simp at hj; subst hj; simpa [Addr.add] using h1
theorem cln_ways (b : Int) : (b < 32 ∧ cln b = 63) ∨ (32 ≤ b ∧ 126 < b ∧ cln b = 63) ∨ (32 ≤ b ∧ b ≤ 126 ∧ cln b = b) := by
  unfold cln
  by_cases h : b < 32
  · exact .inl ⟨h, if_pos (.inl h)⟩
  by_cases h2 : 126 < b
  · exact .inr (.inl ⟨by omega, h2, if_pos (.inr h2)⟩)
  · exact .inr (.inr ⟨by omega, by omega, if_neg (by omega)⟩)

set_option maxRecDepth 100000 in
set_option maxHeartbeats 2000000 in
theorem line_any (s : ByteArray) (p inc runs : Int) (mark : Bool) (w : World) (hs : s.size ≤ 1000000000) (c0 : -9223372036854775808 ≤ inc) (c1 : inc ≤ 9223372036854775807) (r0 : -9223372036854775808 ≤ runs) (r1 : runs ≤ 9223372036854775807) (hT : WordT w) (hP : PowT w.heap.size w) :
    Calls Tryd.prog 11 #[.agg #[.string s, .int .i64 p, .int .i64 inc, .int .i64 runs], .bool mark] w fun e w' => e = .returned (.string (bs (lineL s p inc runs mark))) ∧ Bw w w' := by
  have HT := Lib.hid hT
  have HP := Lib.hid hP
  clear hT hP
  obtain ⟨i0, hi, hz0, hz1, hz2⟩ := info_parts infoB
  obtain ⟨n, hn⟩ : ∃ n, n = s.size := ⟨_, rfl⟩
  have hb := get_bt s
  have hws := wordB_size p
  have hil := Lib.itoa_length_le inc c0 c1
  have hrl := Lib.itoa_length_le runs r0 r1
  go_enter Tryd.func11, Tryd.ntmps11
  go_upto_if 10 with (fail)
  go_cut [5] (fun s5 wc => OwnZ wc (w.heap.size + 1) s5 2 (Lib.byteCells (headL mark)) ∧ Ln w wc s p inc runs)
  case first =>
    cases mark
    all_goals
      go_wp2
      go_meet
      case rel =>
        exact ⟨.inr ⟨_, rfl, rfl, by omega, by omega, cell_two (cell_alloc_here SZX rfl) (cell_alloc_here SZX rfl)⟩, ⟨CELX, CELX, CELX, CELX⟩, BWX⟩
  case rest =>
  obtain ⟨hZ, hL⟩ := hcut
  obtain ⟨A5, c5, rfl, hc5, hc5m⟩ := hZ.form
  obtain ⟨y0, y1, y2, y3⟩ := hL.1
  have HZ0 := Lib.hid hZ
  have HL0 := Lib.hid hL
  clear hZ hL
  go_wp2_with (fail)
  go_loopw [5, 16] (fun s5 i wr => ∃ k : Nat, i = .int .i64 k ∧ k ≤ n ∧ OwnZ wr (w.heap.size + 1) s5 (k + 2) (Lib.byteCells (headL mark) ++ Lib.byteCells ((nameL s).take k)) ∧ Ln w wr s p inc runs) (fun _ i _ => n - (intOf i).toNat)
  case atStart => exact ⟨0, rfl, by omega, by simpa [Lib.byteCells] using HZ0.out, HL0.out⟩
  case round =>
    obtain ⟨k, rfl, hk, hZ, hL⟩ := hrel
    clear y0 y1 y2 y3 HZ0 HL0
    obtain ⟨A5, c5, rfl, hc5, hc5m⟩ := hZ.form
    obtain ⟨y0, y1, y2, y3⟩ := hL.1
    have lt0 := hL.lt
    have HZ := Lib.hid hZ
    have HL := Lib.hid hL
    clear hZ hL
    by_cases hlt : k < n
    · have HX := nameL_snoc s k (by omega)
      have b0 := bt_nonneg s k
      have b1 := bt_le s k
      rcases cln_ways (bt s k) with ⟨h1, hc⟩ | ⟨h1, h2, hc⟩ | ⟨h1, h2, hc⟩
      all_goals
        rw [hc] at HX
        clear hc
        have HX := Lib.hid HX
        go_wp2_with (first
          | (at_builtin; refine wpList_append_z (by rfl) (.tmp 29) (.tmp 31) rfl (w.heap.size + 1) _ (k + 2) _ (by rfl) (HZ.out.alloc _) ⟨_, 0, none⟩ 1 _ (by rfl) (cell_alloc_here SZX rfl) rfl (by omega) SZX ?_; intro v1 w1 hown1 hbel1)
          | fail)
        go_roundw
        case rel =>
          refine ⟨k + 1, by go_num, by omega, ?_, (HL.out.step (Below.alloc (Below.refl _ _) lt0 _)).step hbel1⟩
          rw [HX.out, ← List.append_assoc, show k + 1 + 2 = k + 2 + 1 by omega]
          exact .inl hown1
        case measure => simp [intOf]; omega
    · have HE := Lib.hid (show (nameL s).take k = nameL s from List.take_of_length_le (by rw [nameL_len]; omega))
      have hs35 : (⟨#[32, 35]⟩ : ByteArray).size = 2 := rfl
      have hs126 : (⟨#[32, 126]⟩ : ByteArray).size = 2 := rfl
      by_cases hr : runs = 0
      · subst hr
        go_wp2_with (first
          | (at_builtin; refine wpList_append_z (by rfl) (.tmp 34) (.tmp 35) rfl (w.heap.size + 1) _ (k + 2) _ (by rfl) (HZ.out.alloc _) ⟨_, 0, none⟩ 1 (.int .u8 32) (by rfl) (cell_alloc_here SZX rfl) rfl (by omega) SZX ?_; intro v1 w1 hown1 hbel1; obtain ⟨m1, hm1, hq1⟩ : ∃ m, m = k + 2 + 1 ∧ m ≤ 1000000003 := ⟨_, rfl, by omega⟩; rw [← hm1] at hown1; have HM1 := Lib.hid hm1; clear hm1; obtain ⟨A1, k1, rfl, hk1, hk1m⟩ := own_form hown1; have hL1 := (HL.out.step (Below.alloc (Below.refl _ _) lt0 _)).step hbel1; have HO1 := Lib.hid hown1; have HL1 := Lib.hid hL1; have lt1 := hL1.lt; obtain ⟨ya1, yb1, yc1, yd1⟩ := hL1.1; clear hown1 hL1 hbel1)
          | (go_at_call 9; refine (word_any p _ (by exact HT.out.up HL1.out.2)).mono ?_; rintro ee ww ⟨rfl, rfl⟩)
          | (at_builtin; refine Lib.wpList_append_own_string _ rfl (.tmp 37) (.tmp 40) 48 9 rfl (w.heap.size + 1) 5 i0 Tryd.underlying48 Tryd.underlying9 hi hz0 hz1 hz2 (.slice A1 m1 k1) m1 _ (by rfl) HO1.out (wordB p) (by rfl) (by unfold maxLen; omega) (by omega) lt1 ?_; intro v2 w2 hown2 hg2 _; have hbel2 := below_row HO1.out hg2 lt1; clear hg2; obtain ⟨m2, hm2, hq2⟩ : ∃ m, m = m1 + (wordB p).size ∧ m ≤ 1000000011 := ⟨_, rfl, by omega⟩; rw [← hm2] at hown2; have HM2 := Lib.hid hm2; clear hm2; obtain ⟨A2, k2, rfl, hk2, hk2m⟩ := own_form hown2; have hL2 := HL1.out.step hbel2; have HO2 := Lib.hid hown2; have HL2 := Lib.hid hL2; have lt2 := hL2.lt; obtain ⟨ya2, yb2, yc2, yd2⟩ := hL2.1; clear hown2 hL2 hbel2)
          | (at_builtin; refine Lib.wpList_append_own_string _ rfl (.tmp 42) (.const (.string ⟨#[32, 35]⟩)) 48 9 rfl (w.heap.size + 1) 5 i0 Tryd.underlying48 Tryd.underlying9 hi hz0 hz1 hz2 (.slice A2 m2 k2) m2 _ (by rfl) HO2.out ⟨#[32, 35]⟩ (by rfl) (by unfold maxLen; omega) (by omega) lt2 ?_; intro v3 w3 hown3 hg3 _; have hbel3 := below_row HO2.out hg3 lt2; clear hg3; obtain ⟨m3, hm3, hq3⟩ : ∃ m, m = m2 + (⟨#[32, 35]⟩ : ByteArray).size ∧ m ≤ 1000000013 := ⟨_, rfl, by omega⟩; rw [← hm3] at hown3; have HM3 := Lib.hid hm3; clear hm3; obtain ⟨A3, k3, rfl, hk3, hk3m⟩ := own_form hown3; have hL3 := HL2.out.step hbel3; have HO3 := Lib.hid hown3; have HL3 := Lib.hid hL3; have lt3 := hL3.lt; obtain ⟨ya3, yb3, yc3, yd3⟩ := hL3.1; clear hown3 hL3 hbel3)
          | (go_at_call 23; refine (Tryd.strconv_AppendInt_10 (w.heap.size + 1) m3 inc c0 c1 (.slice A3 m3 k3) _ _ (by exact HO3.out) (by exact lt3) (by omega) (by exact PowT.raise (HP.out.on HL3.out.2) (Nat.le_succ _))).mono ?_; rintro ee w4 ⟨v4, rfl, hown4, hbel4, -⟩; obtain ⟨m4, hm4, hq4⟩ : ∃ m, m = m3 + (Lib.itoa inc).length ∧ m ≤ 1000000034 := ⟨_, rfl, by omega⟩; rw [← hm4] at hown4; have HM4 := Lib.hid hm4; clear hm4; obtain ⟨A4, k4, rfl, hk4, hk4m⟩ := own_form hown4; have hcv := own_conv (l := lineL s p inc 0 mark) hown4 (by rw [HE.out]; simp [lineL, runL, Lib.byteCells, Lib.strCells]); have hL4 := HL3.out.step hbel4; have HO4 := Lib.hid hown4; have HL4 := Lib.hid hL4; have lt4 := hL4.lt; obtain ⟨ya4, yb4, yc4, yd4⟩ := hL4.1; clear hown4 hL4 hbel4)
          | fail)
        go_ret
        exact ⟨rfl, HL4.out.2⟩
      · skip
        go_wp2_with (first
          | (at_builtin; refine wpList_append_z (by rfl) (.tmp 34) (.tmp 35) rfl (w.heap.size + 1) _ (k + 2) _ (by rfl) (HZ.out.alloc _) ⟨_, 0, none⟩ 1 (.int .u8 32) (by rfl) (cell_alloc_here SZX rfl) rfl (by omega) SZX ?_; intro v1 w1 hown1 hbel1; obtain ⟨m1, hm1, hq1⟩ : ∃ m, m = k + 2 + 1 ∧ m ≤ 1000000003 := ⟨_, rfl, by omega⟩; rw [← hm1] at hown1; have HM1 := Lib.hid hm1; clear hm1; obtain ⟨A1, k1, rfl, hk1, hk1m⟩ := own_form hown1; have hL1 := (HL.out.step (Below.alloc (Below.refl _ _) lt0 _)).step hbel1; have HO1 := Lib.hid hown1; have HL1 := Lib.hid hL1; have lt1 := hL1.lt; obtain ⟨ya1, yb1, yc1, yd1⟩ := hL1.1; clear hown1 hL1 hbel1)
          | (go_at_call 9; refine (word_any p _ (by exact HT.out.up HL1.out.2)).mono ?_; rintro ee ww ⟨rfl, rfl⟩)
          | (at_builtin; refine Lib.wpList_append_own_string _ rfl (.tmp 37) (.tmp 40) 48 9 rfl (w.heap.size + 1) 5 i0 Tryd.underlying48 Tryd.underlying9 hi hz0 hz1 hz2 (.slice A1 m1 k1) m1 _ (by rfl) HO1.out (wordB p) (by rfl) (by unfold maxLen; omega) (by omega) lt1 ?_; intro v2 w2 hown2 hg2 _; have hbel2 := below_row HO1.out hg2 lt1; clear hg2; obtain ⟨m2, hm2, hq2⟩ : ∃ m, m = m1 + (wordB p).size ∧ m ≤ 1000000011 := ⟨_, rfl, by omega⟩; rw [← hm2] at hown2; have HM2 := Lib.hid hm2; clear hm2; obtain ⟨A2, k2, rfl, hk2, hk2m⟩ := own_form hown2; have hL2 := HL1.out.step hbel2; have HO2 := Lib.hid hown2; have HL2 := Lib.hid hL2; have lt2 := hL2.lt; obtain ⟨ya2, yb2, yc2, yd2⟩ := hL2.1; clear hown2 hL2 hbel2)
          | (at_builtin; refine Lib.wpList_append_own_string _ rfl (.tmp 42) (.const (.string ⟨#[32, 35]⟩)) 48 9 rfl (w.heap.size + 1) 5 i0 Tryd.underlying48 Tryd.underlying9 hi hz0 hz1 hz2 (.slice A2 m2 k2) m2 _ (by rfl) HO2.out ⟨#[32, 35]⟩ (by rfl) (by unfold maxLen; omega) (by omega) lt2 ?_; intro v3 w3 hown3 hg3 _; have hbel3 := below_row HO2.out hg3 lt2; clear hg3; obtain ⟨m3, hm3, hq3⟩ : ∃ m, m = m2 + (⟨#[32, 35]⟩ : ByteArray).size ∧ m ≤ 1000000013 := ⟨_, rfl, by omega⟩; rw [← hm3] at hown3; have HM3 := Lib.hid hm3; clear hm3; obtain ⟨A3, k3, rfl, hk3, hk3m⟩ := own_form hown3; have hL3 := HL2.out.step hbel3; have HO3 := Lib.hid hown3; have HL3 := Lib.hid hL3; have lt3 := hL3.lt; obtain ⟨ya3, yb3, yc3, yd3⟩ := hL3.1; clear hown3 hL3 hbel3)
          | (go_at_call 23; refine (Tryd.strconv_AppendInt_10 (w.heap.size + 1) m3 inc c0 c1 (.slice A3 m3 k3) _ _ (by exact HO3.out) (by exact lt3) (by omega) (by exact PowT.raise (HP.out.on HL3.out.2) (Nat.le_succ _))).mono ?_; rintro ee w4 ⟨v4, rfl, hown4, hbel4, -⟩; obtain ⟨m4, hm4, hq4⟩ : ∃ m, m = m3 + (Lib.itoa inc).length ∧ m ≤ 1000000034 := ⟨_, rfl, by omega⟩; rw [← hm4] at hown4; have HM4 := Lib.hid hm4; clear hm4; obtain ⟨A4, k4, rfl, hk4, hk4m⟩ := own_form hown4; have hL4 := HL3.out.step hbel4; have HO4 := Lib.hid hown4; have HL4 := Lib.hid hL4; have lt4 := hL4.lt; obtain ⟨ya4, yb4, yc4, yd4⟩ := hL4.1; clear hown4 hL4 hbel4)
          | (at_builtin; refine Lib.wpList_append_own_string _ rfl (.tmp 51) (.const (.string ⟨#[32, 126]⟩)) 48 9 rfl (w.heap.size + 1) 5 i0 Tryd.underlying48 Tryd.underlying9 hi hz0 hz1 hz2 (.slice A4 m4 k4) m4 _ (by rfl) HO4.out ⟨#[32, 126]⟩ (by rfl) (by unfold maxLen; omega) (by omega) lt4 ?_; intro v5 w5 hown5 hg5 _; have hbel5 := below_row HO4.out hg5 lt4; clear hg5; obtain ⟨m5, hm5, hq5⟩ : ∃ m, m = m4 + (⟨#[32, 126]⟩ : ByteArray).size ∧ m ≤ 1000000036 := ⟨_, rfl, by omega⟩; rw [← hm5] at hown5; have HM5 := Lib.hid hm5; clear hm5; obtain ⟨A5, k5, rfl, hk5, hk5m⟩ := own_form hown5; have hL5 := HL4.out.step hbel5; have HO5 := Lib.hid hown5; have HL5 := Lib.hid hL5; have lt5 := hL5.lt; obtain ⟨ya5, yb5, yc5, yd5⟩ := hL5.1; clear hown5 hL5 hbel5)
          | (go_at_call 23; refine (Tryd.strconv_AppendInt_10 (w.heap.size + 1) m5 runs r0 r1 (.slice A5 m5 k5) _ _ (by exact HO5.out) (by exact lt5) (by omega) (by exact PowT.raise (HP.out.on HL5.out.2) (Nat.le_succ _))).mono ?_; rintro ee w6 ⟨v6, rfl, hown6, hbel6, -⟩; obtain ⟨m6, hm6, hq6⟩ : ∃ m, m = m5 + (Lib.itoa runs).length ∧ m ≤ 1000000057 := ⟨_, rfl, by omega⟩; rw [← hm6] at hown6; have HM6 := Lib.hid hm6; clear hm6; obtain ⟨A6, k6, rfl, hk6, hk6m⟩ := own_form hown6; have hcv := own_conv (l := lineL s p inc runs mark) hown6 (by rw [HE.out]; simp [lineL, runL, hr, Lib.byteCells, Lib.strCells]); have hL6 := HL5.out.step hbel6; have HO6 := Lib.hid hown6; have HL6 := Lib.hid hL6; have lt6 := hL6.lt; obtain ⟨ya6, yb6, yc6, yd6⟩ := hL6.1; clear hown6 hL6 hbel6)
          | fail)
        go_ret
        exact ⟨rfl, HL6.out.2⟩
end Go.Proofs.YtmkpefielfinjaaDoor
