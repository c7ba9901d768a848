/- Plain laws of decoding: pieces, and that characters come back from their encodings. -/
import Derived.Test.YtagihjchhpiipaaRunM
import Derived.Test.YtagihjchhpiipaaRunI
import Derived.Test.YtagihjchhpiipaaKey
set_option linter.unusedSimpArgs false
set_option linter.unusedVariables false
namespace Go.Proofs.Ytagihjchhpiipaa
open Go.RowKit

theorem dec_cons (r : List Int) (b : Int) (t : List Int) : dec r (b :: t) = if beginB (r ++ [b]) then dec (r ++ [b]) t
    else if completeB (r ++ [b]) then emit (valN (r ++ [b])) (dec [] t)
    else if r = [] then emit 65533 (dec [] t)
    else if beginB [b] then emit 65533 (dec [b] t)
    else if completeB [b] then emit 65533 (emit (valN [b]) (dec [] t))
    else emit 65533 (emit 65533 (dec [] t)) := rfl
theorem dec_app : ∀ (b1 b2 r : List Int), dec r (b1 ++ b2) = ((dec (dec r b1).1 b2).1, (dec r b1).2 ++ (dec (dec r b1).1 b2).2)
  | [], b2, r => by simp [show dec r [] = (r, []) from rfl]
  | b :: t, b2, r => by
    have e : ∀ s, dec s (t ++ b2) = ((dec (dec s t).1 b2).1, (dec s t).2 ++ (dec (dec s t).1 b2).2) := fun s => dec_app t b2 s
    have e1 := dec_cons r b (t ++ b2)
    have e2 := dec_cons r b t
    rw [List.cons_append, e1, e2]
    simp only [e]
    by_cases h1 : beginB (r ++ [b]) = true
    · simp only [if_pos h1]
    simp only [if_neg h1]
    by_cases h2 : completeB (r ++ [b]) = true
    · simp only [if_pos h2]; rfl
    simp only [if_neg h2]
    by_cases h3 : r = []
    · simp only [if_pos h3]; rfl
    simp only [if_neg h3]
    by_cases h4 : beginB [b] = true
    · simp only [if_pos h4]; rfl
    simp only [if_neg h4]
    by_cases h5 : completeB [b] = true
    · simp only [if_pos h5]; rfl
    · simp only [if_neg h5]; rfl

theorem dec_valid : ∀ (b r : List Int), validB r = true → validB (dec r b).1 = true
  | [], r, h => by simpa [dec] using h
  | b :: t, r, h => by
    rw [dec_cons]
    have e0 : validB [] = true := rfl
    have ev : ∀ s, beginB s = true → validB s = true := fun s hs => by simp [validB, hs]
    repeat' split
    · rename_i h1; exact dec_valid t _ (ev _ h1)
    · exact dec_valid t _ e0
    · exact dec_valid t _ e0
    · rename_i h1; exact dec_valid t _ (ev _ h1)
    · exact dec_valid t _ e0
    · exact dec_valid t _ e0

theorem restB_valid {r : List Int} (h : validB r = true) : restB r = r := by unfold restB; rw [if_pos h]
theorem restB_dec (b : List Int) : restB (dec [] b).1 = (dec [] b).1 := restB_valid (dec_valid b [] rfl)

theorem dec_enc (v : Int) (hv : charB v = true) (t : List Int) : dec [] (encC v ++ t) = emit v (dec [] t) := by
  have hc : 0 ≤ v ∧ v ≤ 1114111 ∧ ¬ (55296 ≤ v ∧ v ≤ 57343) := of_decide_eq_true hv
  unfold encC
  split
  · have hs : rsize v = 1 := by unfold rsize; rw [if_pos (by omega)]
    have h1 : beginB ([] ++ [v]) = false := by simp [beginB, prefixB, okRest, hs]
    have h2 : completeB ([] ++ [v]) = true := by simp [completeB, prefixB, okRest, hs]
    show dec [] (v :: t) = _
    rw [dec_complete h1 h2]; rfl
  split
  · obtain ⟨b, hb⟩ : ∃ b, b = 192 + v / 64 := ⟨_, rfl⟩
    obtain ⟨c, hcc⟩ : ∃ c, c = 128 + v % 64 := ⟨_, rfl⟩
    rw [← hb, ← hcc]
    have hs : rsize b = 2 := by unfold rsize; rw [if_neg (by omega), if_pos (by omega)]
    have hl : rlow b = 128 := by unfold rlow; rw [if_neg (by omega), if_neg (by omega)]
    have hh : rhigh b = 191 := by unfold rhigh; rw [if_neg (by omega), if_neg (by omega)]
    have h1 : beginB ([] ++ [b]) = true := by simp [beginB, prefixB, okRest, hs]
    have p2 : prefixB [b, c] = true := by simp [prefixB, okRest, hs, hl, hh]; omega
    have h2 : beginB (([] ++ [b]) ++ [c]) = false := by simp [beginB, hs]
    have h3 : completeB (([] ++ [b]) ++ [c]) = true := by simp [completeB, p2, hs]
    show dec [] (b :: c :: t) = _
    rw [dec_begin h1, dec_complete h2 h3]
    have : valN (([] ++ [b]) ++ [c]) = v := by show b % 32 * 64 + c % 64 = v; omega
    rw [this]
  split
  · obtain ⟨b, hb⟩ : ∃ b, b = 224 + v / 64 / 64 := ⟨_, rfl⟩
    obtain ⟨c, hcc⟩ : ∃ c, c = 128 + v / 64 % 64 := ⟨_, rfl⟩
    obtain ⟨d, hd⟩ : ∃ d, d = 128 + v % 64 := ⟨_, rfl⟩
    rw [← hb, ← hcc, ← hd]
    have hs : rsize b = 3 := by unfold rsize; rw [if_neg (by omega), if_neg (by omega), if_pos (by omega)]
    have hl : rlow b ≤ c := by unfold rlow; split <;> (try split) <;> omega
    have hh : c ≤ rhigh b := by unfold rhigh; split <;> (try split) <;> omega
    have h1 : beginB ([] ++ [b]) = true := by simp [beginB, prefixB, okRest, hs]
    have p2 : prefixB [b, c] = true := by simp [prefixB, okRest, hs, hl, hh]
    have h2 : beginB (([] ++ [b]) ++ [c]) = true := by simp [beginB, p2, hs]
    have p3 : prefixB [b, c, d] = true := by simp [prefixB, okRest, hs, hl, hh]; omega
    have h3 : beginB ((([] ++ [b]) ++ [c]) ++ [d]) = false := by simp [beginB, hs]
    have h4 : completeB ((([] ++ [b]) ++ [c]) ++ [d]) = true := by simp [completeB, p3, hs]
    show dec [] (b :: c :: d :: t) = _
    rw [dec_begin h1, dec_begin h2, dec_complete h3 h4]
    have : valN ((([] ++ [b]) ++ [c]) ++ [d]) = v := by show (b % 16 * 64 + c % 64) * 64 + d % 64 = v; omega
    rw [this]
  · obtain ⟨b, hb⟩ : ∃ b, b = 240 + v / 64 / 64 / 64 := ⟨_, rfl⟩
    obtain ⟨c, hcc⟩ : ∃ c, c = 128 + v / 64 / 64 % 64 := ⟨_, rfl⟩
    obtain ⟨d, hd⟩ : ∃ d, d = 128 + v / 64 % 64 := ⟨_, rfl⟩
    obtain ⟨x, hx⟩ : ∃ x, x = 128 + v % 64 := ⟨_, rfl⟩
    rw [← hb, ← hcc, ← hd, ← hx]
    have hs : rsize b = 4 := by unfold rsize; rw [if_neg (by omega), if_neg (by omega), if_neg (by omega), if_pos (by omega)]
    have hl : rlow b ≤ c := by unfold rlow; split <;> (try split) <;> omega
    have hh : c ≤ rhigh b := by unfold rhigh; split <;> (try split) <;> omega
    have h1 : beginB ([] ++ [b]) = true := by simp [beginB, prefixB, okRest, hs]
    have p2 : prefixB [b, c] = true := by simp [prefixB, okRest, hs, hl, hh]
    have h2 : beginB (([] ++ [b]) ++ [c]) = true := by simp [beginB, p2, hs]
    have p3 : prefixB [b, c, d] = true := by simp [prefixB, okRest, hs, hl, hh]; omega
    have h3 : beginB ((([] ++ [b]) ++ [c]) ++ [d]) = true := by simp [beginB, p3, hs]
    have p4 : prefixB [b, c, d, x] = true := by simp [prefixB, okRest, hs, hl, hh]; omega
    have h4 : beginB (((([] ++ [b]) ++ [c]) ++ [d]) ++ [x]) = false := by simp [beginB, hs]
    have h5 : completeB (((([] ++ [b]) ++ [c]) ++ [d]) ++ [x]) = true := by simp [completeB, p4, hs]
    show dec [] (b :: c :: d :: x :: t) = _
    rw [dec_begin h1, dec_begin h2, dec_begin h3, dec_complete h4 h5]
    have : valN (((([] ++ [b]) ++ [c]) ++ [d]) ++ [x]) = v := by show ((b % 8 * 64 + c % 64) * 64 + d % 64) * 64 + x % 64 = v; omega
    rw [this]

theorem dec_back : ∀ (L : List Int), (∀ v ∈ L, charB v = true) → dec [] (L.flatMap encC) = ([], L)
  | [], _ => rfl
  | v :: L, h => by
    rw [List.flatMap_cons, dec_enc v (h v (by simp)), dec_back L (fun u hu => h u (by simp [hu]))]
    rfl
theorem encC_len (v : Int) : 1 ≤ (encC v).length ∧ (encC v).length ≤ 4 := by
  unfold encC
  repeat' split
  all_goals simp
theorem encC_byte (v : Int) (hv : charB v = true) : ∀ x ∈ encC v, 0 ≤ x ∧ x ≤ 255 := by
  have hc : 0 ≤ v ∧ v ≤ 1114111 ∧ ¬ (55296 ≤ v ∧ v ≤ 57343) := of_decide_eq_true hv
  unfold encC
  repeat' split
  all_goals (intro x hx; simp at hx; omega)

/-- An owned row stays what it is when a row of another element type grows. -/
theorem own_other {w w' : World} {base : Nat} {e : TypeId} {s : Nat} {v : Value} {n : Nat} {xs : List Value} {base' : Nat} {e' : TypeId} {s' : Nat} {v' : Value} {n' : Nat} {xs' : List Value} (h : w.ownsRow base e s v n xs) (h' : w.ownsRow base' e' s' v' n' xs') (hne : e ≠ e') (hg : w.grownBy w' v'.ownBlock) : w'.ownsRow base e s v n xs := by
  refine h.kept hg ?_
  rcases h.2 with ⟨rfl, -⟩ | ⟨g, cap, cur, rfl, _, hh, _⟩
  · exact .inl rfl
  · refine .inr (fun e3 => ?_)
    rcases h'.2 with ⟨rfl, -⟩ | ⟨g', cap', cur', rfl, _, hh', _⟩
    · simp [Value.ownBlock] at e3
    · simp [Value.ownBlock] at e3
      subst e3
      rw [hh] at hh'
      simp at hh'
      exact hne hh'.2
end Go.Proofs.Ytagihjchhpiipaa
