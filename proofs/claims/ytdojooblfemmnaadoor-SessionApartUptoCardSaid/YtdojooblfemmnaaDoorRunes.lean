/- The runes of a text, in plain terms. -/
import Derived.Test.YtdojooblfemmnaaDoorNums
import Derived.Test.YtdojooblfemmnaaDoorText
import Derived.Lib.TrimU
import Derived.Lib.TrimUEq
import Derived.Lib.MapLaws
import Derived.Lib.ValidLaws
set_option linter.unusedVariables false
set_option linter.unusedSimpArgs false
namespace Go.Proofs.YtdojooblfemmnaaDoor
open Go Go.RowKit Go.Lib
/-- The runes of a text, one behind the other; a byte that begins none is U+FFFD. -/
def runesOf (l : List UInt8) : List Int := if h : l = [] then [] else ((decodeL l).1 : Int) :: runesOf (l.drop (decodeL l).2)
termination_by l.length
decreasing_by
  have := decodeL_width l
  have : 0 < l.length := List.length_pos_iff.2 h
  simp only [List.length_drop]; omega
theorem runesOf_nil : runesOf [] = [] := by rw [runesOf]; rfl
theorem runesOf_cons {l : List UInt8} (h : l ≠ []) : runesOf l = ((decodeL l).1 : Int) :: runesOf (l.drop (decodeL l).2) := by rw [runesOf, dif_neg h]
theorem runeAt_drop (l : List UInt8) (p : Nat) : runeAt l p = decodeL (l.drop p) := (decodeL_drop ⟨l.toArray⟩ p).symm
theorem runesOf_le (l : List UInt8) : (runesOf l).length ≤ l.length := by
  have key : ∀ n (l : List UInt8), l.length < n → (runesOf l).length ≤ l.length := by
    intro n
    induction n with
    | zero => intro l h; omega
    | succ n ih =>
      intro l h
      by_cases h0 : l = []
      · rw [h0, runesOf_nil]; simp
      · have h1 := decodeL_width l
        have h2 : 0 < l.length := List.length_pos_iff.2 h0
        have := ih (l.drop (decodeL l).2) (by rw [List.length_drop]; omega)
        rw [runesOf_cons h0, List.length_cons]
        rw [List.length_drop] at this; omega
  exact key _ l (Nat.lt_succ_self _)
/-- A loop that goes through a text rune by rune. -/
theorem loop_runes {α ρ : Type} {l : List UInt8} {step : α × Nat → Option ((α × Nat) ⊕ ρ)} {f : α → Int → α} {Q : α → Nat → Prop} {last : α → ρ}
    (hq : ∀ a p, Q a p → p < l.length → Q (f a ((runeAt l p).1 : Int)) (p + (runeAt l p).2) ∧ step (a, p) = some (.inl (f a ((runeAt l p).1 : Int), p + (runeAt l p).2))) (he : ∀ a p, Q a p → ¬ p < l.length → step (a, p) = some (.inr (last a))) (a : α) (h0 : Q a 0) :
    loop step (a, 0) = some (last ((runesOf l).foldl f a)) := by
  have key : ∀ n (a : α) p, l.length - p < n → Q a p → loop step (a, p) = some (last ((runesOf (l.drop p)).foldl f a)) := by
    intro n
    induction n with
    | zero => intro a p h; omega
    | succ n ih =>
      intro a p h hQ
      by_cases hp : p < l.length
      · obtain ⟨q1, q2⟩ := hq a p hQ hp
        have hne : l.drop p ≠ [] := by intro e; have := congrArg List.length e; simp at this; omega
        have hw := decodeL_width (l.drop p)
        rw [← runeAt_drop] at hw
        rw [loop_more q2, ih _ _ (by omega) q1, runesOf_cons hne, List.foldl_cons, ← runeAt_drop, List.drop_drop]
      · rw [loop_last (he a p hQ hp), List.drop_of_length_le (by omega), runesOf_nil]; rfl
  have := key _ a 0 (Nat.lt_succ_self _) h0
  rwa [List.drop_zero] at this
/-- A valid text's runes, written again, are the text. -/
theorem u8_of_int (z : Int) (n : Nat) (h : z.toNat = n) : z.toNat.toUInt8 = UInt8.ofNat n := by rw [h]
theorem encode_is (r : Int) : (Utf8.encode r).data.toList = encodeRune r := by
  have hval : Utf8.valid r = decide ((0 ≤ r ∧ r < 55296) ∨ (57344 ≤ r ∧ r ≤ 1114111)) := by
    simp [Utf8.valid, Bool.decide_or, Bool.decide_and]
  unfold encodeRune
  by_cases h1 : 0 ≤ r ∧ r ≤ 127
  · have hv : Utf8.valid r = true := by rw [hval]; simp; omega
    rw [encodeRuneZ_one h1.1 h1.2]
    simp only [Utf8.encode, hv, if_true, if_pos (show r.toNat < 128 by omega), List.map_cons, List.map_nil]
  by_cases h2 : 128 ≤ r ∧ r ≤ 2047
  · have hv : Utf8.valid r = true := by rw [hval]; simp; omega
    rw [encodeRuneZ_two h2.1 h2.2]
    simp only [Utf8.encode, hv, if_true, if_neg (show ¬ r.toNat < 128 by omega), if_pos (show r.toNat < 2048 by omega), List.map_cons, List.map_nil]
    rw [u8_of_int (192 + r / 64) (192 + r.toNat / 64) (by omega), u8_of_int (128 + r % 64) (128 + r.toNat % 64) (by omega)]
  by_cases h3 : (2048 ≤ r ∧ r < 55296) ∨ (57343 < r ∧ r ≤ 65535)
  · have hv : Utf8.valid r = true := by rw [hval]; simp; omega
    rw [encodeRuneZ_three h3]
    simp only [Utf8.encode, hv, if_true, if_neg (show ¬ r.toNat < 128 by omega), if_neg (show ¬ r.toNat < 2048 by omega), if_pos (show r.toNat < 65536 by omega), List.map_cons, List.map_nil]
    rw [u8_of_int (224 + r / 4096) (224 + r.toNat / 4096) (by omega), u8_of_int (128 + r / 64 % 64) (128 + r.toNat / 64 % 64) (by omega), u8_of_int (128 + r % 64) (128 + r.toNat % 64) (by omega)]
  by_cases h4 : 65536 ≤ r ∧ r ≤ 1114111
  · have hv : Utf8.valid r = true := by rw [hval]; simp; omega
    rw [encodeRuneZ_four h4.1 h4.2]
    simp only [Utf8.encode, hv, if_true, if_neg (show ¬ r.toNat < 128 by omega), if_neg (show ¬ r.toNat < 2048 by omega), if_neg (show ¬ r.toNat < 65536 by omega), List.map_cons, List.map_nil]
    rw [u8_of_int (240 + r / 262144) (240 + r.toNat / 262144) (by omega), u8_of_int (128 + r / 4096 % 64) (128 + r.toNat / 4096 % 64) (by omega), u8_of_int (128 + r / 64 % 64) (128 + r.toNat / 64 % 64) (by omega), u8_of_int (128 + r % 64) (128 + r.toNat % 64) (by omega)]
  · have hv : Utf8.valid r = false := by rw [hval]; simp; omega
    have e : encodeRuneZ r = [239, 191, 189] := by simp only [encodeRuneZ, if_neg h1, if_neg h2, if_neg h3, if_neg h4]
    rw [e]
    simp only [Utf8.encode, hv, Bool.false_eq_true, if_false, Utf8.runeError]
    decide
theorem ofRunes_runesOf {l : List UInt8} (h : validD l = true) : ofRunes (runesOf l) = l := by
  have key : ∀ n (l : List UInt8), l.length < n → validD l = true → ofRunes (runesOf l) = l := by
    intro n
    induction n with
    | zero => intro l h; omega
    | succ n ih =>
      intro l h hv
      by_cases h0 : l = []
      · rw [h0, runesOf_nil]; rfl
      · rw [validD_step l h0] at hv
        have h1 := decodeL_width l
        have h2 : 0 < l.length := List.length_pos_iff.2 h0
        by_cases hb : (decodeL l).1 = 65533 ∧ (decodeL l).2 = 1
        · rw [if_pos hb] at hv; cases hv
        · rw [if_neg hb] at hv
          have := ih (l.drop (decodeL l).2) (by rw [List.length_drop]; omega) hv
          rw [runesOf_cons h0]
          unfold ofRunes at this ⊢
          rw [List.flatMap_cons, this, encode_is, encode_decode l h0 hb, List.take_append_drop]
  exact key _ l (Nat.lt_succ_self _) h
end Go.Proofs.YtdojooblfemmnaaDoor
