/- The runes of a text, in plain terms. The document's Decode tells the runes of a valid text. Layer 2's functions in plain terms. Layer 2: a value's bytes, in plain terms. Runes that are written are read again: the runes of a text that begins with them. The order of lists; the order of bytes; numbers as bytes keep their order. Layer 2: bytes that are read, in plain terms. Layer 2: what the program reads, and the document. Layer 14: schemas and rows in plain terms: which are right, which fit. Layer 14: rows in plain terms. Layer 14: schemas as bytes, in plain terms. Layer 14: the program's reader, and what bytes say as a schema. -/
import Derived.Test.YtpogdeibkghhaaaDoorNums
import Derived.Test.YtpogdeibkghhaaaDoorText
import Derived.Lib.TrimU
import Derived.Lib.TrimUEq
import Derived.Lib.MapLaws
import Derived.Lib.ValidLaws
import Derived.Test.YtpogdeibkghhaaaDoorRefS
import Derived.Test.YtpogdeibkghhaaaDoorSchema
import Derived.Test.YtpogdeibkghhaaaDoorWirL
set_option linter.unusedVariables false
set_option linter.unusedSimpArgs false
namespace Go.Proofs.YtpogdeibkghhaaaDoor
open Go Go.RowKit Go.Lib
/-- The runes of a text, one behind the other; a byte that begins none is U+FFFD. -/
def runesOf (l : List UInt8) : List Int := if h : l = [] then [] else ((decodeL l).1 : Int) :: runesOf (l.drop (decodeL l).2)
termination_by l.length
decreasing_by
  have := decodeL_width l
  have : 0 < l.length := List.length_pos_iff.2 h
  simp only [List.length_drop]; omega
theorem runesOf_nil : runesOf [] = [] := by rw [runesOf]; rfl
theorem runesOf_cons {l : List UInt8} (h : l ≠ []) : runesOf l = ((decodeL l).1 : Int) :: runesOf (l.drop (decodeL l).2) := by rw [runesOf, dif_neg h]
theorem runeAt_drop (l : List UInt8) (p : Nat) : runeAt l p = decodeL (l.drop p) := (decodeL_drop ⟨l.toArray⟩ p).symm
theorem runesOf_le (l : List UInt8) : (runesOf l).length ≤ l.length := by
  have key : ∀ n (l : List UInt8), l.length < n → (runesOf l).length ≤ l.length := by
    intro n
    induction n with
    | zero => intro l h; omega
    | succ n ih =>
      intro l h
      by_cases h0 : l = []
      · rw [h0, runesOf_nil]; simp
      · have h1 := decodeL_width l
        have h2 : 0 < l.length := List.length_pos_iff.2 h0
        have := ih (l.drop (decodeL l).2) (by rw [List.length_drop]; omega)
        rw [runesOf_cons h0, List.length_cons]
        rw [List.length_drop] at this; omega
  exact key _ l (Nat.lt_succ_self _)
/-- A loop that goes through a text rune by rune. -/
theorem loop_runes {α ρ : Type} {l : List UInt8} {step : α × Nat → Option ((α × Nat) ⊕ ρ)} {f : α → Int → α} {Q : α → Nat → Prop} {last : α → ρ}
    (hq : ∀ a p, Q a p → p < l.length → Q (f a ((runeAt l p).1 : Int)) (p + (runeAt l p).2) ∧ step (a, p) = some (.inl (f a ((runeAt l p).1 : Int), p + (runeAt l p).2))) (he : ∀ a p, Q a p → ¬ p < l.length → step (a, p) = some (.inr (last a))) (a : α) (h0 : Q a 0) :
    loop step (a, 0) = some (last ((runesOf l).foldl f a)) := by
  have key : ∀ n (a : α) p, l.length - p < n → Q a p → loop step (a, p) = some (last ((runesOf (l.drop p)).foldl f a)) := by
    intro n
    induction n with
    | zero => intro a p h; omega
    | succ n ih =>
      intro a p h hQ
      by_cases hp : p < l.length
      · obtain ⟨q1, q2⟩ := hq a p hQ hp
        have hne : l.drop p ≠ [] := by intro e; have := congrArg List.length e; simp at this; omega
        have hw := decodeL_width (l.drop p)
        rw [← runeAt_drop] at hw
        rw [loop_more q2, ih _ _ (by omega) q1, runesOf_cons hne, List.foldl_cons, ← runeAt_drop, List.drop_drop]
      · rw [loop_last (he a p hQ hp), List.drop_of_length_le (by omega), runesOf_nil]; rfl
  have := key _ a 0 (Nat.lt_succ_self _) h0
  rwa [List.drop_zero] at this
/-- A valid text's runes, written again, are the text. -/
theorem u8_of_int (z : Int) (n : Nat) (h : z.toNat = n) : z.toNat.toUInt8 = UInt8.ofNat n := by rw [h]
theorem encode_is (r : Int) : (Utf8.encode r).data.toList = encodeRune r := by
  have hval : Utf8.valid r = decide ((0 ≤ r ∧ r < 55296) ∨ (57344 ≤ r ∧ r ≤ 1114111)) := by
    simp [Utf8.valid, Bool.decide_or, Bool.decide_and]
  unfold encodeRune
  by_cases h1 : 0 ≤ r ∧ r ≤ 127
  · have hv : Utf8.valid r = true := by rw [hval]; simp; omega
    rw [encodeRuneZ_one h1.1 h1.2]
    simp only [Utf8.encode, hv, if_true, if_pos (show r.toNat < 128 by omega), List.map_cons, List.map_nil]
  by_cases h2 : 128 ≤ r ∧ r ≤ 2047
  · have hv : Utf8.valid r = true := by rw [hval]; simp; omega
    rw [encodeRuneZ_two h2.1 h2.2]
    simp only [Utf8.encode, hv, if_true, if_neg (show ¬ r.toNat < 128 by omega), if_pos (show r.toNat < 2048 by omega), List.map_cons, List.map_nil]
    rw [u8_of_int (192 + r / 64) (192 + r.toNat / 64) (by omega), u8_of_int (128 + r % 64) (128 + r.toNat % 64) (by omega)]
  by_cases h3 : (2048 ≤ r ∧ r < 55296) ∨ (57343 < r ∧ r ≤ 65535)
  · have hv : Utf8.valid r = true := by rw [hval]; simp; omega
    rw [encodeRuneZ_three h3]
    simp only [Utf8.encode, hv, if_true, if_neg (show ¬ r.toNat < 128 by omega), if_neg (show ¬ r.toNat < 2048 by omega), if_pos (show r.toNat < 65536 by omega), List.map_cons, List.map_nil]
    rw [u8_of_int (224 + r / 4096) (224 + r.toNat / 4096) (by omega), u8_of_int (128 + r / 64 % 64) (128 + r.toNat / 64 % 64) (by omega), u8_of_int (128 + r % 64) (128 + r.toNat % 64) (by omega)]
  by_cases h4 : 65536 ≤ r ∧ r ≤ 1114111
  · have hv : Utf8.valid r = true := by rw [hval]; simp; omega
    rw [encodeRuneZ_four h4.1 h4.2]
    simp only [Utf8.encode, hv, if_true, if_neg (show ¬ r.toNat < 128 by omega), if_neg (show ¬ r.toNat < 2048 by omega), if_neg (show ¬ r.toNat < 65536 by omega), List.map_cons, List.map_nil]
    rw [u8_of_int (240 + r / 262144) (240 + r.toNat / 262144) (by omega), u8_of_int (128 + r / 4096 % 64) (128 + r.toNat / 4096 % 64) (by omega), u8_of_int (128 + r / 64 % 64) (128 + r.toNat / 64 % 64) (by omega), u8_of_int (128 + r % 64) (128 + r.toNat % 64) (by omega)]
  · have hv : Utf8.valid r = false := by rw [hval]; simp; omega
    have e : encodeRuneZ r = [239, 191, 189] := by simp only [encodeRuneZ, if_neg h1, if_neg h2, if_neg h3, if_neg h4]
    rw [e]
    simp only [Utf8.encode, hv, Bool.false_eq_true, if_false, Utf8.runeError]
    decide
theorem ofRunes_runesOf {l : List UInt8} (h : validD l = true) : ofRunes (runesOf l) = l := by
  have key : ∀ n (l : List UInt8), l.length < n → validD l = true → ofRunes (runesOf l) = l := by
    intro n
    induction n with
    | zero => intro l h; omega
    | succ n ih =>
      intro l h hv
      by_cases h0 : l = []
      · rw [h0, runesOf_nil]; rfl
      · rw [validD_step l h0] at hv
        have h1 := decodeL_width l
        have h2 : 0 < l.length := List.length_pos_iff.2 h0
        by_cases hb : (decodeL l).1 = 65533 ∧ (decodeL l).2 = 1
        · rw [if_pos hb] at hv; cases hv
        · rw [if_neg hb] at hv
          have := ih (l.drop (decodeL l).2) (by rw [List.length_drop]; omega) hv
          rw [runesOf_cons h0]
          unfold ofRunes at this ⊢
          rw [List.flatMap_cons, this, encode_is, encode_decode l h0 hb, List.take_append_drop]
  exact key _ l (Nat.lt_succ_self _) h
end Go.Proofs.YtpogdeibkghhaaaDoor

set_option linter.unusedVariables false
set_option linter.unusedSimpArgs false
namespace Go.Proofs.YtpogdeibkghhaaaDoor
open Go Go.RowKit Go.Lib
theorem b_and (m : Int) (f : Nat → Nat) (h : ∀ y : Fin 256, bitsOf .and .u8 ((y.val : Nat) : Int) m = ((f y.val : Nat) : Int)) {b : Nat} (hb : b < 256) : bitsOf .and .u8 (b : Int) m = ((f b : Nat) : Int) := h ⟨b, hb⟩
theorem and31 {b : Nat} (hb : b < 256) : bitsOf .and .u8 (b : Int) 31 = ((b % 32 : Nat) : Int) := b_and 31 (· % 32) (by decide +kernel) hb
theorem and15 {b : Nat} (hb : b < 256) : bitsOf .and .u8 (b : Int) 15 = ((b % 16 : Nat) : Int) := b_and 15 (· % 16) (by decide +kernel) hb
theorem and7 {b : Nat} (hb : b < 256) : bitsOf .and .u8 (b : Int) 7 = ((b % 8 : Nat) : Int) := b_and 7 (· % 8) (by decide +kernel) hb
theorem and63 {b : Nat} (hb : b < 256) : bitsOf .and .u8 (b : Int) 63 = ((b % 64 : Nat) : Int) := b_and 63 (· % 64) (by decide +kernel) hb
theorem and192 {b : Nat} (hb : b < 256) : bitsOf .and .u8 (b : Int) 192 = ((b / 64 * 64 : Nat) : Int) := b_and 192 (· / 64 * 64) (by decide +kernel) hb
theorem i32_id {n : Int} (h : -2147483648 ≤ n ∧ n ≤ 2147483647) : IntKind.i32.wrap n = n := by rw [IntKind.wrap_i32]; omega
theorem or6 {v c : Nat} (hv : v < 33554432) (hc : c < 64) : bitsOf .or .i32 (shlI .i32 (v : Int) 6) (c : Int) = ((v * 64 + c : Nat) : Int) := by
  have h1 : shlI .i32 (v : Int) 6 = ((v * 64 : Nat) : Int) := by
    unfold shlI
    rw [show min (6 : Int).toNat IntKind.i32.bits = 6 from rfl, i32_id (by omega)]; omega
  have h2 : (v <<< 6 ||| c) = v * 64 + c := by rw [← Nat.shiftLeft_add_eq_or_of_lt (by omega), Nat.shiftLeft_eq]
  rw [h1]
  show IntKind.i32.wrap ((BitVec.ofInt 32 ((v * 64 : Nat) : Int) ||| BitVec.ofInt 32 (c : Int)).toNat : Nat) = _
  rw [BitVec.ofInt_natCast, BitVec.ofInt_natCast, BitVec.toNat_or, BitVec.toNat_ofNat, BitVec.toNat_ofNat, Nat.mod_eq_of_lt (by omega), Nat.mod_eq_of_lt (by omega), show v * 64 = v <<< 6 by rw [Nat.shiftLeft_eq], h2, i32_id (by omega), Nat.shiftLeft_eq]
section
variable {l : List UInt8} {acc : List Int} {i : Nat}
abbrev byteD (l : List UInt8) (k : Nat) : Nat := (l.getD k 0).toNat
theorem byteD_lt (l : List UInt8) (k : Nat) : byteD l k < 256 := (l.getD k 0).toNat_lt
theorem getD_at (l : List UInt8) (i k : Nat) : ((l.getD (i + k) default).toNat : Nat) = byteD (l.drop i) k := by
  unfold byteD
  rw [List.getD_eq_getElem?_getD, List.getD_eq_getElem?_getD, List.getElem?_drop]; rfl
/-- One more byte. -/
theorem ref_cont (hl : l.length ≤ 4194304) {n k c : Nat} {c0 : Int} (hk : k < n) (hn : n ≤ 4) (hi : i + k < l.length) (hc : c < 33554432) :
    ref2_Decode.st2 ((n : Int), c0) (acc, (i : Int)) l ((c : Int), (k : Int)) = if byteD (l.drop i) k / 64 = 2 then some (.inl (((c * 64 + byteD (l.drop i) k % 64 : Nat) : Int), ((k + 1 : Nat) : Int))) else some (.inr (.inl ([], false))) := by
  have w1 : IntKind.i64.wrap ((i : Int) + (k : Int)) = ((i + k : Nat) : Int) := by rw [i64_id (by omega)]; omega
  have w2 : IntKind.i64.wrap ((k : Int) + 1) = ((k + 1 : Nat) : Int) := by rw [i64_id (by omega)]; omega
  have hb := byteD_lt (l.drop i) k
  unfold ref2_Decode.st2
  simp only [w1, w2, Int.toNat_natCast, getD_at, and192 hb, and63 hb]
  rw [ite_dt (by omega), chk_pos (by omega)]
  by_cases h : byteD (l.drop i) k / 64 = 2
  · rw [if_pos h, ite_nt (by omega), chk_pos (by omega), i32_id (by omega), or6 hc (by omega)]
  · rw [if_neg h, ite_nf (by omega)]
theorem ref_done {n k c : Nat} {c0 : Int} (hk : ¬ k < n) : ref2_Decode.st2 ((n : Int), c0) (acc, (i : Int)) l ((c : Int), (k : Int)) = some (.inr (.inr (c : Int))) := by
  unfold ref2_Decode.st2
  rw [ite_df (by simp only; omega)]
/-- Is a rune of n bytes none? -/
def badR (n c : Nat) : Bool := (n == 3 && decide (c < 2048)) || (n == 4 && (decide (c < 65536) || decide (1114111 < c))) || (decide (55296 ≤ c) && decide (c < 57344))
theorem ref_end {n c : Nat} {c0 : Int} (hn : 1 ≤ n ∧ n ≤ 4) (hi : i ≤ 4194304) (ha : acc.length ≤ 4194304) : ref2_Decode.k3 ((n : Int), c0) (acc, (i : Int)) (c : Int) = if badR n c = true then some (.inr (.inl ([], false))) else some (.inl (acc ++ [(c : Int)], ((i + n : Nat) : Int))) := by
  have w : IntKind.i64.wrap ((i : Int) + (n : Int)) = ((i + n : Nat) : Int) := by rw [i64_id (by omega)]; omega
  have k4 : ∀ b : Bool, ref2_Decode.k4 (acc, (i : Int)) (c : Int) ((n : Int), c0) b = if b = true then some (.inr (.inl ([], false))) else some (.inl (acc ++ [(c : Int)], ((i + n : Nat) : Int))) := by
    intro b
    unfold ref2_Decode.k4
    rw [w, chk_pos (by simp only [List.length_singleton]; omega)]
  unfold ref2_Decode.k3
  simp only [k4]
  have e : badR n c = true ↔ ((n = 3 ∧ c < 2048) ∨ (n = 4 ∧ (c < 65536 ∨ 1114111 < c)) ∨ (55296 ≤ c ∧ c < 57344)) := by
    simp [badR, or_assoc]
  by_cases hb : badR n c = true
  · rw [if_pos hb]
    have := e.1 hb
    repeat' split
    all_goals first | rfl | (exfalso; simp_all; omega) | (exfalso; simp_all; done)
  · rw [if_neg hb]
    have := fun h => hb (e.2 h)
    repeat' split
    all_goals first | rfl | (exfalso; simp_all; omega) | (exfalso; simp_all; done)
/-- A rune of n bytes whose first is known: what the document's Decode makes of it. -/
def refR (m : List UInt8) (n c0 : Nat) : Option (Nat × Nat) :=
  if m.length < n then none
  else if n = 1 then (if badR 1 c0 then none else some (c0, 1))
  else if ¬ byteD m 1 / 64 = 2 then none
  else if n = 2 then (if badR 2 (c0 * 64 + byteD m 1 % 64) then none else some (c0 * 64 + byteD m 1 % 64, 2))
  else if ¬ byteD m 2 / 64 = 2 then none
  else if n = 3 then (if badR 3 ((c0 * 64 + byteD m 1 % 64) * 64 + byteD m 2 % 64) then none else some ((c0 * 64 + byteD m 1 % 64) * 64 + byteD m 2 % 64, 3))
  else if ¬ byteD m 3 / 64 = 2 then none
  else (if badR 4 (((c0 * 64 + byteD m 1 % 64) * 64 + byteD m 2 % 64) * 64 + byteD m 3 % 64) then none else some (((c0 * 64 + byteD m 1 % 64) * 64 + byteD m 2 % 64) * 64 + byteD m 3 % 64, 4))
def refOut (acc : List Int) (i : Nat) : Option (Nat × Nat) → Option ((List Int × Int) ⊕ ((List Int × Bool) ⊕ (List Int)))
  | none => some (.inr (.inl ([], false)))
  | some (c, n) => some (.inl (acc ++ [(c : Int)], ((i + n : Nat) : Int)))
set_option maxRecDepth 100000 in
theorem ref_k2 (hl : l.length ≤ 4194304) {n c0 : Nat} (hn : 1 ≤ n ∧ n ≤ 4) (hi : i < l.length) (hc : c0 < 128) (ha : acc.length ≤ 4194304) :
    ref2_Decode.k2 l (acc, (i : Int)) ((n : Int), (c0 : Int)) = refOut acc i (refR (l.drop i) n c0) := by
  have w : IntKind.i64.wrap ((i : Int) + (n : Int)) = ((i + n : Nat) : Int) := by rw [i64_id (by omega)]; omega
  have hlen : (l.drop i).length = l.length - i := List.length_drop
  have he := fun c => ref_end (acc := acc) (i := i) (n := n) (c := c) (c0 := (c0 : Int)) hn (by omega) ha
  unfold ref2_Decode.k2
  simp only [w]
  by_cases hs : l.length < i + n
  · rw [ite_dt (by omega)]
    unfold refR
    rw [if_pos (by omega)]; rfl
  rw [ite_df (by omega)]
  unfold refR
  rw [if_neg (by omega)]
  have one : ((c0 : Int), (1 : Int)) = ((c0 : Int), ((1 : Nat) : Int)) := rfl
  rw [one]
  by_cases h1 : n = 1
  · subst h1
    rw [loop_last (ref_done (by decide)), if_pos rfl]
    simp only [Option.bind_some]
    rw [he]; generalize badR _ _ = q; cases q <;> rfl
  rw [if_neg h1]
  have b1 := byteD_lt (l.drop i) 1
  have b2 := byteD_lt (l.drop i) 2
  have b3 := byteD_lt (l.drop i) 3
  have c1 := ref_cont (acc := acc) (i := i) (c0 := (c0 : Int)) (k := 1) (c := c0) (n := n) hl (by omega) (by omega) (by omega) (by omega)
  by_cases g1 : byteD (l.drop i) 1 / 64 = 2
  · rw [if_pos g1] at c1
    rw [if_neg (by simpa using g1), loop_more c1]
    by_cases h2 : n = 2
    · subst h2
      rw [loop_last (ref_done (by decide)), if_pos rfl]
      simp only [Option.bind_some]
      rw [he]; generalize badR _ _ = q; cases q <;> rfl
    rw [if_neg h2]
    have c2 := ref_cont (acc := acc) (i := i) (c0 := (c0 : Int)) (k := 2) (c := c0 * 64 + byteD (l.drop i) 1 % 64) (n := n) hl (by omega) (by omega) (by omega) (by omega)
    by_cases g2 : byteD (l.drop i) 2 / 64 = 2
    · rw [if_pos g2] at c2
      rw [if_neg (by simpa using g2), loop_more c2]
      by_cases h3 : n = 3
      · subst h3
        rw [loop_last (ref_done (by decide)), if_pos rfl]
        simp only [Option.bind_some]
        rw [he]; generalize badR _ _ = q; cases q <;> rfl
      rw [if_neg h3]
      have h4 : n = 4 := by omega
      subst h4
      have c3 := ref_cont (acc := acc) (i := i) (c0 := (c0 : Int)) (k := 3) (c := (c0 * 64 + byteD (l.drop i) 1 % 64) * 64 + byteD (l.drop i) 2 % 64) (n := 4) hl (by omega) (by omega) (by omega) (by omega)
      by_cases g3 : byteD (l.drop i) 3 / 64 = 2
      · rw [if_pos g3] at c3
        rw [if_neg (by simpa using g3), loop_more c3, loop_last (ref_done (by decide))]
        simp only [Option.bind_some]
        rw [he]; generalize badR _ _ = q; cases q <;> rfl
      · rw [if_neg g3] at c3
        rw [if_pos g3, loop_last c3]; rfl
    · rw [if_neg g2] at c2
      rw [if_pos g2, loop_last c2]; rfl
  · rw [if_neg g1] at c1
    rw [if_pos g1, loop_last c1]; rfl
/-- The whole step. -/
def refS (m : List UInt8) : Option (Nat × Nat) :=
  if byteD m 0 < 128 then refR m 1 (byteD m 0)
  else if 194 ≤ byteD m 0 ∧ byteD m 0 < 224 then refR m 2 (byteD m 0 % 32)
  else if 224 ≤ byteD m 0 ∧ byteD m 0 < 240 then refR m 3 (byteD m 0 % 16)
  else if 240 ≤ byteD m 0 ∧ byteD m 0 < 245 then refR m 4 (byteD m 0 % 8)
  else none
theorem ref_step (hl : l.length ≤ 4194304) (hi : i < l.length) (ha : acc.length ≤ 4194304) : ref2_Decode.st1 l (acc, (i : Int)) = refOut acc i (refS (l.drop i)) := by
  have hb := byteD_lt (l.drop i) 0
  have g0 : ((l.getD ((i : Int)).toNat default).toNat : Nat) = byteD (l.drop i) 0 := getD_at l i 0
  have k2 := fun n c0 h1 h2 => ref_k2 (acc := acc) (i := i) (n := n) (c0 := c0) hl h1 hi h2 ha
  unfold ref2_Decode.st1
  simp only [g0]
  rw [ite_dt (by omega), chk_pos (by omega)]
  unfold refS
  by_cases h1 : byteD (l.drop i) 0 < 128
  · rw [ite_dt (by omega), if_pos h1, i32_id (by omega)]
    exact k2 1 _ (by decide) h1
  rw [ite_df (by omega), if_neg h1]
  have e7 : ref2_Decode.k7 l (acc, (i : Int)) false = refOut acc i none := rfl
  have e7t : ref2_Decode.k7 l (acc, (i : Int)) true = refOut acc i (refR (l.drop i) 4 (byteD (l.drop i) 0 % 8)) := by
    unfold ref2_Decode.k7
    simp only [g0, and7 hb]
    rw [if_pos trivial, i32_id (by omega)]
    exact k2 4 _ (by decide) (by omega)
  have e6t : ref2_Decode.k6 l (acc, (i : Int)) true = refOut acc i (refR (l.drop i) 3 (byteD (l.drop i) 0 % 16)) := by
    unfold ref2_Decode.k6
    simp only [g0, and15 hb]
    rw [if_pos trivial, i32_id (by omega)]
    exact k2 3 _ (by decide) (by omega)
  have e5t : ref2_Decode.k5 l (acc, (i : Int)) true = refOut acc i (refR (l.drop i) 2 (byteD (l.drop i) 0 % 32)) := by
    unfold ref2_Decode.k5
    simp only [g0, and31 hb]
    rw [if_pos trivial, i32_id (by omega)]
    exact k2 2 _ (by decide) (by omega)
  have e6f : ref2_Decode.k6 l (acc, (i : Int)) false = refOut acc i (if 240 ≤ byteD (l.drop i) 0 ∧ byteD (l.drop i) 0 < 245 then refR (l.drop i) 4 (byteD (l.drop i) 0 % 8) else none) := by
    unfold ref2_Decode.k6
    simp only [g0]
    rw [if_neg (by simp)]
    by_cases h : 240 ≤ byteD (l.drop i) 0
    · rw [ite_dt (by omega)]
      by_cases h' : byteD (l.drop i) 0 < 245
      · rw [show decide (((byteD (l.drop i) 0 : Nat) : Int) < 245) = true by simp; omega, e7t, if_pos ⟨h, h'⟩]
      · rw [show decide (((byteD (l.drop i) 0 : Nat) : Int) < 245) = false by simp; omega, e7, if_neg (fun hh => h' hh.2)]
    · rw [ite_df (by omega), e7, if_neg (fun hh => h hh.1)]
  have e5f : ref2_Decode.k5 l (acc, (i : Int)) false = refOut acc i (if 224 ≤ byteD (l.drop i) 0 ∧ byteD (l.drop i) 0 < 240 then refR (l.drop i) 3 (byteD (l.drop i) 0 % 16) else if 240 ≤ byteD (l.drop i) 0 ∧ byteD (l.drop i) 0 < 245 then refR (l.drop i) 4 (byteD (l.drop i) 0 % 8) else none) := by
    unfold ref2_Decode.k5
    simp only [g0]
    rw [if_neg (by simp)]
    by_cases h : 224 ≤ byteD (l.drop i) 0
    · rw [ite_dt (by omega)]
      by_cases h' : byteD (l.drop i) 0 < 240
      · rw [show decide (((byteD (l.drop i) 0 : Nat) : Int) < 240) = true by simp; omega, e6t, if_pos ⟨h, h'⟩]
      · rw [show decide (((byteD (l.drop i) 0 : Nat) : Int) < 240) = false by simp; omega, e6f, if_neg (show ¬ (224 ≤ byteD (l.drop i) 0 ∧ byteD (l.drop i) 0 < 240) from fun hh => h' hh.2)]
    · rw [ite_df (by omega), e6f, if_neg (show ¬ (224 ≤ byteD (l.drop i) 0 ∧ byteD (l.drop i) 0 < 240) from fun hh => h hh.1)]
  by_cases h : 194 ≤ byteD (l.drop i) 0
  · rw [ite_dt (by omega)]
    by_cases h' : byteD (l.drop i) 0 < 224
    · rw [show decide (((byteD (l.drop i) 0 : Nat) : Int) < 224) = true by simp; omega, e5t, if_pos ⟨h, h'⟩]
    · rw [show decide (((byteD (l.drop i) 0 : Nat) : Int) < 224) = false by simp; omega, e5f, if_neg (show ¬ (194 ≤ byteD (l.drop i) 0 ∧ byteD (l.drop i) 0 < 224) from fun hh => h' hh.2)]
  · rw [ite_df (by omega), e5f, if_neg (show ¬ (194 ≤ byteD (l.drop i) 0 ∧ byteD (l.drop i) 0 < 224) from fun hh => h hh.1)]
end
/-- What is read of a rune's bytes, in numbers. -/
def refN (n b0 b1 b2 b3 : Nat) : Nat × Nat :=
  if b0 < 128 then (b0, 1)
  else if 194 ≤ b0 ∧ b0 < 224 ∧ 2 ≤ n ∧ b1 / 64 = 2 then (b0 % 32 * 64 + b1 % 64, 2)
  else if 224 ≤ b0 ∧ b0 < 240 ∧ 3 ≤ n ∧ b1 / 64 = 2 ∧ b2 / 64 = 2 ∧ 2048 ≤ (b0 % 16 * 64 + b1 % 64) * 64 + b2 % 64 ∧ ((b0 % 16 * 64 + b1 % 64) * 64 + b2 % 64 < 55296 ∨ 57344 ≤ (b0 % 16 * 64 + b1 % 64) * 64 + b2 % 64) then ((b0 % 16 * 64 + b1 % 64) * 64 + b2 % 64, 3)
  else if 240 ≤ b0 ∧ b0 < 245 ∧ 4 ≤ n ∧ b1 / 64 = 2 ∧ b2 / 64 = 2 ∧ b3 / 64 = 2 ∧ 65536 ≤ ((b0 % 8 * 64 + b1 % 64) * 64 + b2 % 64) * 64 + b3 % 64 ∧ ((b0 % 8 * 64 + b1 % 64) * 64 + b2 % 64) * 64 + b3 % 64 ≤ 1114111 then (((b0 % 8 * 64 + b1 % 64) * 64 + b2 % 64) * 64 + b3 % 64, 4)
  else (65533, 1)
theorem refN_is (n b0 b1 b2 b3 : Nat) (h0 : b0 < 256) : decodeN n b0 b1 b2 b3 = refN n b0 b1 b2 b3 := by
  unfold decodeN refN
  by_cases h1 : b0 < 128
  · rw [if_pos h1, if_pos h1]
  rw [if_neg h1, if_neg h1]
  by_cases h2 : b0 < 224
  · rw [if_neg (show ¬ (224 ≤ b0 ∧ _) from fun h => by omega), if_neg (show ¬ (240 ≤ b0 ∧ _) from fun h => by omega)]
    rw [if_neg (show ¬ (b0 / 16 = 14 ∧ _) from fun h => by omega), if_neg (show ¬ (b0 / 8 = 30 ∧ _) from fun h => by omega)]
    by_cases h3 : b0 / 32 = 6 ∧ (1 < n ∧ b1 / 64 = 2)
    · rw [if_pos h3]
      by_cases h4 : b0 % 32 * 64 + b1 % 64 ≥ 128
      · rw [if_pos h4, if_pos (by omega)]
      · rw [if_neg h4, if_neg (by omega)]
    · rw [if_neg h3, if_neg (by omega)]
  rw [if_neg (show ¬ (194 ≤ b0 ∧ _) from fun h => by omega), if_neg (show ¬ (b0 / 32 = 6 ∧ _) from fun h => by omega)]
  by_cases h3 : b0 < 240
  · rw [if_neg (show ¬ (240 ≤ b0 ∧ _) from fun h => by omega), if_neg (show ¬ (b0 / 8 = 30 ∧ _) from fun h => by omega)]
    have e : b0 % 16 * 4096 + b1 % 64 * 64 + b2 % 64 = (b0 % 16 * 64 + b1 % 64) * 64 + b2 % 64 := by omega
    rw [e]
    by_cases h4 : b0 / 16 = 14 ∧ (1 < n ∧ b1 / 64 = 2) ∧ (2 < n ∧ b2 / 64 = 2)
    · rw [if_pos h4]
      split
      · rw [if_pos (by omega)]
      · rw [if_neg (by omega)]
    · rw [if_neg h4, if_neg (by omega)]
  · rw [if_neg (show ¬ (224 ≤ b0 ∧ _) from fun h => by omega), if_neg (show ¬ (b0 / 16 = 14 ∧ _) from fun h => by omega)]
    have e : b0 % 8 * 262144 + b1 % 64 * 4096 + b2 % 64 * 64 + b3 % 64 = ((b0 % 8 * 64 + b1 % 64) * 64 + b2 % 64) * 64 + b3 % 64 := by omega
    rw [e]
    by_cases h4 : b0 / 8 = 30 ∧ (1 < n ∧ b1 / 64 = 2) ∧ (2 < n ∧ b2 / 64 = 2) ∧ (3 < n ∧ b3 / 64 = 2)
    · rw [if_pos h4]
      split
      · rw [if_pos (by omega)]
      · rw [if_neg (by omega)]
    · rw [if_neg h4, if_neg (by omega)]
theorem badR_iff (n c : Nat) : badR n c = true ↔ ((n = 3 ∧ c < 2048) ∨ (n = 4 ∧ (c < 65536 ∨ 1114111 < c)) ∨ (55296 ≤ c ∧ c < 57344)) := by simp [badR, or_assoc]
theorem badR_if {n c : Nat} {α : Type} (x y : α) : (if badR n c = true then x else y) = if ((n = 3 ∧ c < 2048) ∨ (n = 4 ∧ (c < 65536 ∨ 1114111 < c)) ∨ (55296 ≤ c ∧ c < 57344)) then x else y := by
  by_cases h : badR n c = true
  · rw [if_pos h, if_pos ((badR_iff n c).1 h)]
  · rw [if_neg h, if_neg (fun hh => h ((badR_iff n c).2 hh))]
set_option maxRecDepth 100000 in
theorem refS_is {m : List UInt8} (h : m ≠ []) : refS m = if (decodeL m).1 = 65533 ∧ (decodeL m).2 = 1 then none else some (decodeL m) := by
  have hl : 0 < m.length := List.length_pos_iff.2 h
  have hb := byteD_lt m 0
  rw [decodeL_N, refN_is _ _ _ _ _ hb]
  unfold refS refR
  simp only [badR_if]
  change _ = if (refN m.length (byteD m 0) (byteD m 1) (byteD m 2) (byteD m 3)).1 = 65533 ∧ (refN m.length (byteD m 0) (byteD m 1) (byteD m 2) (byteD m 3)).2 = 1 then none else some (refN m.length (byteD m 0) (byteD m 1) (byteD m 2) (byteD m 3))
  generalize byteD m 0 = b0 at *
  generalize byteD m 1 = b1
  generalize byteD m 2 = b2
  generalize byteD m 3 = b3
  generalize m.length = n at *
  by_cases h1 : b0 < 128
  · have e : refN n b0 b1 b2 b3 = (b0, 1) := by unfold refN; rw [if_pos h1]
    rw [e, if_pos h1, if_neg (by omega), if_pos trivial, if_neg (by omega), if_neg (by omega)]
  by_cases h2 : 194 ≤ b0 ∧ b0 < 224
  · by_cases g : 2 ≤ n ∧ b1 / 64 = 2
    · have e : refN n b0 b1 b2 b3 = (b0 % 32 * 64 + b1 % 64, 2) := by unfold refN; rw [if_neg h1, if_pos ⟨h2.1, h2.2, g.1, g.2⟩]
      rw [e, if_neg h1, if_pos h2, if_neg (by omega), if_neg (by decide), if_neg (by omega), if_pos trivial, if_neg (by omega), if_neg (by simp)]
    · have e : refN n b0 b1 b2 b3 = (65533, 1) := by
        unfold refN; rw [if_neg h1, if_neg (fun hh => g ⟨hh.2.2.1, hh.2.2.2⟩), if_neg (show ¬ (224 ≤ b0 ∧ _) from fun hh => by omega), if_neg (show ¬ (240 ≤ b0 ∧ _) from fun hh => by omega)]
      rw [e, if_neg h1, if_pos h2]
      simp only [and_self, if_true]
      by_cases gn : n < 2
      · rw [if_pos gn]
      · rw [if_neg gn, if_neg (by decide), if_pos (fun hh => g ⟨by omega, hh⟩)]
  by_cases h3 : 224 ≤ b0 ∧ b0 < 240
  · by_cases g : 3 ≤ n ∧ b1 / 64 = 2 ∧ b2 / 64 = 2 ∧ 2048 ≤ (b0 % 16 * 64 + b1 % 64) * 64 + b2 % 64 ∧ ((b0 % 16 * 64 + b1 % 64) * 64 + b2 % 64 < 55296 ∨ 57344 ≤ (b0 % 16 * 64 + b1 % 64) * 64 + b2 % 64)
    · have e : refN n b0 b1 b2 b3 = ((b0 % 16 * 64 + b1 % 64) * 64 + b2 % 64, 3) := by unfold refN; rw [if_neg h1, if_neg (show ¬ (194 ≤ b0 ∧ b0 < 224 ∧ _) from fun hh => by omega), if_pos ⟨h3.1, h3.2, g⟩]
      rw [e, if_neg h1, if_neg h2, if_pos h3, if_neg (by omega), if_neg (by decide), if_neg (by omega), if_neg (by decide), if_neg (by omega), if_pos trivial, if_neg (by omega), if_neg (by simp)]
    · have e : refN n b0 b1 b2 b3 = (65533, 1) := by
        unfold refN; rw [if_neg h1, if_neg (show ¬ (194 ≤ b0 ∧ b0 < 224 ∧ _) from fun hh => by omega), if_neg (fun hh => g hh.2.2), if_neg (show ¬ (240 ≤ b0 ∧ _) from fun hh => by omega)]
      rw [e, if_neg h1, if_neg h2, if_pos h3]
      simp only [and_self, if_true]
      by_cases gn : n < 3
      · rw [if_pos gn]
      rw [if_neg gn, if_neg (by decide)]
      by_cases g1 : b1 / 64 = 2
      · rw [if_neg (by simpa using g1), if_neg (by decide)]
        by_cases g2 : b2 / 64 = 2
        · rw [if_neg (by simpa using g2), if_pos (by simp only [true_and]; omega)]
        · rw [if_pos g2]
      · rw [if_pos g1]
  by_cases h4 : 240 ≤ b0 ∧ b0 < 245
  · by_cases g : 4 ≤ n ∧ b1 / 64 = 2 ∧ b2 / 64 = 2 ∧ b3 / 64 = 2 ∧ 65536 ≤ ((b0 % 8 * 64 + b1 % 64) * 64 + b2 % 64) * 64 + b3 % 64 ∧ ((b0 % 8 * 64 + b1 % 64) * 64 + b2 % 64) * 64 + b3 % 64 ≤ 1114111
    · have e : refN n b0 b1 b2 b3 = (((b0 % 8 * 64 + b1 % 64) * 64 + b2 % 64) * 64 + b3 % 64, 4) := by unfold refN; rw [if_neg h1, if_neg (show ¬ (194 ≤ b0 ∧ b0 < 224 ∧ _) from fun hh => by omega), if_neg (show ¬ (224 ≤ b0 ∧ b0 < 240 ∧ _) from fun hh => by omega), if_pos ⟨h4.1, h4.2, g⟩]
      rw [e, if_neg h1, if_neg h2, if_neg h3, if_pos h4, if_neg (by omega), if_neg (by decide), if_neg (by omega), if_neg (by decide), if_neg (by omega), if_neg (by decide), if_neg (by omega), if_neg (by omega), if_neg (by simp)]
    · have e : refN n b0 b1 b2 b3 = (65533, 1) := by
        unfold refN; rw [if_neg h1, if_neg (show ¬ (194 ≤ b0 ∧ b0 < 224 ∧ _) from fun hh => by omega), if_neg (show ¬ (224 ≤ b0 ∧ b0 < 240 ∧ _) from fun hh => by omega), if_neg (fun hh => g hh.2.2)]
      rw [e, if_neg h1, if_neg h2, if_neg h3, if_pos h4]
      simp only [and_self, if_true]
      by_cases gn : n < 4
      · rw [if_pos gn]
      rw [if_neg gn, if_neg (by decide)]
      by_cases g1 : b1 / 64 = 2
      · rw [if_neg (by simpa using g1), if_neg (by decide)]
        by_cases g2 : b2 / 64 = 2
        · rw [if_neg (by simpa using g2), if_neg (by decide)]
          by_cases g3 : b3 / 64 = 2
          · rw [if_neg (by simpa using g3), if_pos (by simp only [true_and]; omega)]
          · rw [if_pos g3]
        · rw [if_pos g2]
      · rw [if_pos g1]
  · have e : refN n b0 b1 b2 b3 = (65533, 1) := by
      unfold refN; rw [if_neg h1, if_neg (show ¬ (194 ≤ b0 ∧ b0 < 224 ∧ _) from fun hh => by omega), if_neg (show ¬ (224 ≤ b0 ∧ b0 < 240 ∧ _) from fun hh => by omega), if_neg (show ¬ (240 ≤ b0 ∧ b0 < 245 ∧ _) from fun hh => by omega)]
    rw [e, if_neg h1, if_neg h2, if_neg h3, if_neg h4]
    simp
/-- The document's Decode. -/
theorem RefDecode_is {l : List UInt8} (hl : l.length ≤ 4194304) : ref2_Decode.impl l = some (if validD l = true then (runesOf l, true) else ([], false)) := by
  unfold ref2_Decode.impl
  have key : ∀ n (acc : List Int) (i : Nat), l.length - i < n → i ≤ l.length → acc.length ≤ i → ∃ r, loop (ref2_Decode.st1 l) (acc, (i : Int)) = some r ∧ (match r with | .inl v => some v | .inr v => ref2_Decode.k1 v) = some (if validD (l.drop i) = true then (acc ++ runesOf (l.drop i), true) else ([], false)) := by
    intro n
    induction n with
    | zero => intro acc i h; omega
    | succ n ih =>
      intro acc i h hi ha
      by_cases hlt : i < l.length
      · have hne : l.drop i ≠ [] := by intro e; have := congrArg List.length e; simp at this; omega
        have st := ref_step (acc := acc) hl hlt (by omega)
        rw [refS_is hne] at st
        have hw := decodeL_width (l.drop i)
        have hle := decodeL_le (l.drop i) hne
        rw [List.length_drop] at hle
        rw [validD_step _ hne]
        by_cases hb : (decodeL (l.drop i)).1 = 65533 ∧ (decodeL (l.drop i)).2 = 1
        · rw [if_pos hb] at st ⊢
          exact ⟨_, loop_last st, rfl⟩
        · rw [if_neg hb] at st ⊢
          obtain ⟨r, h1, h2⟩ := ih (acc ++ [((decodeL (l.drop i)).1 : Int)]) (i + (decodeL (l.drop i)).2) (by omega) (by omega) (by simp; omega)
          refine ⟨r, ?_, ?_⟩
          · rw [loop_more st]; exact h1
          · rw [h2, runesOf_cons hne, List.drop_drop]; simp
      · refine ⟨Sum.inr acc, loop_last ?_, ?_⟩
        · unfold ref2_Decode.st1
          rw [ite_df (by simp only; omega)]
        · rw [List.drop_of_length_le (by omega), runesOf_nil]; simp [ref2_Decode.k1, validD, validGoD]
  obtain ⟨r, h1, h2⟩ := key _ [] 0 (Nat.lt_succ_self _) (Nat.zero_le _) (Nat.le_refl _)
  erw [h1]
  exact h2.trans (by simp)
end Go.Proofs.YtpogdeibkghhaaaDoor

set_option linter.unusedVariables false
set_option linter.unusedSimpArgs false
namespace Go.Proofs.YtpogdeibkghhaaaDoor
open Go Go.RowKit Go.Lib
theorem Valid_is {l : List UInt8} (hl : l.length ≤ 4194304) : utf8_ValidString.impl l = some (validD l) := by
  unfold utf8_ValidString.impl; rw [chk_pos (by omega)]
/-- How many runes; -1: no valid text. -/
def countR (l : List UInt8) : Int := if validD l = true then ((runesOf l).length : Int) else -1
theorem Runes_is {l : List UInt8} (hl : l.length ≤ 4194304) : keys_Runes.impl l = some (countR l) := by
  unfold keys_Runes.impl countR
  rw [Valid_is hl]
  simp only [Option.bind_some]
  by_cases hv : validD l = true
  · rw [hv]
    simp only [Bool.not_true, Bool.false_eq_true, if_false, if_true]
    have := loop_runes (step := keys_Runes.st1 l) (l := l) (f := fun a _ => IntKind.i64.wrap (a + 1)) (Q := fun a p => 0 ≤ a ∧ a ≤ (p : Int)) (last := fun a => a) (fun a p h hp => by
        have hw := decodeL_width (l.drop p)
        rw [← runeAt_drop] at hw
        rw [i64_id (by omega)]
        refine ⟨by omega, ?_⟩
        unfold keys_Runes.st1
        rw [ite_dt hp, i64_id (by omega)]) (fun a p h hp => by
        unfold keys_Runes.st1
        rw [ite_df hp]) 0 ⟨by omega, by omega⟩
    rw [this]
    simp only [Option.bind_some, keys_Runes.k1]
    have hle := runesOf_le l
    have key : ∀ (rs : List Int) (a : Int), 0 ≤ a → a + rs.length ≤ 4194304 → rs.foldl (fun a _ => IntKind.i64.wrap (a + 1)) a = a + rs.length := by
      intro rs
      induction rs with
      | nil => intro a _ _; simp
      | cons r rs ih =>
        intro a h0 h1
        simp only [List.length_cons] at h1
        rw [List.foldl_cons, i64_id (by omega), ih _ (by omega) (by omega), List.length_cons]; omega
    rw [key _ 0 (by omega) (by omega)]; simp
  · have hv : validD l = false := by simpa using hv
    rw [hv]; rfl
theorem RefRunes_is {l : List UInt8} (hl : l.length ≤ 4194304) : ref2_Runes.impl l = some (countR l) := by
  unfold ref2_Runes.impl countR
  rw [RefDecode_is hl]
  by_cases hv : validD l = true
  · rw [if_pos hv, if_pos hv]; rfl
  · rw [if_neg hv, if_neg hv]; rfl
/-- A value: its kind, its number, its text. -/
abbrev Vl := Int × Int × List UInt8
/-- What is wrong with a value. -/
def rightE (v : Vl) : Int :=
  if v.1 = 0 then (if v.2.1 = 0 ∧ v.2.2 = [] then 0 else 1)
  else if v.1 = 1 then (if v.2.2 = [] then 0 else 1)
  else if v.1 = 2 then (if v.2.1 = 0 then (if validD v.2.2 = true then 0 else 12) else 1)
  else if v.1 = 3 then (if v.2.2 = [] ∧ 0 ≤ v.2.1 ∧ v.2.1 ≤ 1 then 0 else 1)
  else 1
theorem countR_neg (l : List UInt8) : countR l < 0 ↔ validD l = false := by
  unfold countR
  by_cases h : validD l = true
  · rw [if_pos h, h]; simp
  · rw [if_neg h]; simpa using h
theorem RefRight_is {v : Vl} (hl : v.2.2.length ≤ 4194304) : ref2_Right.impl v = some (rightE v) := by
  obtain ⟨k, n, s⟩ := v
  simp only at hl
  unfold ref2_Right.impl rightE
  simp only [RefDecode_is hl, Option.bind_some, ref2_Right.k1, ref2_Right.k2]
  by_cases h0 : k = 0
  · subst h0
    by_cases h1 : n = 0 <;> by_cases h2 : s = [] <;> simp [h1, h2]
  by_cases h1 : k = 1
  · subst h1
    by_cases h2 : s = [] <;> simp [h2]
  by_cases h2 : k = 2
  · subst h2
    by_cases h3 : n = 0 <;> by_cases h4 : validD s = true <;> simp [h3, h4]
  by_cases h3 : k = 3
  · subst h3
    by_cases h4 : s = [] <;> by_cases h5 : n < 0 <;> by_cases h6 : 1 < n <;> simp [h4, h5, h6] <;> omega
  · simp [h0, h1, h2, h3]
theorem Right_is {v : Vl} (hl : v.2.2.length ≤ 4194304) : keys_Right.impl v = some (rightE v) := by
  obtain ⟨k, n, s⟩ := v
  simp only at hl
  have hneg := countR_neg s
  have k5 : keys_Right.k5 (decide (countR s < 0)) = some (if validD s = true then 0 else 12) := by
    unfold keys_Right.k5
    by_cases h : validD s = true
    · rw [h]; rw [h] at hneg; simp at hneg; simp; omega
    · have h : validD s = false := by simpa using h
      rw [decide_eq_true (hneg.2 h), h]; rfl
  have k5f : keys_Right.k5 false = some 0 := rfl
  unfold keys_Right.impl keys_Right.k1 keys_Right.k2 keys_Right.k3 keys_Right.k4 keys_inside.impl rightE
  simp only
  by_cases h0 : k = 0
  · subst h0
    by_cases h1 : n = 0 <;> by_cases h2 : s = [] <;> simp [h1, h2, Dy.isStr, k5f]
  by_cases h1 : k = 1
  · subst h1
    by_cases h2 : s = [] <;> simp [h2, Dy.isStr, k5f]
  by_cases h2 : k = 2
  · subst h2
    by_cases h3 : n = 0 <;> simp [h3, Dy.isStr, Dy.asStr, Runes_is hl, k5]
  by_cases h3 : k = 3
  · subst h3
    by_cases h4 : s = [] <;> by_cases h5 : n = 0 <;> by_cases h6 : n = 1 <;> simp [h4, h5, h6, Dy.isStr, k5f] <;> omega
  · by_cases h4 : k < 0 <;> by_cases h5 : 3 < k <;> simp [h0, h1, h2, h3, h4, h5] <;> omega
/-! ### Runes -/
def OkR (c : Int) : Prop := (0 ≤ c ∧ c < 55296) ∨ (57344 ≤ c ∧ c ≤ 1114111)
theorem shr_i32 (n : Nat) (k : Nat) (h : k ≤ 32) : shrI .i32 (n : Int) (k : Int) = ((n >>> k : Nat) : Int) := by
  rw [shr_nat .i32 n (by simpa [IntKind.bits] using h)]; simp
theorem encode1 {c : Nat} (h : c < 128) : encodeRune (c : Int) = [UInt8.ofNat c] := by
  unfold encodeRune; rw [encodeRuneZ_one (by omega) (by omega)]; simp
theorem encode2 {c : Nat} (h0 : ¬ c < 128) (h : c < 2048) : encodeRune (c : Int) = [UInt8.ofNat (192 + c / 64), UInt8.ofNat (128 + c % 64)] := by
  unfold encodeRune; rw [encodeRuneZ_two (by omega) (by omega)]
  simp only [List.map_cons, List.map_nil]
  rw [u8_of_int (192 + (c : Int) / 64) (192 + c / 64) (by omega), u8_of_int (128 + (c : Int) % 64) (128 + c % 64) (by omega)]
theorem encode3 {c : Nat} (h0 : ¬ c < 2048) (h : c < 65536) (hs : c < 55296 ∨ 57344 ≤ c) : encodeRune (c : Int) = [UInt8.ofNat (224 + c / 4096), UInt8.ofNat (128 + c / 64 % 64), UInt8.ofNat (128 + c % 64)] := by
  unfold encodeRune; rw [encodeRuneZ_three (by omega)]
  simp only [List.map_cons, List.map_nil]
  rw [u8_of_int (224 + (c : Int) / 4096) (224 + c / 4096) (by omega), u8_of_int (128 + (c : Int) / 64 % 64) (128 + c / 64 % 64) (by omega), u8_of_int (128 + (c : Int) % 64) (128 + c % 64) (by omega)]
theorem encode4 {c : Nat} (h0 : ¬ c < 65536) (h : c ≤ 1114111) : encodeRune (c : Int) = [UInt8.ofNat (240 + c / 262144), UInt8.ofNat (128 + c / 4096 % 64), UInt8.ofNat (128 + c / 64 % 64), UInt8.ofNat (128 + c % 64)] := by
  unfold encodeRune; rw [encodeRuneZ_four (by omega) (by omega)]
  simp only [List.map_cons, List.map_nil]
  rw [u8_of_int (240 + (c : Int) / 262144) (240 + c / 262144) (by omega), u8_of_int (128 + (c : Int) / 4096 % 64) (128 + c / 4096 % 64) (by omega), u8_of_int (128 + (c : Int) / 64 % 64) (128 + c / 64 % 64) (by omega), u8_of_int (128 + (c : Int) % 64) (128 + c % 64) (by omega)]
theorem ofRunes_le (l : List Int) : (ofRunes l).length ≤ 4 * l.length := by
  induction l with
  | nil => simp [ofRunes]
  | cons c l ih =>
    have : (Utf8.encode c).data.toList.length ≤ 4 := by
      have h := encode_size_le c
      rw [Array.length_toList]; exact h
    unfold ofRunes at ih ⊢
    rw [List.flatMap_cons, List.length_append, List.length_cons]; omega
theorem okR_decode (m : List UInt8) : OkR ((decodeL m).1 : Int) := by
  have hb := byteD_lt m 0
  rw [decodeL_N, refN_is _ _ _ _ _ hb]
  unfold refN OkR
  repeat' split
  all_goals (simp only; omega)
theorem runesOf_ok (l : List UInt8) : ∀ c ∈ runesOf l, OkR c := by
  have key : ∀ n (l : List UInt8), l.length < n → ∀ c ∈ runesOf l, OkR c := by
    intro n
    induction n with
    | zero => intro l h; omega
    | succ n ih =>
      intro l h c hc
      by_cases h0 : l = []
      · rw [h0, runesOf_nil] at hc; cases hc
      · have h1 := decodeL_width l
        have h2 : 0 < l.length := List.length_pos_iff.2 h0
        rw [runesOf_cons h0] at hc
        rcases List.mem_cons.1 hc with rfl | hc
        · exact okR_decode l
        · exact ih _ (by rw [List.length_drop]; omega) c hc
  exact key _ l (Nat.lt_succ_self _)
theorem getD_el {α : Type} [Inhabited α] {l : List α} {i : Nat} (h : i < l.length) : l.getD i default = l[i] := by rw [List.getD_eq_getElem?_getD, List.getElem?_eq_getElem h]; rfl
theorem RefSame_is {l m : List Vl} (hl : l.length ≤ 4194304) : ref2_Same.impl l m = some (decide (l = m)) := by
  unfold ref2_Same.impl
  by_cases hlen : l.length = m.length
  · rw [ite_nt (by omega)]
    have key : ∀ n (i : Nat), l.length - i < n → i ≤ l.length → ∃ r, loop (ref2_Same.st1 l m) (i : Int) = some r ∧ (match r with | .inl v => some v | .inr v => ref2_Same.k1 v) = some (decide (l.drop i = m.drop i)) := by
      intro n
      induction n with
      | zero => intro i h; omega
      | succ n ih =>
        intro i h hi
        by_cases g : i < l.length
        · have w : IntKind.i64.wrap ((i : Int) + 1) = ((i + 1 : Nat) : Int) := by rw [i64_id (by omega)]; omega
          have e1 : l.drop i = l.getD i default :: l.drop (i + 1) := by rw [List.drop_eq_getElem_cons g, getD_el g]
          have e2 : m.drop i = m.getD i default :: m.drop (i + 1) := by rw [List.drop_eq_getElem_cons (by omega), getD_el (by omega)]
          by_cases q : l.getD i default = m.getD i default
          · have st : ref2_Same.st1 l m (i : Int) = some (.inl ((i + 1 : Nat) : Int)) := by
              unfold ref2_Same.st1
              simp only [Int.toNat_natCast, w]
              rw [ite_dt (by omega), chk_pos (by omega), chk_pos (by omega), ite_nt q]
            obtain ⟨r, r1, r2⟩ := ih (i + 1) (by omega) (by omega)
            refine ⟨r, by rw [loop_more st]; exact r1, ?_⟩
            rw [r2, e1, e2, q]
            simp
          · have st : ref2_Same.st1 l m (i : Int) = some (.inr (.inl false)) := by
              unfold ref2_Same.st1
              simp only [Int.toNat_natCast]
              rw [ite_dt (by omega), chk_pos (by omega), chk_pos (by omega), ite_nf q]
            refine ⟨_, loop_last st, ?_⟩
            rw [e1, e2, decide_eq_false (fun e => q (List.cons.inj e).1)]
        · refine ⟨.inr (), loop_last ?_, ?_⟩
          · unfold ref2_Same.st1
            rw [ite_df (by omega)]
          · rw [List.drop_of_length_le (by omega), List.drop_of_length_le (by omega)]; rfl
    obtain ⟨r, r1, r2⟩ := key _ 0 (Nat.lt_succ_self _) (Nat.zero_le _)
    erw [r1]
    exact r2
  · rw [ite_nf (by omega)]
    have : l ≠ m := fun e => hlen (by rw [e])
    simp [this]
end Go.Proofs.YtpogdeibkghhaaaDoor

set_option linter.unusedVariables false
set_option linter.unusedSimpArgs false
namespace Go.Proofs.YtpogdeibkghhaaaDoor
open Go Go.RowKit Go.Lib
theorem xor_top {x : Nat} (h : x < 18446744073709551616) : x ^^^ 9223372036854775808 = if x < 9223372036854775808 then x + 9223372036854775808 else x - 9223372036854775808 := by
  have h1 : (x ^^^ 9223372036854775808) % 2 ^ 63 = x % 2 ^ 63 := by rw [Nat.xor_mod_two_pow]; simp
  have h2 : (x ^^^ 9223372036854775808) / 2 ^ 63 = (x / 2 ^ 63) ^^^ 1 := by rw [Nat.xor_div_two_pow]
  have h3 := Nat.div_add_mod (x ^^^ 9223372036854775808) (2 ^ 63)
  have h4 := Nat.div_add_mod x (2 ^ 63)
  rw [h1, h2] at h3
  have e : (2 : Nat) ^ 63 = 9223372036854775808 := by decide
  rw [e] at h3 h4
  split
  · have : x / 9223372036854775808 = 0 := by omega
    rw [this] at h3 h4
    simp only [Nat.zero_xor] at h3
    omega
  · have : x / 9223372036854775808 = 1 := by omega
    rw [this] at h3 h4
    simp only [Nat.xor_self] at h3
    omega
/-- A number as eight bytes keep it. -/
def un (n : Int) : Nat := (n + 9223372036854775808).toNat
theorem xor63 {n : Int} (h : -9223372036854775808 ≤ n ∧ n ≤ 9223372036854775807) : bitsOf .xor .u64 (IntKind.u64.wrap n) 9223372036854775808 = (un n : Int) := by
  obtain ⟨x, hx, hx2⟩ : ∃ x : Nat, IntKind.u64.wrap n = (x : Int) ∧ x < 18446744073709551616 := ⟨(n % 18446744073709551616).toNat, by rw [u64_wrap]; omega, by omega⟩
  rw [hx]
  show IntKind.u64.wrap ((BitVec.ofInt 64 (x : Int) ^^^ BitVec.ofInt 64 9223372036854775808).toNat : Nat) = _
  rw [BitVec.toNat_xor, BitVec.ofInt_natCast, BitVec.toNat_ofNat, Nat.mod_eq_of_lt (by omega), show (BitVec.ofInt 64 9223372036854775808).toNat = 9223372036854775808 by decide, xor_top hx2]
  rw [u64_wrap] at hx
  unfold un
  split <;> (rw [u64_id (by omega)]; omega)
theorem un_lt {n : Int} (h : -9223372036854775808 ≤ n ∧ n ≤ 9223372036854775807) : un n < 18446744073709551616 := by unfold un; omega
/-- Eight bytes, the highest first. -/
def be8 (u : Nat) : List UInt8 := (List.range 8).map fun k => UInt8.ofNat (u / 256 ^ (7 - k))
/-- A rune's three bytes. -/
def r3 (c : Int) : List UInt8 := [UInt8.ofNat ((c.toNat + 1) / 65536), UInt8.ofNat ((c.toNat + 1) / 256), UInt8.ofNat (c.toNat + 1)]
/-- A Right value's bytes. -/
def kb (v : Vl) : List UInt8 :=
  if v.1 = 0 then [1] else if v.1 = 1 then 2 :: be8 (un v.2.1) else if v.1 = 2 then 3 :: ((runesOf v.2.2).flatMap r3 ++ [0, 0, 0]) else [4, u8 (IntKind.u8.wrap v.2.1)]
/-- What a list's bytes are, or what is wrong with it. -/
def keyL : List Vl → List UInt8 × Int
  | [] => ([], 0)
  | v :: l => if rightE v = 0 then (if (keyL l).2 = 0 then (kb v ++ (keyL l).1, 0) else ([], (keyL l).2)) else ([], rightE v)
theorem u64_shr (u k : Nat) (h : k ≤ 64) : shrI .u64 (u : Int) (k : Int) = ((u >>> k : Nat) : Int) := by
  rw [shr_nat .u64 u (by simpa [IntKind.bits] using h)]; simp
theorem u8_mod (x : Nat) : u8 (IntKind.u8.wrap (x : Int)) = UInt8.ofNat x := by
  rw [IntKind.wrap_u8]
  unfold u8
  have : ((x : Int) % 256).toNat = x % 256 := by omega
  rw [this]
  exact UInt8.toNat_inj.1 (by simp [UInt8.toNat_ofNat'])
theorem fill_set0 {α : Type} (u : List α) (z : α) {i : Nat} (h : i < u.length) : (u.take i ++ List.replicate (u.length - i) z).set i u[i] = u.take (i + 1) ++ List.replicate (u.length - (i + 1)) z := by
  rw [List.set_append_right _ _ (by simp; omega), show i - (u.take i).length = 0 by simp; omega, show u.length - i = (u.length - (i + 1)) + 1 by omega, List.replicate_succ, List.set_cons_zero, ← List.take_append_getElem h, List.append_assoc]
  rfl
theorem fill_setN {α : Type} (u : List α) (z : α) {i : Nat} (h : i < u.length) {n : Nat} (hn : u.length = n) : (u.take i ++ List.replicate (n - i) z).set i u[i] = u.take (i + 1) ++ List.replicate (n - (i + 1)) z := by
  subst hn
  exact fill_set0 u z h
theorem be8_length (u : Nat) : (be8 u).length = 8 := by simp [be8]
theorem eight_is (u : Nat) : keys_eight.impl (u : Int) = some (be8 u) := by
  unfold keys_eight.impl
  rw [chk_pos (by omega)]
  have hl := be8_length u
  have := loop_up (step := keys_eight.st1 (u : Int)) (r := be8 u) (fun i => ((be8 u).take i ++ List.replicate (8 - i) (0 : UInt8), (i : Int))) 8 (fun i hi => by
    have w1 : IntKind.i64.wrap (8 * (i : Int)) = ((8 * i : Nat) : Int) := by rw [i64_id (by omega)]; omega
    have w2 : IntKind.i64.wrap (56 - ((8 * i : Nat) : Int)) = ((56 - 8 * i : Nat) : Int) := by rw [i64_id (by omega)]; omega
    have w3 : IntKind.i64.wrap ((i : Int) + 1) = ((i + 1 : Nat) : Int) := by rw [i64_id (by omega)]; omega
    have hp : u >>> (56 - 8 * i) = u / 256 ^ (7 - i) := by rw [Nat.shiftRight_eq_div_pow, show 56 - 8 * i = 8 * (7 - i) by omega, Nat.pow_mul]
    have hg : (be8 u)[i]'(by omega) = UInt8.ofNat (u / 256 ^ (7 - i)) := by simp [be8]
    unfold keys_eight.st1
    simp only [w1, w2, w3, u64_shr u (56 - 8 * i) (by omega), hp, u8_mod, Int.toNat_natCast]
    rw [ite_dt (by simp; omega), chk_pos (by omega), chk_pos (by simp; omega), ← hg]
    rw [fill_setN (be8 u) (0 : UInt8) (i := i) (by omega) hl]) (by
    unfold keys_eight.st1
    rw [ite_df (by simp), List.take_of_length_le (by omega)]
    simp)
  simp only [List.take_zero, List.nil_append, Nat.sub_zero] at this
  erw [this]
  rfl
/-- The three bytes, as the program makes them. -/
theorem three (c : Int) (h : 0 ≤ c ∧ c ≤ 1114111) : [(u8 (IntKind.u8.wrap (shrI .i32 (IntKind.i32.wrap (c + 1)) 16))), (u8 (IntKind.u8.wrap (shrI .i32 (IntKind.i32.wrap (c + 1)) 8))), (u8 (IntKind.u8.wrap (IntKind.i32.wrap (c + 1))))] = r3 c := by
  obtain ⟨n, rfl⟩ : ∃ n : Nat, c = (n : Int) := ⟨c.toNat, by omega⟩
  have w : IntKind.i32.wrap ((n : Int) + 1) = ((n + 1 : Nat) : Int) := by rw [i32_id (by omega)]; omega
  have s16 : shrI .i32 ((n + 1 : Nat) : Int) 16 = (((n + 1) / 65536 : Nat) : Int) := (shr_i32 (n + 1) 16 (by decide)).trans (by rw [Nat.shiftRight_eq_div_pow])
  have s8 : shrI .i32 ((n + 1 : Nat) : Int) 8 = (((n + 1) / 256 : Nat) : Int) := (shr_i32 (n + 1) 8 (by decide)).trans (by rw [Nat.shiftRight_eq_div_pow])
  rw [w, s16, s8, u8_mod, u8_mod, u8_mod]
  unfold r3
  rw [Int.toNat_natCast]
theorem foldl_flat {f : Int → List UInt8} : ∀ (rs : List Int) (acc : List UInt8), rs.foldl (fun a c => a ++ f c) acc = acc ++ rs.flatMap f
  | [], acc => by simp
  | r :: rs, acc => by rw [List.foldl_cons, foldl_flat rs]; simp
theorem r3_length (c : Int) : (r3 c).length = 3 := rfl
theorem flat3_length (rs : List Int) : (rs.flatMap r3).length = 3 * rs.length := by
  induction rs with
  | nil => rfl
  | cons r rs ih => rw [List.flatMap_cons, List.length_append, ih, r3_length, List.length_cons]; omega
theorem runes_is {l : List UInt8} (hl : l.length ≤ 4194304) : keys_runes.impl l = some ((runesOf l).flatMap r3 ++ [0, 0, 0]) := by
  unfold keys_runes.impl
  have := loop_runes (step := keys_runes.st1 l) (l := l) (f := fun a c => a ++ r3 c) (Q := fun a p => a.length ≤ 3 * p) (last := fun a => a) (fun a p h hp => by
      have hw := decodeL_width (l.drop p)
      have hr := decodeL_rune (l.drop p)
      rw [← runeAt_drop] at hw hr
      refine ⟨by rw [List.length_append, r3_length]; omega, ?_⟩
      unfold keys_runes.st1
      simp only
      rw [three _ ⟨by omega, by omega⟩, r3_length, ite_dt hp, chk_pos (by omega)]) (fun a p h hp => by
      unfold keys_runes.st1
      rw [ite_df hp]) [] (by simp)
  rw [this, foldl_flat]
  simp only [Option.bind_some, List.nil_append]
  unfold keys_runes.k1
  have h1 := flat3_length (runesOf l)
  have h2 := runesOf_le l
  rw [chk_pos (by rw [h1]; simp; omega)]
/-- A value that came in: a number of its kind, a text that is not too long. -/
def Fits (v : Vl) : Prop := (-9223372036854775808 ≤ v.2.1 ∧ v.2.1 ≤ 9223372036854775807) ∧ v.2.2.length ≤ 4194304
theorem kb_length {v : Vl} (h : Fits v) : (kb v).length ≤ 16777216 := by
  unfold kb
  have h1 := flat3_length (runesOf v.2.2)
  have h2 := runesOf_le v.2.2
  have h3 := h.2
  repeat' split
  · simp
  · rw [List.length_cons, be8_length]; omega
  · rw [List.length_cons, List.length_append, h1]; simp; omega
  · simp
/-- One value more. -/
theorem key_round {l : List Vl} {acc : List UInt8} {i : Nat} {v : Vl} (hi : i < l.length) (hl : l.length ≤ 4194304) (hv : l.getD i default = v) (hf : Fits v) (ha : acc.length ≤ 105553116266496) :
    keys_Key.st1 l (acc, (i : Int)) = if rightE v = 0 then some (.inl (acc ++ kb v, ((i + 1 : Nat) : Int))) else some (.inr (.inl ([], rightE v))) := by
  have w : IntKind.i64.wrap ((i : Int) + 1) = ((i + 1 : Nat) : Int) := by rw [i64_id (by omega)]; omega
  have hr := Right_is (v := v) hf.2
  obtain ⟨k, n, t⟩ := v
  unfold keys_Key.st1
  simp only [Int.toNat_natCast, hv, hr, Option.bind_some]
  rw [ite_dt (by omega), chk_pos (by omega)]
  by_cases hz : rightE (k, n, t) = 0
  · rw [if_pos hz, hz, ite_nt (by trivial)]
    have hk : k = 0 ∨ k = 1 ∨ k = 2 ∨ k = 3 := by
      unfold rightE at hz
      simp only at hz
      by_cases h0 : k = 0 <;> by_cases h1 : k = 1 <;> by_cases h2 : k = 2 <;> by_cases h3 : k = 3 <;> simp_all
    unfold keys_inside.impl
    simp only
    rcases hk with rfl | rfl | rfl | rfl
    · simp [Dy.isUnit, Dy.isBool, Dy.isInt, Dy.isStr, keys_Key.k2, keys_Key.k3, keys_Key.k4, kb, w]
      rw [chk_pos (by omega)]
    · have hx := xor63 hf.1
      simp only at hx
      simp [Dy.isUnit, Dy.isBool, Dy.isInt, Dy.isStr, Dy.asInt, keys_Key.k2, keys_Key.k3, keys_Key.k4, kb, w, hx, eight_is, be8_length]
      rw [chk_pos (by omega), chk_pos (by omega)]
    · have h1 := flat3_length (runesOf t)
      have h2 := runesOf_le t
      have h3 : t.length ≤ 4194304 := hf.2
      simp [Dy.isUnit, Dy.isBool, Dy.isInt, Dy.isStr, Dy.asStr, keys_Key.k2, keys_Key.k3, keys_Key.k4, kb, w, runes_is h3, h1]
      rw [chk_pos (by omega), chk_pos (by omega)]
    · have hv' : l[i]?.getD default = (3, n, t) := by rw [← List.getD_eq_getElem?_getD]; exact hv
      simp [Dy.isUnit, Dy.isBool, Dy.isInt, Dy.isStr, keys_Key.k2, keys_Key.k3, keys_Key.k4, kb, w, hv']
      rw [chk_pos (by omega)]
  · rw [if_neg hz, ite_nf hz]
theorem keyL_cons (v : Vl) (l : List Vl) : keyL (v :: l) = if rightE v = 0 then (if (keyL l).2 = 0 then (kb v ++ (keyL l).1, 0) else ([], (keyL l).2)) else ([], rightE v) := rfl
theorem keyL_bad {l : List Vl} (h : (keyL l).2 ≠ 0) : (keyL l).1 = [] := by
  induction l with
  | nil => simp [keyL] at h
  | cons v l ih =>
    unfold keyL at h ⊢
    repeat' split at h
    all_goals simp_all
theorem Key_is {l : List Vl} (hl : l.length ≤ 4194304) (hf : ∀ v ∈ l, Fits v) : keys_Key.impl l = some (keyL l) := by
  unfold keys_Key.impl
  have key : ∀ n (acc : List UInt8) (i : Nat), l.length - i < n → i ≤ l.length → acc.length ≤ 16777216 * i → ∃ r, loop (keys_Key.st1 l) (acc, (i : Int)) = some r ∧ (match r with | .inl v => some v | .inr v => keys_Key.k1 v) = some (if (keyL (l.drop i)).2 = 0 then (acc ++ (keyL (l.drop i)).1, 0) else ([], (keyL (l.drop i)).2)) := by
    intro n
    induction n with
    | zero => intro acc i h; omega
    | succ n ih =>
      intro acc i h hi ha
      by_cases hlt : i < l.length
      · have hm : l[i] ∈ l := List.getElem_mem hlt
        have st := key_round (acc := acc) (v := l[i]) hlt hl (by rw [List.getD_eq_getElem?_getD, List.getElem?_eq_getElem hlt]; rfl) (hf _ hm) (by omega)
        rw [List.drop_eq_getElem_cons hlt]
        have hk := kb_length (hf _ hm)
        by_cases hz : rightE l[i] = 0
        · rw [if_pos hz] at st
          obtain ⟨r, h1, h2⟩ := ih (acc ++ kb l[i]) (i + 1) (by omega) (by omega) (by rw [List.length_append]; omega)
          refine ⟨r, by rw [loop_more st]; exact h1, ?_⟩
          rw [h2, keyL_cons, if_pos hz]
          by_cases hz2 : (keyL (l.drop (i + 1))).2 = 0
          · rw [if_pos hz2, if_pos hz2, if_pos rfl]; simp
          · rw [if_neg hz2, if_neg hz2, if_neg hz2]
        · rw [if_neg hz] at st
          refine ⟨_, loop_last st, ?_⟩
          rw [keyL_cons, if_neg hz]
          simp only
          rw [if_neg hz]
      · refine ⟨Sum.inr acc, loop_last ?_, ?_⟩
        · unfold keys_Key.st1
          rw [ite_df (by simp only; omega)]
        · rw [List.drop_of_length_le (by omega)]; simp [keyL, keys_Key.k1]
  obtain ⟨r, h1, h2⟩ := key _ [] 0 (Nat.lt_succ_self _) (Nat.zero_le _) (by simp)
  erw [h1]
  refine h2.trans ?_
  rw [List.drop_zero]
  by_cases hz : (keyL l).2 = 0
  · rw [if_pos hz, List.nil_append, ← hz]
  · rw [if_neg hz, ← keyL_bad hz]
end Go.Proofs.YtpogdeibkghhaaaDoor

set_option linter.unusedVariables false
set_option linter.unusedSimpArgs false
namespace Go.Proofs.YtpogdeibkghhaaaDoor
open Go Go.RowKit Go.Lib
theorem ofNat_b (x : Nat) (h : x < 256) : (UInt8.ofNat x).toNat = x := by simp [UInt8.toNat_ofNat']; omega
theorem okNat {c : Int} (h : OkR c) : ∃ n : Nat, c = (n : Int) ∧ n ≤ 1114111 ∧ (n < 55296 ∨ 57344 ≤ n) := ⟨c.toNat, by unfold OkR at h; omega, by unfold OkR at h; omega, by unfold OkR at h; omega⟩
/-- What is written of a rune is read as that rune, whatever stands behind it. -/
theorem decode_enc {c : Int} (hok : OkR c) (m : List UInt8) : ((decodeL (encodeRune c ++ m)).1 : Int) = c ∧ (decodeL (encodeRune c ++ m)).2 = (encodeRune c).length ∧ ¬ ((decodeL (encodeRune c ++ m)).1 = 65533 ∧ (decodeL (encodeRune c ++ m)).2 = 1) := by
  obtain ⟨n, rfl, h1, h2⟩ := okNat hok
  rw [decodeL_N, refN_is _ _ _ _ _ (UInt8.toNat_lt _)]
  by_cases a1 : n < 128
  · rw [encode1 a1]
    have e : refN ([UInt8.ofNat n] ++ m).length (([UInt8.ofNat n] ++ m).getD 0 0).toNat (([UInt8.ofNat n] ++ m).getD 1 0).toNat (([UInt8.ofNat n] ++ m).getD 2 0).toNat (([UInt8.ofNat n] ++ m).getD 3 0).toNat = (n, 1) := by
      have : (([UInt8.ofNat n] ++ m).getD 0 0).toNat = n := by simp; omega
      rw [this]; unfold refN; rw [if_pos a1]
    rw [e]; refine ⟨rfl, rfl, fun h => ?_⟩
    simp only at h; omega
  by_cases a2 : n < 2048
  · rw [encode2 a1 a2]
    have g0 : (([UInt8.ofNat (192 + n / 64), UInt8.ofNat (128 + n % 64)] ++ m).getD 0 0).toNat = 192 + n / 64 := ofNat_b _ (by omega)
    have g1 : (([UInt8.ofNat (192 + n / 64), UInt8.ofNat (128 + n % 64)] ++ m).getD 1 0).toNat = 128 + n % 64 := ofNat_b _ (by omega)
    rw [g0, g1]
    unfold refN
    rw [if_neg (by omega), if_pos (by refine ⟨by omega, by omega, by simp, by omega⟩)]
    refine ⟨by simp only; omega, rfl, fun h => ?_⟩
    simp at h
  by_cases a3 : n < 65536
  · rw [encode3 a2 a3 h2]
    have g0 : (([UInt8.ofNat (224 + n / 4096), UInt8.ofNat (128 + n / 64 % 64), UInt8.ofNat (128 + n % 64)] ++ m).getD 0 0).toNat = 224 + n / 4096 := ofNat_b _ (by omega)
    have g1 : (([UInt8.ofNat (224 + n / 4096), UInt8.ofNat (128 + n / 64 % 64), UInt8.ofNat (128 + n % 64)] ++ m).getD 1 0).toNat = 128 + n / 64 % 64 := ofNat_b _ (by omega)
    have g2 : (([UInt8.ofNat (224 + n / 4096), UInt8.ofNat (128 + n / 64 % 64), UInt8.ofNat (128 + n % 64)] ++ m).getD 2 0).toNat = 128 + n % 64 := ofNat_b _ (by omega)
    rw [g0, g1, g2]
    have hv : ((224 + n / 4096) % 16 * 64 + (128 + n / 64 % 64) % 64) * 64 + (128 + n % 64) % 64 = n := by omega
    unfold refN
    rw [hv, if_neg (by omega), if_neg (fun h => by omega), if_pos (by refine ⟨by omega, by omega, by simp, by omega, by omega, by omega, by omega⟩)]
    refine ⟨rfl, rfl, fun h => ?_⟩
    simp at h
  · rw [encode4 a3 h1]
    have g0 : (([UInt8.ofNat (240 + n / 262144), UInt8.ofNat (128 + n / 4096 % 64), UInt8.ofNat (128 + n / 64 % 64), UInt8.ofNat (128 + n % 64)] ++ m).getD 0 0).toNat = 240 + n / 262144 := ofNat_b _ (by omega)
    have g1 : (([UInt8.ofNat (240 + n / 262144), UInt8.ofNat (128 + n / 4096 % 64), UInt8.ofNat (128 + n / 64 % 64), UInt8.ofNat (128 + n % 64)] ++ m).getD 1 0).toNat = 128 + n / 4096 % 64 := ofNat_b _ (by omega)
    have g2 : (([UInt8.ofNat (240 + n / 262144), UInt8.ofNat (128 + n / 4096 % 64), UInt8.ofNat (128 + n / 64 % 64), UInt8.ofNat (128 + n % 64)] ++ m).getD 2 0).toNat = 128 + n / 64 % 64 := ofNat_b _ (by omega)
    have g3 : (([UInt8.ofNat (240 + n / 262144), UInt8.ofNat (128 + n / 4096 % 64), UInt8.ofNat (128 + n / 64 % 64), UInt8.ofNat (128 + n % 64)] ++ m).getD 3 0).toNat = 128 + n % 64 := ofNat_b _ (by omega)
    rw [g0, g1, g2, g3]
    have hv : (((240 + n / 262144) % 8 * 64 + (128 + n / 4096 % 64) % 64) * 64 + (128 + n / 64 % 64) % 64) * 64 + (128 + n % 64) % 64 = n := by omega
    unfold refN
    rw [hv, if_neg (by omega), if_neg (fun h => by omega), if_neg (fun h => by omega), if_pos (by refine ⟨by omega, by omega, by simp, by omega, by omega, by omega, by omega, by omega⟩)]
    refine ⟨rfl, rfl, fun h => ?_⟩
    simp at h
theorem enc_ne {c : Int} : encodeRune c ≠ [] := by
  unfold encodeRune encodeRuneZ
  repeat' split
  all_goals simp
theorem enc_app_ne {c : Int} (m : List UInt8) : encodeRune c ++ m ≠ [] := fun h => enc_ne (List.append_eq_nil_iff.1 h).1
theorem ofRunes_cons (c : Int) (l : List Int) : ofRunes (c :: l) = encodeRune c ++ ofRunes l := by unfold ofRunes; rw [List.flatMap_cons, encode_is]
theorem runesOf_enc {c : Int} (hok : OkR c) (m : List UInt8) : runesOf (encodeRune c ++ m) = c :: runesOf m := by
  obtain ⟨h1, h2, _⟩ := decode_enc hok m
  rw [runesOf_cons (enc_app_ne m), h1, h2, List.drop_left]
theorem valid_enc {c : Int} (hok : OkR c) (m : List UInt8) : validD (encodeRune c ++ m) = validD m := by
  obtain ⟨h1, h2, h3⟩ := decode_enc hok m
  rw [validD_step _ (enc_app_ne m), if_neg h3, h2, List.drop_left]
theorem runesOf_app {rs : List Int} (h : ∀ c ∈ rs, OkR c) (m : List UInt8) : runesOf (ofRunes rs ++ m) = rs ++ runesOf m := by
  induction rs with
  | nil => rfl
  | cons c rs ih => rw [ofRunes_cons, List.append_assoc, runesOf_enc (h c (by simp)), ih (fun d hd => h d (by simp [hd]))]; rfl
theorem valid_app {rs : List Int} (h : ∀ c ∈ rs, OkR c) (m : List UInt8) : validD (ofRunes rs ++ m) = validD m := by
  induction rs with
  | nil => rfl
  | cons c rs ih => rw [ofRunes_cons, List.append_assoc, valid_enc (h c (by simp)), ih (fun d hd => h d (by simp [hd]))]
theorem runesOf_ofRunes {rs : List Int} (h : ∀ c ∈ rs, OkR c) : runesOf (ofRunes rs) = rs := by
  have := runesOf_app h []
  rwa [List.append_nil, runesOf_nil, List.append_nil] at this
theorem valid_ofRunes {rs : List Int} (h : ∀ c ∈ rs, OkR c) : validD (ofRunes rs) = true := by
  have := valid_app h []
  rwa [List.append_nil, validD_nil] at this
end Go.Proofs.YtpogdeibkghhaaaDoor

set_option linter.unusedVariables false
set_option linter.unusedSimpArgs false
namespace Go.Proofs.YtpogdeibkghhaaaDoor
open Go Go.RowKit Go.Lib
section
variable {α : Type} {c : α → α → Int}
end
/-! ### Bytes -/
/-! ### Numbers as bytes, the highest first -/
def beN : Nat → Nat → List UInt8
  | 0, _ => []
  | k + 1, u => UInt8.ofNat (u / 256 ^ k) :: beN k u
end Go.Proofs.YtpogdeibkghhaaaDoor

set_option linter.unusedVariables false
set_option linter.unusedSimpArgs false
namespace Go.Proofs.YtpogdeibkghhaaaDoor
open Go Go.RowKit Go.Lib
instance (c : Int) : Decidable (OkR c) := by unfold OkR; infer_instance
/-- Runes of three bytes each, up to their end; what stands behind it. -/
def txt : List UInt8 → Option (List Int × List UInt8)
  | a :: b :: c :: r =>
    if a.toNat * 65536 + b.toNat * 256 + c.toNat = 0 then some ([], r)
    else if OkR (((a.toNat * 65536 + b.toNat * 256 + c.toNat : Nat) : Int) - 1) then (txt r).map (fun p => ((((a.toNat * 65536 + b.toNat * 256 + c.toNat : Nat) : Int) - 1) :: p.1, p.2))
    else none
  | _ => none
theorem txt3 (a b c : UInt8) (r : List UInt8) : txt (a :: b :: c :: r) = if a.toNat * 65536 + b.toNat * 256 + c.toNat = 0 then some ([], r)
    else if OkR (((a.toNat * 65536 + b.toNat * 256 + c.toNat : Nat) : Int) - 1) then (txt r).map (fun p => ((((a.toNat * 65536 + b.toNat * 256 + c.toNat : Nat) : Int) - 1) :: p.1, p.2))
    else none := by rw [txt]
theorem txt_short {l : List UInt8} (h : l.length < 3) : txt l = none := by
  match l, h with
  | [], _ => rfl
  | [_], _ => rfl
  | [_, _], _ => rfl
  | _ :: _ :: _ :: _, h => exact absurd h (by simp)
theorem drop3 {l : List UInt8} {i : Nat} (h : i + 3 ≤ l.length) : l.drop i = l[i] :: l[i + 1] :: l[i + 2] :: l.drop (i + 3) := by
  rw [List.drop_eq_getElem_cons (by omega), List.drop_eq_getElem_cons (by omega), List.drop_eq_getElem_cons (by omega)]
theorem r3_txt {c : Int} (hok : OkR c) (r : List UInt8) : txt (r3 c ++ r) = (txt r).map fun p => (c :: p.1, p.2) := by
  obtain ⟨n, rfl, h1, h2⟩ := okNat hok
  have e : r3 (n : Int) ++ r = UInt8.ofNat ((n + 1) / 65536) :: UInt8.ofNat ((n + 1) / 256) :: UInt8.ofNat (n + 1) :: r := rfl
  have a0 : (UInt8.ofNat ((n + 1) / 65536)).toNat = (n + 1) / 65536 := ofNat_b _ (by omega)
  have a1 : (UInt8.ofNat ((n + 1) / 256)).toNat = (n + 1) / 256 % 256 := by simp [UInt8.toNat_ofNat']
  have a2 : (UInt8.ofNat (n + 1)).toNat = (n + 1) % 256 := by simp [UInt8.toNat_ofNat']
  have s : (n + 1) / 65536 * 65536 + (n + 1) / 256 % 256 * 256 + (n + 1) % 256 = n + 1 := by omega
  have e2 : ((n + 1 : Nat) : Int) - 1 = (n : Int) := by omega
  rw [e, txt3, a0, a1, a2, s, if_neg (by omega), e2, if_pos hok]
/-- What is written of a text is read as its runes. -/
theorem txt_runes {rs : List Int} (h : ∀ c ∈ rs, OkR c) (r : List UInt8) : txt (rs.flatMap r3 ++ ([0, 0, 0] ++ r)) = some (rs, r) := by
  induction rs with
  | nil =>
    show txt (0 :: 0 :: 0 :: r) = _
    rw [txt3, if_pos (by decide)]
  | cons c rs ih => rw [List.flatMap_cons, List.append_assoc, r3_txt (h c (by simp)), ih (fun d hd => h d (by simp [hd]))]; rfl
theorem txt_inv : ∀ n (l : List UInt8), l.length < n → ∀ rs r, txt l = some (rs, r) → (∀ c ∈ rs, OkR c) ∧ l = rs.flatMap r3 ++ ([0, 0, 0] ++ r)
  | 0, l, h, _, _, _ => by omega
  | n + 1, l, hn, rs, r, h => by
    match l, hn, h with
    | [], _, h => cases h
    | [_], _, h => cases h
    | [_, _], _, h => cases h
    | a :: b :: c :: t, hn, h =>
      rw [txt3] at h
      have ba := a.toNat_lt
      have bb := b.toNat_lt
      have bc := c.toNat_lt
      by_cases h0 : a.toNat * 65536 + b.toNat * 256 + c.toNat = 0
      · rw [if_pos h0] at h
        simp only [Option.some.injEq, Prod.mk.injEq] at h
        obtain ⟨rfl, rfl⟩ := h
        refine ⟨by simp, ?_⟩
        rw [show a = 0 from UInt8.toNat_inj.1 (by simp; omega), show b = 0 from UInt8.toNat_inj.1 (by simp; omega), show c = 0 from UInt8.toNat_inj.1 (by simp; omega)]
        rfl
      · rw [if_neg h0] at h
        split at h
        · rename_i hok
          cases e : txt t with
          | none => rw [e] at h; cases h
          | some p =>
            rw [e] at h
            simp only [Option.map_some, Option.some.injEq, Prod.mk.injEq] at h
            obtain ⟨rfl, rfl⟩ := h
            obtain ⟨k1, k2⟩ := txt_inv n t (by simp at hn; omega) p.1 p.2 e
            refine ⟨fun d hd => ?_, ?_⟩
            · rcases List.mem_cons.1 hd with rfl | hd
              · exact hok
              · exact k1 d hd
            · rw [List.flatMap_cons, List.append_assoc, ← k2]
              unfold r3
              have g : (((a.toNat * 65536 + b.toNat * 256 + c.toNat : Nat) : Int) - 1).toNat + 1 = a.toNat * 65536 + b.toNat * 256 + c.toNat := by omega
              rw [g, show UInt8.ofNat ((a.toNat * 65536 + b.toNat * 256 + c.toNat) / 65536) = a from UInt8.toNat_inj.1 (by simp only [UInt8.toNat_ofNat']; omega), show UInt8.ofNat ((a.toNat * 65536 + b.toNat * 256 + c.toNat) / 256) = b from UInt8.toNat_inj.1 (by simp only [UInt8.toNat_ofNat']; omega), show UInt8.ofNat (a.toNat * 65536 + b.toNat * 256 + c.toNat) = c from UInt8.toNat_inj.1 (by simp only [UInt8.toNat_ofNat']; omega)]
              rfl
        · cases h
/-! ### Eight bytes as a number -/
def beV : List UInt8 → Nat
  | [] => 0
  | a :: l => a.toNat * 256 ^ l.length + beV l
theorem beV_snoc (l : List UInt8) (c : UInt8) : beV (l ++ [c]) = beV l * 256 + c.toNat := by
  induction l with
  | nil => simp [beV]
  | cons a l ih =>
    rw [List.cons_append]
    unfold beV
    rw [ih, List.length_append, List.length_singleton, Nat.pow_succ, Nat.add_mul, Nat.mul_assoc, Nat.add_assoc]
theorem beV_lt (l : List UInt8) : beV l < 256 ^ l.length := by
  induction l with
  | nil => simp [beV]
  | cons a l ih =>
    unfold beV
    have := a.toNat_lt
    have h2 : (a.toNat + 1) * 256 ^ l.length ≤ 256 * 256 ^ l.length := Nat.mul_le_mul_right _ (by omega)
    rw [List.length_cons, Nat.pow_succ]
    rw [Nat.add_mul] at h2
    omega
theorem be8_beN (u : Nat) : be8 u = beN 8 u := rfl
theorem beV_be8 {u : Nat} (h : u < 18446744073709551616) : beV (be8 u) = u := by
  rw [be8_beN]
  simp only [beN, beV, List.length_cons, List.length_nil, UInt8.toNat_ofNat']
  omega
theorem be8_beV {l : List UInt8} (h : l.length = 8) : be8 (beV l) = l := by
  obtain ⟨a0, a1, a2, a3, a4, a5, a6, a7, rfl⟩ : ∃ a0 a1 a2 a3 a4 a5 a6 a7, l = [a0, a1, a2, a3, a4, a5, a6, a7] := by
    match l, h with
    | [a0, a1, a2, a3, a4, a5, a6, a7], _ => exact ⟨a0, a1, a2, a3, a4, a5, a6, a7, rfl⟩
  have b0 := a0.toNat_lt
  have b1 := a1.toNat_lt
  have b2 := a2.toNat_lt
  have b3 := a3.toNat_lt
  have b4 := a4.toNat_lt
  have b5 := a5.toNat_lt
  have b6 := a6.toNat_lt
  have b7 := a7.toNat_lt
  rw [be8_beN]
  simp only [beN, beV, List.length_cons, List.length_nil, List.cons.injEq, and_true]
  refine ⟨?_, ?_, ?_, ?_, ?_, ?_, ?_, ?_⟩ <;> exact UInt8.toNat_inj.1 (by simp only [UInt8.toNat_ofNat']; omega)
/-- The number that eight bytes keep. -/
def nu (u : Nat) : Int := (u : Int) - 9223372036854775808
theorem un_nu {u : Nat} (h : u < 18446744073709551616) : un (nu u) = u := by unfold un nu; omega
theorem nu_un {n : Int} (h : -9223372036854775808 ≤ n ∧ n ≤ 9223372036854775807) : nu (un n) = n := by unfold un nu; omega
theorem nu_is {u : Nat} (h : u < 18446744073709551616) : IntKind.i64.wrap (bitsOf .xor .u64 (u : Int) 9223372036854775808) = nu u := by
  have e : bitsOf .xor .u64 (u : Int) 9223372036854775808 = ((if u < 9223372036854775808 then u + 9223372036854775808 else u - 9223372036854775808 : Nat) : Int) := by
    show IntKind.u64.wrap ((BitVec.ofInt 64 (u : Int) ^^^ BitVec.ofInt 64 9223372036854775808).toNat : Nat) = _
    rw [BitVec.toNat_xor, BitVec.ofInt_natCast, BitVec.toNat_ofNat, Nat.mod_eq_of_lt (by omega), show (BitVec.ofInt 64 9223372036854775808).toNat = 9223372036854775808 by decide, xor_top h]
    split <;> rw [u64_id (by omega)]
  rw [e, IntKind.wrap_i64]
  unfold nu
  split <;> omega
theorem or8 {u c : Nat} (hu : u < 72057594037927936) (hc : c < 256) : bitsOf .or .u64 (shlI .u64 (u : Int) 8) (IntKind.u64.wrap (c : Int)) = ((u * 256 + c : Nat) : Int) := by
  have h1 : shlI .u64 (u : Int) 8 = ((u * 256 : Nat) : Int) := by
    unfold shlI
    rw [show min (8 : Int).toNat IntKind.u64.bits = 8 from rfl, u64_id (by omega)]; omega
  have h2 : (u <<< 8 ||| c) = u * 256 + c := by rw [← Nat.shiftLeft_add_eq_or_of_lt (by omega), Nat.shiftLeft_eq]
  rw [h1, u64_id (by omega)]
  show IntKind.u64.wrap ((BitVec.ofInt 64 ((u * 256 : Nat) : Int) ||| BitVec.ofInt 64 (c : Int)).toNat : Nat) = _
  rw [BitVec.ofInt_natCast, BitVec.ofInt_natCast, BitVec.toNat_or, BitVec.toNat_ofNat, BitVec.toNat_ofNat, Nat.mod_eq_of_lt (by omega), Nat.mod_eq_of_lt (by omega), show u * 256 = u <<< 8 by rw [Nat.shiftLeft_eq], h2, u64_id (by omega), Nat.shiftLeft_eq]
theorem or3 {a b c : Nat} (ha : a < 256) (hb : b < 256) (hc : c < 256) : bitsOf .or .i32 (bitsOf .or .i32 (shlI .i32 (IntKind.i32.wrap (a : Int)) 16) (shlI .i32 (IntKind.i32.wrap (b : Int)) 8)) (IntKind.i32.wrap (c : Int)) = ((a * 65536 + b * 256 + c : Nat) : Int) := by
  have h1 : shlI .i32 (a : Int) 16 = ((a * 65536 : Nat) : Int) := by
    unfold shlI
    rw [show min (16 : Int).toNat IntKind.i32.bits = 16 from rfl, i32_id (by omega)]; omega
  have h2 : shlI .i32 (b : Int) 8 = ((b * 256 : Nat) : Int) := by
    unfold shlI
    rw [show min (8 : Int).toNat IntKind.i32.bits = 8 from rfl, i32_id (by omega)]; omega
  have h3 : (a * 65536 ||| b * 256) = a * 65536 + b * 256 := by
    have : (a <<< 16 ||| b * 256) = a * 65536 + b * 256 := by rw [← Nat.shiftLeft_add_eq_or_of_lt (by omega), Nat.shiftLeft_eq]
    rwa [Nat.shiftLeft_eq] at this
  have h4 : (a * 65536 + b * 256 ||| c) = a * 65536 + b * 256 + c := by
    have : ((a * 256 + b) <<< 8 ||| c) = (a * 256 + b) * 256 + c := by rw [← Nat.shiftLeft_add_eq_or_of_lt (by omega), Nat.shiftLeft_eq]
    rw [Nat.shiftLeft_eq] at this
    rw [show a * 65536 + b * 256 = (a * 256 + b) * 2 ^ 8 by omega, this]
  have o1 : bitsOf .or .i32 ((a * 65536 : Nat) : Int) ((b * 256 : Nat) : Int) = ((a * 65536 + b * 256 : Nat) : Int) := by
    show IntKind.i32.wrap ((BitVec.ofInt 32 ((a * 65536 : Nat) : Int) ||| BitVec.ofInt 32 ((b * 256 : Nat) : Int)).toNat : Nat) = _
    rw [BitVec.ofInt_natCast, BitVec.ofInt_natCast, BitVec.toNat_or, BitVec.toNat_ofNat, BitVec.toNat_ofNat, Nat.mod_eq_of_lt (by omega), Nat.mod_eq_of_lt (by omega), h3, i32_id (by omega)]
  rw [i32_id (n := (a : Int)) (by omega), i32_id (n := (b : Int)) (by omega), i32_id (n := (c : Int)) (by omega), h1, h2, o1]
  show IntKind.i32.wrap ((BitVec.ofInt 32 ((a * 65536 + b * 256 : Nat) : Int) ||| BitVec.ofInt 32 (c : Int)).toNat : Nat) = _
  rw [BitVec.ofInt_natCast, BitVec.ofInt_natCast, BitVec.toNat_or, BitVec.toNat_ofNat, BitVec.toNat_ofNat, Nat.mod_eq_of_lt (by omega), Nat.mod_eq_of_lt (by omega), h4, i32_id (by omega)]
/-! ### One value; all of them -/
def oneL : List UInt8 → Option (Vl × List UInt8)
  | [] => none
  | t :: r =>
    if t.toNat = 1 then some ((0, 0, []), r)
    else if t.toNat = 4 then (match r with | c :: r' => if c.toNat ≤ 1 then some ((3, (c.toNat : Int), []), r') else none | [] => none)
    else if t.toNat = 2 then (if 8 ≤ r.length then some ((1, nu (beV (r.take 8)), []), r.drop 8) else none)
    else if t.toNat = 3 then (txt r).map fun p => ((2, 0, ofRunes p.1), p.2)
    else none
theorem oneL_cons (t : UInt8) (r : List UInt8) : oneL (t :: r) =
    (if t.toNat = 1 then some (((0, 0, []) : Vl), r)
    else if t.toNat = 4 then (match r with | c :: r' => if c.toNat ≤ 1 then some (((3, (c.toNat : Int), []) : Vl), r') else none | [] => none)
    else if t.toNat = 2 then (if 8 ≤ r.length then some (((1, nu (beV (r.take 8)), []) : Vl), r.drop 8) else none)
    else if t.toNat = 3 then (txt r).map fun p => (((2, 0, ofRunes p.1) : Vl), p.2)
    else none) := rfl
theorem txt_len {l r : List UInt8} {rs : List Int} (h : txt l = some (rs, r)) : l.length = 3 * rs.length + 3 + r.length := by
  obtain ⟨_, e⟩ := txt_inv _ l (Nat.lt_succ_self _) rs r h
  rw [e, List.length_append, flat3_length, List.length_append]; simp; omega
theorem oneL_lt {l r : List UInt8} {v : Vl} (h : oneL l = some (v, r)) : r.length < l.length := by
  match l, h with
  | [], h => cases h
  | t :: s, h =>
    rw [oneL_cons] at h
    split at h
    · simp only [Option.some.injEq, Prod.mk.injEq] at h; rw [← h.2]; simp
    split at h
    · match s, h with
      | [], h => cases h
      | c :: s', h =>
        simp only at h
        split at h
        · simp only [Option.some.injEq, Prod.mk.injEq] at h; rw [← h.2]; simp; omega
        · cases h
    split at h
    · split at h
      · simp only [Option.some.injEq, Prod.mk.injEq] at h; rw [← h.2]; simp; omega
      · cases h
    split at h
    · cases e : txt s with
      | none => rw [e] at h; cases h
      | some p =>
        rw [e] at h
        simp only [Option.map_some, Option.some.injEq, Prod.mk.injEq] at h
        have := txt_len (l := s) (r := p.2) (rs := p.1) e
        rw [← h.2]; simp; omega
    · cases h
def readL (l : List UInt8) : Option (List Vl) := if h : l = [] then some [] else match oneL l with
  | none => none
  | some (v, r) => if hlt : r.length < l.length then (readL r).map (v :: ·) else none
termination_by l.length
theorem readL_nil : readL [] = some [] := by rw [readL]; rfl
theorem readL_some {l r : List UInt8} {v : Vl} (h : oneL l = some (v, r)) : readL l = (readL r).map (v :: ·) := by
  have hne : l ≠ [] := by rintro rfl; cases h
  rw [readL, dif_neg hne, h]
  simp only
  rw [dif_pos (oneL_lt h)]
theorem readL_none {l : List UInt8} (hne : l ≠ []) (h : oneL l = none) : readL l = none := by rw [readL, dif_neg hne, h]
/-! ### What is written is read -/
theorem kind_of_right {v : Vl} (h : rightE v = 0) : v.1 = 0 ∨ v.1 = 1 ∨ v.1 = 2 ∨ v.1 = 3 := by
  unfold rightE at h
  by_cases h0 : v.1 = 0 <;> by_cases h1 : v.1 = 1 <;> by_cases h2 : v.1 = 2 <;> by_cases h3 : v.1 = 3 <;> simp_all
theorem kb0 (n : Int) (t : List UInt8) : kb (0, n, t) = [1] := rfl
theorem kb1 (n : Int) (t : List UInt8) : kb (1, n, t) = 2 :: be8 (un n) := rfl
theorem kb2 (n : Int) (t : List UInt8) : kb (2, n, t) = 3 :: ((runesOf t).flatMap r3 ++ [0, 0, 0]) := rfl
theorem kb3 (n : Int) (t : List UInt8) : kb (3, n, t) = [4, u8 (IntKind.u8.wrap n)] := rfl
theorem right0 {n : Int} {t : List UInt8} : rightE (0, n, t) = 0 ↔ n = 0 ∧ t = [] := by
  unfold rightE; by_cases h : n = 0 <;> by_cases h' : t = [] <;> simp [h, h']
theorem right1 {n : Int} {t : List UInt8} : rightE (1, n, t) = 0 ↔ t = [] := by
  unfold rightE; by_cases h' : t = [] <;> simp [h']
theorem right2 {n : Int} {t : List UInt8} : rightE (2, n, t) = 0 ↔ n = 0 ∧ validD t = true := by
  unfold rightE; by_cases h : n = 0 <;> by_cases h' : validD t = true <;> simp [h, h']
theorem right3 {n : Int} {t : List UInt8} : rightE (3, n, t) = 0 ↔ t = [] ∧ 0 ≤ n ∧ n ≤ 1 := by
  unfold rightE; by_cases h : t = [] <;> by_cases h' : 0 ≤ n <;> by_cases h'' : n ≤ 1 <;> simp [h, h', h'']
def In64 (n : Int) : Prop := -9223372036854775808 ≤ n ∧ n ≤ 9223372036854775807
theorem oneL_kb {v : Vl} (hr : rightE v = 0) (hn : In64 v.2.1) (r : List UInt8) : oneL (kb v ++ r) = some (v, r) := by
  have hk := kind_of_right hr
  obtain ⟨k, n, t⟩ := v
  simp only at hk
  rcases hk with rfl | rfl | rfl | rfl
  · obtain ⟨rfl, rfl⟩ := right0.1 hr
    rfl
  · obtain rfl := right1.1 hr
    have hl := be8_length (un n)
    rw [kb1, List.cons_append]
    rw [oneL_cons]
    rw [if_neg (by decide), if_neg (by decide), if_pos (by decide), if_pos (by rw [List.length_append]; omega), List.take_append_of_le_length (by omega), List.take_of_length_le (by omega), beV_be8 (un_lt hn), nu_un hn, List.drop_append_of_le_length (by omega), List.drop_of_length_le (by omega)]
    rfl
  · obtain ⟨rfl, hv⟩ := right2.1 hr
    rw [kb2, List.cons_append, List.append_assoc]
    rw [oneL_cons]
    rw [if_neg (by decide), if_neg (by decide), if_neg (by decide), if_pos (by decide), txt_runes (runesOf_ok t)]
    simp only [Option.map_some]
    rw [ofRunes_runesOf hv]
  · obtain ⟨rfl, h0, h1⟩ := right3.1 hr
    rw [kb3]
    have : n = 0 ∨ n = 1 := by omega
    rcases this with rfl | rfl <;> rfl
theorem oneL_inv {v : Vl} {l r : List UInt8} (h : oneL l = some (v, r)) : rightE v = 0 ∧ In64 v.2.1 ∧ l = kb v ++ r := by
  match l, h with
  | [], h => cases h
  | t :: s, h =>
    rw [oneL_cons] at h
    split at h
    · rename_i ht
      simp only [Option.some.injEq, Prod.mk.injEq] at h
      obtain ⟨rfl, rfl⟩ := h
      rw [show t = 1 from UInt8.toNat_inj.1 ht]
      exact ⟨rfl, by constructor <;> decide, rfl⟩
    split at h
    · rename_i ht
      match s, h with
      | [], h => cases h
      | c :: s', h =>
        simp only at h
        split at h
        · rename_i hc
          simp only [Option.some.injEq, Prod.mk.injEq] at h
          obtain ⟨rfl, rfl⟩ := h
          rw [show t = 4 from UInt8.toNat_inj.1 ht]
          refine ⟨right3.2 ⟨rfl, by omega, by omega⟩, by constructor <;> (simp only; omega), ?_⟩
          rw [kb3, u8_mod, UInt8.ofNat_toNat]; rfl
        · cases h
    split at h
    · rename_i ht
      split at h
      · rename_i h8
        simp only [Option.some.injEq, Prod.mk.injEq] at h
        obtain ⟨rfl, rfl⟩ := h
        have h2 : (s.take 8).length = 8 := by rw [List.length_take]; omega
        have hlt := beV_lt (s.take 8)
        rw [h2] at hlt
        have e : (256 : Nat) ^ 8 = 18446744073709551616 := by decide
        rw [e] at hlt
        rw [show t = 2 from UInt8.toNat_inj.1 ht]
        refine ⟨right1.2 rfl, by unfold In64 nu; simp only; omega, ?_⟩
        rw [kb1, un_nu hlt, be8_beV h2, List.cons_append, List.take_append_drop]
      · cases h
    split at h
    · rename_i ht
      cases e : txt s with
      | none => rw [e] at h; cases h
      | some p =>
        rw [e] at h
        simp only [Option.map_some, Option.some.injEq, Prod.mk.injEq] at h
        obtain ⟨rfl, rfl⟩ := h
        obtain ⟨k1, k2⟩ := txt_inv _ s (Nat.lt_succ_self _) p.1 p.2 e
        rw [show t = 3 from UInt8.toNat_inj.1 ht]
        refine ⟨right2.2 ⟨rfl, valid_ofRunes k1⟩, show In64 (0 : Int) from ⟨by decide, by decide⟩, ?_⟩
        rw [kb2, runesOf_ofRunes k1, List.cons_append, List.append_assoc, ← k2]
    · cases h
theorem readL_kb : ∀ l : List Vl, (∀ v ∈ l, rightE v = 0 ∧ In64 v.2.1) → readL (l.flatMap kb) = some l
  | [], _ => readL_nil
  | v :: l, h => by
    rw [List.flatMap_cons, readL_some (oneL_kb (h v (by simp)).1 (h v (by simp)).2 _), readL_kb l (fun x hx => h x (by simp [hx]))]; rfl
theorem readL_inv : ∀ n (b : List UInt8), b.length < n → ∀ l, readL b = some l → (∀ v ∈ l, rightE v = 0 ∧ In64 v.2.1) ∧ b = l.flatMap kb
  | 0, b, h, _, _ => by omega
  | n + 1, b, hn, l, h => by
    by_cases hne : b = []
    · rw [hne, readL_nil] at h
      cases h
      exact ⟨by simp, hne⟩
    · cases e : oneL b with
      | none => rw [readL_none hne e] at h; cases h
      | some p =>
        obtain ⟨v, r⟩ := p
        rw [readL_some e] at h
        cases e2 : readL r with
        | none => rw [e2] at h; cases h
        | some l' =>
          rw [e2] at h
          simp only [Option.map_some, Option.some.injEq] at h
          obtain ⟨k1, k2⟩ := readL_inv n r (by have := oneL_lt e; omega) l' e2
          obtain ⟨m1, m2, m3⟩ := oneL_inv e
          subst h
          refine ⟨fun x hx => ?_, ?_⟩
          · rcases List.mem_cons.1 hx with rfl | hx
            · exact ⟨m1, m2⟩
            · exact k1 x hx
          · rw [List.flatMap_cons, ← k2]; exact m3
end Go.Proofs.YtpogdeibkghhaaaDoor

set_option linter.unusedVariables false
set_option linter.unusedSimpArgs false
namespace Go.Proofs.YtpogdeibkghhaaaDoor
open Go Go.RowKit Go.Lib
theorem drop3' {l : List UInt8} {i : Nat} (h : i + 3 ≤ l.length) : l.drop i = l.getD i default :: l.getD (i + 1) default :: l.getD (i + 2) default :: l.drop (i + 3) := by
  rw [drop3 h, getD_el (by omega), getD_el (by omega), getD_el (by omega)]
theorem drop1' {l : List UInt8} {i : Nat} (h : i < l.length) : l.drop i = l.getD i default :: l.drop (i + 1) := by
  rw [List.drop_eq_getElem_cons h, getD_el h]
theorem ValidRune_is (c : Int) : utf8_ValidRune.impl c = some (decide (OkR c)) := by
  have k2 : ∀ b : Bool, utf8_ValidRune.k2 b = some b := fun b => by cases b <;> rfl
  have k1 : ∀ b : Bool, utf8_ValidRune.k1 c b = some (b || (decide (57343 < c) && decide (c ≤ 1114111))) := fun b => by
    unfold utf8_ValidRune.k1
    cases b with
    | true => rfl
    | false => by_cases h : 57343 < c <;> simp [h, k2]
  unfold utf8_ValidRune.impl
  simp only [k1]
  by_cases h : 0 ≤ c
  · rw [ite_dt h]
    congr 1
    rw [Bool.eq_iff_iff]
    simp only [decide_eq_true_eq, Bool.or_eq_true, Bool.and_eq_true, Bool.false_or]
    unfold OkR
    omega
  · rw [ite_df h]
    congr 1
    rw [Bool.eq_iff_iff]
    simp only [decide_eq_true_eq, Bool.or_eq_true, Bool.and_eq_true, Bool.false_or]
    unfold OkR
    omega
def textOut (len : Nat) (acc : List Int) : Option (List Int × List UInt8) → Vl × Int
  | some p => ((2, 0, ofRunes (acc ++ p.1)), ((len - p.2.length : Nat) : Int))
  | none => ((0, 0, []), 0)
def n3 (a b c : UInt8) : Nat := a.toNat * 65536 + b.toNat * 256 + c.toNat
theorem n3_lt (a b c : UInt8) : n3 a b c < 16777216 := by
  have := a.toNat_lt
  have := b.toNat_lt
  have := c.toNat_lt
  unfold n3; omega
theorem or3' (a b c : UInt8) : bitsOf .or .i32 (bitsOf .or .i32 (shlI .i32 (IntKind.i32.wrap (a.toNat : Int)) 16) (shlI .i32 (IntKind.i32.wrap (b.toNat : Int)) 8)) (IntKind.i32.wrap (c.toNat : Int)) = ((n3 a b c : Nat) : Int) := or3 a.toNat_lt b.toNat_lt c.toNat_lt
theorem txt_n3 (a b c : UInt8) (r : List UInt8) : txt (a :: b :: c :: r) = if n3 a b c = 0 then some ([], r)
    else if OkR ((n3 a b c : Int) - 1) then (txt r).map (fun p => (((n3 a b c : Int) - 1) :: p.1, p.2))
    else none := txt3 a b c r
theorem text_round {l : List UInt8} {acc : List Int} {i : Nat} (hi : i + 3 ≤ l.length) (hl : l.length ≤ 134217728) (ha : acc.length ≤ 134217728) :
    keys_text.st1 l (acc, (i : Int)) = if n3 (l.getD i default) (l.getD (i + 1) default) (l.getD (i + 2) default) = 0 then some (.inr (.inl ((2, 0, ofRunes acc), ((i + 3 : Nat) : Int))))
      else if OkR ((n3 (l.getD i default) (l.getD (i + 1) default) (l.getD (i + 2) default) : Int) - 1) then some (.inl (acc ++ [(n3 (l.getD i default) (l.getD (i + 1) default) (l.getD (i + 2) default) : Int) - 1], ((i + 3 : Nat) : Int)))
      else some (.inr (.inl ((0, 0, []), 0))) := by
  have w1 : IntKind.i64.wrap ((i : Int) + 1) = ((i + 1 : Nat) : Int) := by rw [i64_id (by omega)]; omega
  have w2 : IntKind.i64.wrap ((i : Int) + 2) = ((i + 2 : Nat) : Int) := by rw [i64_id (by omega)]; omega
  have w3 : IntKind.i64.wrap ((i : Int) + 3) = ((i + 3 : Nat) : Int) := by rw [i64_id (by omega)]; omega
  have hn := n3_lt (l.getD i default) (l.getD (i + 1) default) (l.getD (i + 2) default)
  unfold keys_text.st1
  simp only [w1, w2, w3, Int.toNat_natCast, or3', ValidRune_is, Option.bind_some]
  generalize n3 (l.getD i default) (l.getD (i + 1) default) (l.getD (i + 2) default) = n at *
  rw [ite_dt (by omega), chk_pos (by omega), chk_pos (by omega), chk_pos (by omega), i32_id (n := (n : Int) - 1) (by omega)]
  by_cases h0 : n = 0
  · rw [ite_dt (by omega), if_pos h0]
  rw [ite_df (by omega), if_neg h0]
  by_cases h1 : OkR ((n : Int) - 1)
  · rw [ite_nt h1, if_pos h1, chk_pos (by simp; omega)]
  · rw [ite_nf h1, if_neg h1]
theorem text_is {l : List UInt8} (hl : l.length ≤ 134217728) (h1 : 1 ≤ l.length) : keys_text.impl l = some (textOut l.length [] (txt (l.drop 1))) := by
  unfold keys_text.impl
  have key : ∀ n (acc : List Int) (i : Nat), l.length - i < n → 1 ≤ i → i ≤ l.length → acc.length ≤ i → ∃ r, loop (keys_text.st1 l) (acc, (i : Int)) = some r ∧ (match r with | .inl v => some v | .inr v => keys_text.k1 v) = some (textOut l.length acc (txt (l.drop i))) := by
    intro n
    induction n with
    | zero => intro acc i h; omega
    | succ n ih =>
      intro acc i h g1 hi ha
      by_cases hlt : i + 3 ≤ l.length
      · have st := text_round (acc := acc) hlt hl (by omega)
        rw [drop3' hlt, txt_n3]
        by_cases h0 : n3 (l.getD i default) (l.getD (i + 1) default) (l.getD (i + 2) default) = 0
        · rw [if_pos h0] at st ⊢
          refine ⟨_, loop_last st, ?_⟩
          simp only [textOut, List.length_drop, List.append_nil]
          rw [show l.length - (l.length - (i + 3)) = i + 3 by omega]
        rw [if_neg h0] at st ⊢
        by_cases hk : OkR ((n3 (l.getD i default) (l.getD (i + 1) default) (l.getD (i + 2) default) : Int) - 1)
        · rw [if_pos hk] at st ⊢
          obtain ⟨r, r1, r2⟩ := ih (acc ++ [(n3 (l.getD i default) (l.getD (i + 1) default) (l.getD (i + 2) default) : Int) - 1]) (i + 3) (by omega) (by omega) hlt (by simp; omega)
          refine ⟨r, by rw [loop_more st]; exact r1, ?_⟩
          rw [r2]
          cases txt (l.drop (i + 3)) with
          | none => rfl
          | some p => simp [textOut]
        · rw [if_neg hk] at st ⊢
          exact ⟨_, loop_last st, rfl⟩
      · refine ⟨Sum.inr (), loop_last ?_, ?_⟩
        · unfold keys_text.st1
          rw [i64_id (by simp only; omega), ite_df (by simp only; omega)]
        · rw [txt_short (by rw [List.length_drop]; omega)]; rfl
  obtain ⟨r, r1, r2⟩ := key _ [] 1 (Nat.lt_succ_self _) (Nat.le_refl _) h1 (by simp)
  erw [r1]
  exact r2
def oneOut (len : Nat) : Option (Vl × List UInt8) → Vl × Int
  | some p => (p.1, ((len - p.2.length : Nat) : Int))
  | none => ((0, 0, []), 0)
theorem one_int {l : List UInt8} (hl : 9 ≤ l.length) : loop (keys_one.st1 l) (0, 0) = some ((beV ((l.drop 1).take 8) : Nat) : Int) := by
  have hs : subl l 1 9 = (l.drop 1).take 8 := by
    unfold subl
    rw [List.drop_take]; rfl
  have h8 : ((l.drop 1).take 8).length = 8 := by simp; omega
  generalize hm : (l.drop 1).take 8 = m at *
  have := loop_up (step := keys_one.st1 l) (r := ((beV m : Nat) : Int)) (fun i => (((beV (m.take i) : Nat) : Int), (i : Int))) 8 (fun i hi => by
    have w1 : IntKind.i64.wrap ((i : Int) + 1) = ((i + 1 : Nat) : Int) := by rw [i64_id (by omega)]; omega
    have hlt := beV_lt (m.take i)
    have hle : 256 ^ (m.take i).length ≤ 256 ^ 7 := Nat.pow_le_pow_right (by decide) (by rw [List.length_take]; omega)
    rw [show (256 : Nat) ^ 7 = 72057594037927936 by decide] at hle
    have hg : m.getD i default = m[i] := getD_el (by omega)
    unfold keys_one.st1
    simp only [hs, Int.toNat_natCast, hg]
    rw [ite_dt (by omega), chk_pos (by omega), or8 (by omega) (UInt8.toNat_lt _), w1, ← beV_snoc, List.take_append_getElem (by omega)]) (by
    unfold keys_one.st1
    simp only [hs]
    rw [ite_df (by omega), List.take_of_length_le (by omega)])
  simpa [beV] using this
theorem one_is {l : List UInt8} (hl : l.length ≤ 134217728) (h1 : 1 ≤ l.length) : keys_one.impl l = some (oneOut l.length (oneL l)) := by
  obtain ⟨t, s, rfl⟩ : ∃ t s, l = t :: s := by cases l; simp at h1; exact ⟨_, _, rfl⟩
  have hd : ((t :: s).getD 0 default) = t := rfl
  have ht := t.toNat_lt
  unfold keys_one.impl keys_one.k2 keys_one.k3 keys_one.k1
  rw [oneL_cons]
  simp only [show (0 : Int).toNat = 0 from rfl, show (1 : Int).toNat = 1 from rfl, hd]
  rw [chk_pos (by omega)]
  by_cases a1 : t.toNat = 1
  · rw [ite_dt (by omega), if_pos a1]
    simp [oneOut]
  rw [ite_df (by omega), if_neg a1, chk_pos (by omega)]
  by_cases a4 : t.toNat = 4
  · rw [ite_dt (by omega), if_pos a4]
    have a2 : ¬ ((t.toNat : Int) = 2) := by omega
    have a3 : ¬ ((t.toNat : Int) = 3) := by omega
    cases s with
    | nil =>
      rw [ite_df (by simp)]
      simp only [Bool.false_eq_true, if_false]
      rw [chk_pos (by omega), ite_df a2, chk_pos (by omega), ite_df a3]
      rfl
    | cons c s' =>
      have hc : ((t :: c :: s').getD 1 default) = c := rfl
      change _ = some (oneOut _ (if c.toNat ≤ 1 then some (((3, (c.toNat : Int), []) : Vl), s') else none))
      have hl2 : (((t :: c :: s').length : Nat) : Int) = (s'.length : Int) + 2 := by simp; omega
      rw [ite_dt (by omega), hc, chk_pos (by omega)]
      by_cases g : c.toNat ≤ 1
      · rw [ite_dt (by omega), if_pos g, chk_pos (by omega), i64_id (by omega)]
        simp [oneOut]; omega
      · rw [ite_df (by omega), if_neg g]
        simp only [Bool.false_eq_true, if_false]
        rw [chk_pos (by omega), ite_df a2, chk_pos (by omega), ite_df a3]
        rfl
  rw [ite_df (by omega), if_neg a4]
  simp only [Bool.false_eq_true, if_false]
  rw [chk_pos (by omega)]
  by_cases a2 : t.toNat = 2
  · rw [ite_dt (by omega), if_pos a2]
    have a3 : ¬ ((t.toNat : Int) = 3) := by omega
    by_cases g : 8 ≤ s.length
    · have hi := one_int (l := t :: s) (by simp; omega)
      rw [ite_dt (by simp; omega), if_pos g, chk_pos (by simp; omega), hi]
      simp only [Option.bind_some, keys_one.k4]
      have hlt := beV_lt (s.take 8)
      rw [List.length_take, Nat.min_eq_left g, show (256 : Nat) ^ 8 = 18446744073709551616 by decide] at hlt
      simp only [List.drop_succ_cons, List.drop_zero]
      rw [nu_is hlt]
      simp only [oneOut, List.length_cons, List.length_drop]
      rw [show s.length + 1 - (s.length - 8) = 9 by omega]; rfl
    · rw [ite_df (by simp; omega), if_neg g, chk_pos (by omega), ite_df a3]
      rfl
  rw [ite_df (by omega), if_neg a2, chk_pos (by omega)]
  by_cases a3 : t.toNat = 3
  · rw [ite_dt (by omega), if_pos a3, text_is hl h1]
    simp only [Option.bind_some, List.drop_succ_cons, List.drop_zero]
    cases txt s with
    | none => rfl
    | some p => simp [textOut, oneOut]
  · rw [ite_df (by omega), if_neg a3]
    rfl
def readOut (acc : List Vl) : Option (List Vl) → List Vl × Int
  | some l => (acc ++ l, 0)
  | none => ([], 11)
theorem Read_is {l : List UInt8} (hl : l.length ≤ 134217728) : keys_Read.impl l = some (readOut [] (readL l)) := by
  unfold keys_Read.impl
  have key : ∀ n (m : List UInt8) (acc : List Vl), m.length < n → m.length + acc.length ≤ l.length → ∃ r, loop keys_Read.st1 (m, acc) = some r ∧ (match r with | .inl v => some v | .inr v => keys_Read.k1 v) = some (readOut acc (readL m)) := by
    intro n
    induction n with
    | zero => intro m acc h; omega
    | succ n ih =>
      intro m acc h hs
      by_cases hne : m = []
      · refine ⟨Sum.inr acc, loop_last ?_, ?_⟩
        · unfold keys_Read.st1
          rw [hne, ite_df (by simp)]
        · rw [hne, readL_nil]; simp [readOut, keys_Read.k1]
      · have hp : 0 < m.length := List.length_pos_iff.2 hne
        have ho := one_is (l := m) (by omega) hp
        cases e : oneL m with
        | none =>
          rw [e] at ho
          refine ⟨.inl ([], 11), loop_last ?_, ?_⟩
          · unfold keys_Read.st1
            simp only [ho, oneOut, Option.bind_some]
            rw [ite_dt (by omega), ite_dt trivial]
          · rw [readL_none hne e]; rfl
        | some p =>
          obtain ⟨v, r⟩ := p
          have hlt := oneL_lt e
          rw [e] at ho
          have hr : subl m ((m.length - r.length : Nat) : Int) (m.length : Int) = r := by
            obtain ⟨_, _, e2⟩ := oneL_inv e
            unfold subl
            rw [Int.toNat_natCast, Int.toNat_natCast, List.take_length]
            have : m.length - r.length = (kb v).length := by rw [e2, List.length_append]; omega
            rw [this]
            conv => lhs; rw [e2]
            exact List.drop_left
          have st : keys_Read.st1 (m, acc) = some (.inl (r, acc ++ [v])) := by
            unfold keys_Read.st1
            simp only [ho, oneOut, Option.bind_some]
            rw [ite_dt (by omega), ite_df (by omega), chk_pos (by simp; omega), chk_pos (by omega), hr]
          obtain ⟨q, q1, q2⟩ := ih r (acc ++ [v]) (by omega) (by simp; omega)
          refine ⟨q, by rw [loop_more st]; exact q1, ?_⟩
          rw [q2, readL_some e]
          cases readL r with
          | none => rfl
          | some l' => simp [readOut]
  obtain ⟨r, r1, r2⟩ := key _ l [] (Nat.lt_succ_self _) (by simp)
  erw [r1]
  exact r2
end Go.Proofs.YtpogdeibkghhaaaDoor

set_option linter.unusedVariables false
set_option linter.unusedSimpArgs false
namespace Go.Proofs.YtpogdeibkghhaaaDoor
open Go Go.RowKit Go.Lib
abbrev Col := List UInt8 × Int × Int
abbrev Ix := Int × Bool
abbrev Sch := List UInt8 × List Col × List Ix
/-! ### Loops that ask each -/
section
variable {ρ : Type} {step : Int → Option (Int ⊕ (ρ ⊕ Unit))}
theorem range_drop {n i : Nat} (h : i < n) : (List.range n).drop i = i :: (List.range n).drop (i + 1) := by
  rw [List.drop_eq_getElem_cons (by simpa using h)]; simp
theorem loop_all {n : Nat} {v : ρ} {ok : Nat → Bool} (hs : ∀ i, i < n → step (i : Int) = if ok i = true then some (.inl ((i + 1 : Nat) : Int)) else some (.inr (.inl v))) (he : step (n : Int) = some (.inr (.inr ()))) :
    loop step 0 = some (if (List.range n).all ok = true then .inr () else .inl v) := by
  have key : ∀ k i, n - i < k → i ≤ n → loop step (i : Int) = some (if ((List.range n).drop i).all ok = true then .inr () else .inl v) := by
    intro k
    induction k with
    | zero => intro i h; omega
    | succ k ih =>
      intro i h hi
      by_cases hlt : i < n
      · rw [range_drop hlt, List.all_cons]
        by_cases h1 : ok i = true
        · have st := hs i hlt
          rw [if_pos h1] at st
          rw [loop_more st, ih (i + 1) (by omega) hlt, h1, Bool.true_and]
        · have st := hs i hlt
          rw [if_neg h1] at st
          rw [loop_last st]
          have : ok i = false := by simpa using h1
          rw [this]; rfl
      · rw [show i = n by omega, loop_last he, List.drop_of_length_le (by simp)]; rfl
  have := key _ 0 (Nat.lt_succ_self _) (Nat.zero_le _)
  simpa using this
theorem loop_find {step : Int → Option (Int ⊕ (Int ⊕ Unit))} {n : Nat} {p : Nat → Bool} (hs : ∀ i, i < n → step (i : Int) = if p i = true then some (.inr (.inl (i : Int))) else some (.inl ((i + 1 : Nat) : Int))) (he : step (n : Int) = some (.inr (.inr ()))) :
    ∃ q : Nat, loop step 0 = some (if (List.range n).any p = true then .inl (q : Int) else .inr ()) := by
  have key : ∀ k i, n - i < k → i ≤ n → ∃ q : Nat, loop step (i : Int) = some (if ((List.range n).drop i).any p = true then .inl (q : Int) else .inr ()) := by
    intro k
    induction k with
    | zero => intro i h; omega
    | succ k ih =>
      intro i h hi
      by_cases hlt : i < n
      · rw [range_drop hlt, List.any_cons]
        by_cases h1 : p i = true
        · have st := hs i hlt
          rw [if_pos h1] at st
          refine ⟨i, ?_⟩
          rw [loop_last st, h1]; rfl
        · have st := hs i hlt
          rw [if_neg h1] at st
          obtain ⟨q, hq⟩ := ih (i + 1) (by omega) hlt
          have : p i = false := by simpa using h1
          exact ⟨q, by rw [loop_more st, hq, this, Bool.false_or]⟩
      · exact ⟨0, by rw [show i = n by omega, loop_last he, List.drop_of_length_le (by simp)]; rfl⟩
  have := key _ 0 (Nat.lt_succ_self _) (Nat.zero_le _)
  simpa using this
end
theorem any_range {α : Type} [Inhabited α] (l : List α) (f : α → Bool) : ((List.range l.length).any fun j => f (l.getD j default)) = l.any f := by
  rw [Bool.eq_iff_iff]
  simp only [List.any_eq_true, List.mem_range]
  constructor
  · rintro ⟨j, hj, h⟩; rw [getD_el hj] at h; exact ⟨_, List.getElem_mem hj, h⟩
  · rintro ⟨x, hx, h⟩
    obtain ⟨j, hj, rfl⟩ := List.getElem_of_mem hx
    exact ⟨j, hj, by rw [getD_el hj]; exact h⟩
/-! ### Names -/
def lowB (b : UInt8) : Bool := decide (97 ≤ b.toNat) && decide (b.toNat ≤ 122)
def nameP (l : List UInt8) : Bool := decide (1 ≤ l.length) && decide (l.length ≤ 8) && l.all lowB
theorem decode_lo {b : UInt8} {r : List UInt8} (h : b.toNat < 128) : decodeL (b :: r) = (b.toNat, 1) := by
  rw [decodeL_N]
  exact decodeN_ascii _ _ _ _ _ h
theorem decode_hi {b : UInt8} {r : List UInt8} (h : ¬ b.toNat < 128) : 128 ≤ (decodeL (b :: r)).1 := by
  rw [decodeL_N, refN_is _ _ _ _ _ (UInt8.toNat_lt _)]
  have e : ((b :: r).getD 0 0).toNat = b.toNat := rfl
  rw [e]
  unfold refN
  rw [if_neg h]
  repeat' split
  all_goals (simp only; omega)
theorem Name_is {l : List UInt8} (hl : l.length ≤ 4194304) : schema_Name.impl l = some (nameP l) := by
  unfold schema_Name.impl
  have key : ∀ k p, l.length - p < k → p ≤ l.length → loop (schema_Name.st1 l) ((p : Int), p) = some (if (l.drop p).all lowB = true then .inr (l.length : Int) else .inl false) := by
    intro k
    induction k with
    | zero => intro p h; omega
    | succ k ih =>
      intro p h hp
      by_cases hlt : p < l.length
      · have w : IntKind.i64.wrap ((p : Int) + 1) = ((p + 1 : Nat) : Int) := by rw [i64_id (by omega)]; omega
        rw [drop1' hlt, List.all_cons]
        have hr : runeAt l p = decodeL (l.getD p default :: l.drop (p + 1)) := by rw [runeAt_drop, drop1' hlt]
        by_cases hb : (l.getD p default).toNat < 128
        · have hd := hr.trans (decode_lo hb)
          by_cases hg : lowB (l.getD p default) = true
          · have hg' := hg
            simp only [lowB, Bool.and_eq_true, decide_eq_true_eq] at hg'
            have st : schema_Name.st1 l ((p : Int), p) = some (.inl (((p + 1 : Nat) : Int), p + 1)) := by
              unfold schema_Name.st1 schema_Name.k2
              simp only [hd, w]
              rw [ite_dt hlt, ite_df (by omega), ite_df (by omega)]
            rw [loop_more st, ih (p + 1) (by omega) (by omega), hg, Bool.true_and]
          · have hg' : ¬ (97 ≤ (l.getD p default).toNat ∧ (l.getD p default).toNat ≤ 122) := by simpa [lowB] using hg
            have st : schema_Name.st1 l ((p : Int), p) = some (.inr (.inl false)) := by
              unfold schema_Name.st1 schema_Name.k2
              simp only [hd]
              rw [ite_dt hlt]
              by_cases g : ((l.getD p default).toNat : Int) < 97
              · rw [ite_dt g]; rfl
              · rw [ite_df g, ite_dt (by omega)]
            have : lowB (l.getD p default) = false := by simpa using hg
            rw [loop_last st, this]; rfl
        · have hd := decode_hi (r := l.drop (p + 1)) hb
          rw [← hr] at hd
          have : lowB (l.getD p default) = false := by
            have : ¬ (97 ≤ (l.getD p default).toNat ∧ (l.getD p default).toNat ≤ 122) := by omega
            simpa [lowB] using this
          have st : schema_Name.st1 l ((p : Int), p) = some (.inr (.inl false)) := by
            unfold schema_Name.st1 schema_Name.k2
            simp only
            rw [ite_dt hlt, ite_df (by omega), ite_dt (by omega)]
          rw [loop_last st, this]; rfl
      · rw [List.drop_of_length_le (by omega)]
        refine loop_last ?_
        unfold schema_Name.st1
        rw [ite_df hlt]
        rw [show p = l.length by omega]; rfl
  have := key _ 0 (Nat.lt_succ_self _) (Nat.zero_le _)
  rw [List.drop_zero] at this
  erw [this]
  unfold nameP
  by_cases h : l.all lowB = true
  · rw [if_pos h, h]
    simp only [Option.bind_some, schema_Name.k1, Bool.and_true]
    by_cases h1 : 1 ≤ l.length
    · rw [ite_dt (by omega)]
      congr 1
      rw [decide_eq_true h1, Bool.true_and, Bool.eq_iff_iff]; simp; omega
    · rw [ite_df (by omega), decide_eq_false h1]; rfl
  · rw [if_neg h]
    have : l.all lowB = false := by simpa using h
    rw [this]; simp
theorem RefName_is {l : List UInt8} : ref14_Name.impl l = some (nameP l) := by
  unfold ref14_Name.impl ref14_Name.k1 nameP
  by_cases h1 : 1 ≤ l.length
  · rw [ite_df (by omega)]
    by_cases h8 : l.length ≤ 8
    · rw [ite_df (by omega)]
      have := loop_all (step := ref14_Name.st1 l) (n := l.length) (v := false) (ok := fun i => lowB (l.getD i default)) (fun i hi => by
        have w : IntKind.i64.wrap ((i : Int) + 1) = ((i + 1 : Nat) : Int) := by rw [i64_id (by omega)]; omega
        unfold ref14_Name.st1 ref14_Name.k3
        simp only [Int.toNat_natCast, w]
        rw [ite_dt (by omega), chk_pos (by omega)]
        unfold lowB
        by_cases g : ((l.getD i default).toNat : Int) < 97
        · rw [ite_dt g, decide_eq_false (show ¬ 97 ≤ (l.getD i default).toNat by omega)]; rfl
        · rw [ite_df g, chk_pos (by omega), decide_eq_true (show 97 ≤ (l.getD i default).toNat by omega), Bool.true_and]
          by_cases g2 : (122 : Int) < ((l.getD i default).toNat : Int)
          · rw [decide_eq_true g2, decide_eq_false (by omega)]; rfl
          · rw [decide_eq_false g2, decide_eq_true (by omega)]; rfl) (by
        unfold ref14_Name.st1
        rw [ite_df (by omega)])
      rw [this]
      have e : ((List.range l.length).all fun i => lowB (l.getD i default)) = l.all lowB := by
        rw [Bool.eq_iff_iff]
        simp only [List.all_eq_true, List.mem_range]
        constructor
        · intro h x hx
          obtain ⟨j, hj, rfl⟩ := List.getElem_of_mem hx
          have := h j hj
          rwa [getD_el hj] at this
        · intro h j hj; rw [getD_el hj]; exact h _ (List.getElem_mem hj)
      rw [e, decide_eq_true h1, decide_eq_true h8]
      by_cases h : l.all lowB = true
      · rw [if_pos h, h]; rfl
      · rw [if_neg h]
        have : l.all lowB = false := by simpa using h
        rw [this]; rfl
    · rw [ite_dt (by omega), decide_eq_false h8]; simp
  · rw [ite_dt (by omega), decide_eq_false h1]; rfl
/-! ### Columns, indexes, schemas -/
def colP (c : Col) : Bool := nameP c.1 && (if c.2.1 = 2 then decide (1 ≤ c.2.2) && decide (c.2.2 ≤ 8) else (decide (c.2.1 = 1) || decide (c.2.1 = 3)) && decide (c.2.2 = 0))
def okC (s : Sch) (i : Nat) : Bool := !((s.2.1.take i).any fun x => decide (x.1 = (s.2.1.getD i default).1)) && colP (s.2.1.getD i default)
def okI (s : Sch) (i : Nat) : Bool := !((s.2.2.take i).any fun x => decide (x.1 = (s.2.2.getD i default).1)) && (decide (1 ≤ (s.2.2.getD i default).1) && decide ((s.2.2.getD i default).1 < (s.2.1.length : Int)))
def sizesS (s : Sch) : Bool := decide (1 ≤ s.2.1.length) && decide (s.2.1.length ≤ 3) && decide (s.2.2.length ≤ 3)
def rightS (s : Sch) : Bool := nameP s.1 && sizesS s && (List.range s.2.1.length).all (okC s) && (List.range s.2.2.length).all (okI s)
theorem column_is {c : Col} (h : c.1.length ≤ 4194304) : schema_column.impl c = some (colP c) := by
  unfold schema_column.impl schema_column.k1 colP
  rw [Name_is h]
  simp only [Option.bind_some]
  by_cases h2 : c.2.1 = 2
  · rw [ite_dt h2, if_pos h2]
    cases nameP c.1 with
    | false => rfl
    | true =>
      simp only [if_true, Bool.true_and]
      by_cases g : (1 : Int) ≤ c.2.2
      · rw [ite_dt g, decide_eq_true g, Bool.true_and]
      · rw [ite_df g, decide_eq_false g, Bool.false_and]
  · rw [ite_df h2, if_neg h2]
    by_cases h1 : c.2.1 = 1
    · rw [ite_dt h1, decide_eq_true h1]
      cases nameP c.1 <;> simp
    · rw [ite_df h1, decide_eq_false h1, Bool.false_or]
      by_cases h3 : c.2.1 = 3
      · rw [decide_eq_true h3]
        cases nameP c.1 <;> simp
      · rw [decide_eq_false h3]
        cases nameP c.1 <;> simp
theorem containsC {l : List Col} (hl : l.length ≤ 4194304) (c : Col) : slices_ContainsFunc_api_Column_api_Column__schema_Right_1.impl l c = some (l.any fun x => decide (x.1 = c.1)) := by
  unfold slices_ContainsFunc_api_Column_api_Column__schema_Right_1.impl slices_IndexFunc_api_Column_api_Column__schema_Right_1.impl
  obtain ⟨q, hq⟩ := loop_find (step := slices_IndexFunc_api_Column_api_Column__schema_Right_1.st1 l c) (n := l.length) (p := fun j => decide ((l.getD j default).1 = c.1)) (fun i hi => by
    have w : IntKind.i64.wrap ((i : Int) + 1) = ((i + 1 : Nat) : Int) := by rw [i64_id (by omega)]; omega
    unfold slices_IndexFunc_api_Column_api_Column__schema_Right_1.st1 schema_Right_1.impl
    simp only [Int.toNat_natCast, w, Option.bind_some]
    rw [ite_dt (by omega), chk_pos (by omega)]) (by
    unfold slices_IndexFunc_api_Column_api_Column__schema_Right_1.st1
    rw [ite_df (by omega)])
  rw [any_range l (fun x => decide (x.1 = c.1))] at hq
  erw [hq]
  cases h : l.any fun x => decide (x.1 = c.1) with
  | true => simp
  | false => rfl
theorem containsI {l : List Ix} (hl : l.length ≤ 4194304) (c : Ix) : slices_ContainsFunc_api_Index_api_Index__schema_Right_2.impl l c = some (l.any fun x => decide (x.1 = c.1)) := by
  unfold slices_ContainsFunc_api_Index_api_Index__schema_Right_2.impl slices_IndexFunc_api_Index_api_Index__schema_Right_2.impl
  obtain ⟨q, hq⟩ := loop_find (step := slices_IndexFunc_api_Index_api_Index__schema_Right_2.st1 l c) (n := l.length) (p := fun j => decide ((l.getD j default).1 = c.1)) (fun i hi => by
    have w : IntKind.i64.wrap ((i : Int) + 1) = ((i + 1 : Nat) : Int) := by rw [i64_id (by omega)]; omega
    unfold slices_IndexFunc_api_Index_api_Index__schema_Right_2.st1 schema_Right_2.impl
    simp only [Int.toNat_natCast, w, Option.bind_some]
    rw [ite_dt (by omega), chk_pos (by omega)]
    by_cases g : (l.getD i default).1 = c.1
    · rw [decide_eq_true g, decide_eq_true g.symm]
    · rw [decide_eq_false g, decide_eq_false (fun e => g e.symm)]) (by
    unfold slices_IndexFunc_api_Index_api_Index__schema_Right_2.st1
    rw [ite_df (by omega)])
  rw [any_range l (fun x => decide (x.1 = c.1))] at hq
  erw [hq]
  cases h : l.any fun x => decide (x.1 = c.1) with
  | true => simp
  | false => rfl
theorem subl_take0 {α : Type} (l : List α) (n : Nat) : subl l 0 (n : Int) = l.take n := by unfold subl; simp
/-- Names that are not too long. -/
def NamesS (s : Sch) : Prop := s.1.length ≤ 4194304 ∧ ∀ c ∈ s.2.1, c.1.length ≤ 4194304
theorem right_cols {s : Sch} (hn : NamesS s) (h3 : s.2.1.length ≤ 3) : loop (schema_Right.st2 s) 0 = some (if (List.range s.2.1.length).all (okC s) = true then .inr () else .inl 61) :=
  loop_all (fun i hi => by
    have w : IntKind.i64.wrap ((i : Int) + 1) = ((i + 1 : Nat) : Int) := by rw [i64_id (by omega)]; omega
    have hm := hn.2 _ (List.getElem_mem hi)
    rw [← getD_el hi] at hm
    have k5 : ∀ b : Bool, schema_Right.k5 (i : Int) b = if b = true then some (.inr (.inl 61)) else some (.inl ((i + 1 : Nat) : Int)) := fun b => by unfold schema_Right.k5; rw [w]
    unfold schema_Right.st2 okC
    simp only [Int.toNat_natCast, subl_take0, k5]
    rw [ite_dt (by omega), chk_pos (by omega), chk_pos (by omega), containsC (by simp; omega), column_is hm]
    simp only [Option.bind_some]
    cases (s.2.1.take i).any (fun x => decide (x.1 = (s.2.1.getD i default).1)) <;> cases colP (s.2.1.getD i default) <;> rfl) (by
    unfold schema_Right.st2
    rw [ite_df (by omega)])
theorem right_idx {s : Sch} (h3 : s.2.2.length ≤ 3) : loop (schema_Right.st1 s) 0 = some (if (List.range s.2.2.length).all (okI s) = true then .inr () else .inl 61) :=
  loop_all (fun i hi => by
    have w : IntKind.i64.wrap ((i : Int) + 1) = ((i + 1 : Nat) : Int) := by rw [i64_id (by omega)]; omega
    have k4 : ∀ b : Bool, schema_Right.k4 (i : Int) b = if b = true then some (.inr (.inl 61)) else some (.inl ((i + 1 : Nat) : Int)) := fun b => by unfold schema_Right.k4; rw [w]
    unfold schema_Right.st1 okI
    simp only [Int.toNat_natCast, subl_take0, k4]
    rw [ite_dt (by omega), chk_pos (by omega), chk_pos (by omega), containsI (by simp; omega)]
    simp only [Option.bind_some]
    cases (s.2.2.take i).any (fun x => decide (x.1 = (s.2.2.getD i default).1)) with
    | true => rfl
    | false =>
      by_cases g : (s.2.2.getD i default).1 < 1
      · rw [ite_dt g, decide_eq_false (show ¬ 1 ≤ (s.2.2.getD i default).1 by omega)]; rfl
      · rw [ite_df g, decide_eq_true (show 1 ≤ (s.2.2.getD i default).1 by omega)]
        by_cases g2 : (s.2.1.length : Int) ≤ (s.2.2.getD i default).1
        · rw [decide_eq_true g2, decide_eq_false (show ¬ (s.2.2.getD i default).1 < (s.2.1.length : Int) by omega)]; rfl
        · rw [decide_eq_false g2, decide_eq_true (show (s.2.2.getD i default).1 < (s.2.1.length : Int) by omega)]; rfl) (by
    unfold schema_Right.st1
    rw [ite_df (by omega)])
theorem SRight_is {s : Sch} (hn : NamesS s) : schema_Right.impl s = some (if rightS s = true then 0 else 61) := by
  unfold schema_Right.impl rightS
  rw [Name_is hn.1]
  simp only [Option.bind_some]
  cases nameP s.1 with
  | false => rfl
  | true =>
    simp only [if_true, Bool.true_and]
    by_cases h1 : 1 ≤ s.2.1.length
    · rw [ite_df (by omega)]
      by_cases h3 : s.2.1.length ≤ 3
      · rw [ite_df (by omega)]
        by_cases h4 : s.2.2.length ≤ 3
        · have hz : sizesS s = true := by unfold sizesS; simp [h1, h3, h4]
          rw [decide_eq_false (show ¬ (3 : Int) < (s.2.2.length : Int) by omega), hz]
          unfold schema_Right.k1
          simp only [Bool.false_eq_true, if_false, Bool.true_and]
          rw [right_cols hn h3]
          cases (List.range s.2.1.length).all (okC s) with
          | false => rfl
          | true =>
            simp only [if_true, Option.bind_some, schema_Right.k2]
            rw [right_idx h4]
            cases (List.range s.2.2.length).all (okI s) <;> rfl
        · have hz : sizesS s = false := by unfold sizesS; simp [h4]
          rw [decide_eq_true (show (3 : Int) < (s.2.2.length : Int) by omega), hz]; rfl
      · have hz : sizesS s = false := by unfold sizesS; simp [h3]
        rw [ite_dt (by omega), hz]; rfl
    · have hz : sizesS s = false := by unfold sizesS; simp [h1]
      rw [ite_dt (by omega), hz]; rfl
theorem ref_same_cols {s : Sch} {i : Nat} (hi : i < s.2.1.length) (h3 : s.2.1.length ≤ 3) : loop (ref14_Right.st4 (i : Int) s) 0 = some (if ((s.2.1.take i).any fun x => decide (x.1 = (s.2.1.getD i default).1)) = true then .inl false else .inr ()) := by
  have := loop_all (step := ref14_Right.st4 (i : Int) s) (n := i) (v := false) (ok := fun j => !decide ((s.2.1.getD j default).1 = (s.2.1.getD i default).1)) (fun j hj => by
    have w : IntKind.i64.wrap ((j : Int) + 1) = ((j + 1 : Nat) : Int) := by rw [i64_id (by omega)]; omega
    unfold ref14_Right.st4
    simp only [Int.toNat_natCast, w]
    rw [ite_dt (by omega), chk_pos (by omega)]
    cases decide ((s.2.1.getD j default).1 = (s.2.1.getD i default).1) <;> rfl) (by
    unfold ref14_Right.st4
    rw [ite_df (by omega)])
  rw [this]
  have e : ((List.range i).all fun j => !decide ((s.2.1.getD j default).1 = (s.2.1.getD i default).1)) = !((s.2.1.take i).any fun x => decide (x.1 = (s.2.1.getD i default).1)) := by
    have a := any_range (s.2.1.take i) (fun x => decide (x.1 = (s.2.1.getD i default).1))
    rw [List.length_take, Nat.min_eq_left (by omega)] at a
    rw [← a, ← List.not_any_eq_all_not]
    congr 1
    rw [Bool.eq_iff_iff]
    simp only [List.any_eq_true, List.mem_range]
    constructor
    · rintro ⟨j, hj, h⟩; exact ⟨j, hj, by rw [getD_el (by simp; omega), List.getElem_take, ← getD_el (by omega)]; exact h⟩
    · rintro ⟨j, hj, h⟩; exact ⟨j, hj, by rw [getD_el (by simp; omega), List.getElem_take, ← getD_el (by omega)] at h; exact h⟩
  rw [e]
  cases (s.2.1.take i).any (fun x => decide (x.1 = (s.2.1.getD i default).1)) <;> rfl
theorem ref_same_idx {s : Sch} {i : Nat} (hi : i < s.2.2.length) (h3 : s.2.2.length ≤ 3) : loop (ref14_Right.st2 (i : Int) s) 0 = some (if ((s.2.2.take i).any fun x => decide (x.1 = (s.2.2.getD i default).1)) = true then .inl false else .inr ()) := by
  have := loop_all (step := ref14_Right.st2 (i : Int) s) (n := i) (v := false) (ok := fun j => !decide ((s.2.2.getD j default).1 = (s.2.2.getD i default).1)) (fun j hj => by
    have w : IntKind.i64.wrap ((j : Int) + 1) = ((j + 1 : Nat) : Int) := by rw [i64_id (by omega)]; omega
    unfold ref14_Right.st2
    simp only [Int.toNat_natCast, w]
    rw [ite_dt (by omega), chk_pos (by omega)]
    cases decide ((s.2.2.getD j default).1 = (s.2.2.getD i default).1) <;> rfl) (by
    unfold ref14_Right.st2
    rw [ite_df (by omega)])
  rw [this]
  have e : ((List.range i).all fun j => !decide ((s.2.2.getD j default).1 = (s.2.2.getD i default).1)) = !((s.2.2.take i).any fun x => decide (x.1 = (s.2.2.getD i default).1)) := by
    have a := any_range (s.2.2.take i) (fun x => decide (x.1 = (s.2.2.getD i default).1))
    rw [List.length_take, Nat.min_eq_left (by omega)] at a
    rw [← a, ← List.not_any_eq_all_not]
    congr 1
    rw [Bool.eq_iff_iff]
    simp only [List.any_eq_true, List.mem_range]
    constructor
    · rintro ⟨j, hj, h⟩; exact ⟨j, hj, by rw [getD_el (by simp; omega), List.getElem_take, ← getD_el (by omega)]; exact h⟩
    · rintro ⟨j, hj, h⟩; exact ⟨j, hj, by rw [getD_el (by simp; omega), List.getElem_take, ← getD_el (by omega)] at h; exact h⟩
  rw [e]
  cases (s.2.2.take i).any (fun x => decide (x.1 = (s.2.2.getD i default).1)) <;> rfl
theorem ref_cols {s : Sch} (h3 : s.2.1.length ≤ 3) : loop (ref14_Right.st3 s) 0 = some (if (List.range s.2.1.length).all (okC s) = true then .inr () else .inl false) :=
  loop_all (fun i hi => by
    have w : IntKind.i64.wrap ((i : Int) + 1) = ((i + 1 : Nat) : Int) := by rw [i64_id (by omega)]; omega
    have k7t : ref14_Right.k7 (i : Int) s true = some (.inr (.inl false)) := rfl
    have k7f : ref14_Right.k7 (i : Int) s false = if (!((s.2.1.take i).any fun x => decide (x.1 = (s.2.1.getD i default).1))) = true then some (.inl ((i + 1 : Nat) : Int)) else some (.inr (.inl false)) := by
      unfold ref14_Right.k7
      simp only [Bool.false_eq_true, if_false]
      rw [ref_same_cols hi h3]
      cases (s.2.1.take i).any (fun x => decide (x.1 = (s.2.1.getD i default).1)) with
      | true => rfl
      | false => simp only [Bool.false_eq_true, if_false, Option.bind_some, ref14_Right.k6, w]; rfl
    unfold ref14_Right.st3 okC colP
    simp only [Int.toNat_natCast, k7t]
    rw [ite_dt (by omega), chk_pos (by omega), RefName_is]
    simp only [Option.bind_some]
    cases nameP (s.2.1.getD i default).1 with
    | false => simp
    | true =>
      simp only [if_true, Bool.true_and]
      by_cases g1 : (s.2.1.getD i default).2.1 < 1
      · rw [ite_dt g1, if_neg (show ¬ (s.2.1.getD i default).2.1 = 2 by omega), decide_eq_false (show ¬ (s.2.1.getD i default).2.1 = 1 by omega), decide_eq_false (show ¬ (s.2.1.getD i default).2.1 = 3 by omega)]; simp
      rw [ite_df g1]
      by_cases g3 : (3 : Int) < (s.2.1.getD i default).2.1
      · rw [ite_dt g3, if_neg (show ¬ (s.2.1.getD i default).2.1 = 2 by omega), decide_eq_false (show ¬ (s.2.1.getD i default).2.1 = 1 by omega), decide_eq_false (show ¬ (s.2.1.getD i default).2.1 = 3 by omega)]; simp
      rw [ite_df g3]
      by_cases g2 : (s.2.1.getD i default).2.1 = 2
      · rw [ite_dt g2, if_pos g2]
        by_cases a1 : (s.2.1.getD i default).2.2 < 1
        · rw [ite_dt a1, decide_eq_false (show ¬ 1 ≤ (s.2.1.getD i default).2.2 by omega)]; simp
        rw [ite_df a1, decide_eq_true (show 1 ≤ (s.2.1.getD i default).2.2 by omega)]
        by_cases a2 : (8 : Int) < (s.2.1.getD i default).2.2
        · rw [ite_dt a2, decide_eq_false (show ¬ (s.2.1.getD i default).2.2 ≤ 8 by omega)]; simp
        · rw [ite_df a2, decide_eq_true (show (s.2.1.getD i default).2.2 ≤ 8 by omega), k7f, Bool.and_true, Bool.and_true]
      · rw [ite_df g2, if_neg g2]
        have e : (decide ((s.2.1.getD i default).2.1 = 1) || decide ((s.2.1.getD i default).2.1 = 3)) = true := by simp only [Bool.or_eq_true, decide_eq_true_eq]; omega
        rw [e, Bool.true_and]
        by_cases a1 : (s.2.1.getD i default).2.2 = 0
        · rw [decide_eq_true a1, Bool.and_true]; exact k7f
        · rw [decide_eq_false a1, Bool.and_false]; rfl) (by
    unfold ref14_Right.st3
    rw [ite_df (by omega)])
theorem ref_idx {s : Sch} (h3 : s.2.2.length ≤ 3) : loop (ref14_Right.st1 s) 0 = some (if (List.range s.2.2.length).all (okI s) = true then .inr () else .inl false) :=
  loop_all (fun i hi => by
    have w : IntKind.i64.wrap ((i : Int) + 1) = ((i + 1 : Nat) : Int) := by rw [i64_id (by omega)]; omega
    have k5t : ref14_Right.k5 (i : Int) s true = some (.inr (.inl false)) := rfl
    have k5f : ref14_Right.k5 (i : Int) s false = if (!((s.2.2.take i).any fun x => decide (x.1 = (s.2.2.getD i default).1))) = true then some (.inl ((i + 1 : Nat) : Int)) else some (.inr (.inl false)) := by
      unfold ref14_Right.k5
      simp only [Bool.false_eq_true, if_false]
      rw [ref_same_idx hi h3]
      cases (s.2.2.take i).any (fun x => decide (x.1 = (s.2.2.getD i default).1)) with
      | true => rfl
      | false => simp only [Bool.false_eq_true, if_false, Option.bind_some, ref14_Right.k4, w]; rfl
    unfold ref14_Right.st1 okI
    simp only [Int.toNat_natCast]
    rw [ite_dt (by omega), chk_pos (by omega)]
    by_cases g : (s.2.2.getD i default).1 < 1
    · rw [ite_dt g, k5t, decide_eq_false (show ¬ 1 ≤ (s.2.2.getD i default).1 by omega), Bool.false_and, Bool.and_false]; rfl
    rw [ite_df g, decide_eq_true (show 1 ≤ (s.2.2.getD i default).1 by omega), Bool.true_and]
    by_cases g2 : (s.2.1.length : Int) ≤ (s.2.2.getD i default).1
    · rw [decide_eq_true g2, k5t, decide_eq_false (show ¬ (s.2.2.getD i default).1 < (s.2.1.length : Int) by omega), Bool.and_false]; rfl
    · rw [decide_eq_false g2, k5f, decide_eq_true (show (s.2.2.getD i default).1 < (s.2.1.length : Int) by omega), Bool.and_true]) (by
    unfold ref14_Right.st1
    rw [ite_df (by omega)])
theorem RefSRight_is {s : Sch} : ref14_Right.impl s = some (rightS s) := by
  unfold ref14_Right.impl rightS
  rw [RefName_is]
  simp only [Option.bind_some]
  cases nameP s.1 with
  | false => rfl
  | true =>
    simp only [if_true, Bool.true_and]
    by_cases h1 : 1 ≤ s.2.1.length
    · rw [ite_df (by omega)]
      by_cases h3 : s.2.1.length ≤ 3
      · rw [ite_df (by omega)]
        by_cases h4 : s.2.2.length ≤ 3
        · have hz : sizesS s = true := by unfold sizesS; simp [h1, h3, h4]
          rw [decide_eq_false (show ¬ (3 : Int) < (s.2.2.length : Int) by omega), hz]
          unfold ref14_Right.k1
          simp only [Bool.false_eq_true, if_false, Bool.true_and]
          rw [ref_cols h3]
          cases (List.range s.2.1.length).all (okC s) with
          | false => rfl
          | true =>
            simp only [if_true, Option.bind_some, ref14_Right.k2]
            rw [ref_idx h4]
            cases (List.range s.2.2.length).all (okI s) <;> rfl
        · have hz : sizesS s = false := by unfold sizesS; simp [h4]
          rw [decide_eq_true (show (3 : Int) < (s.2.2.length : Int) by omega), hz]; rfl
      · have hz : sizesS s = false := by unfold sizesS; simp [h3]
        rw [ite_dt (by omega), hz]; rfl
    · have hz : sizesS s = false := by unfold sizesS; simp [h1]
      rw [ite_dt (by omega), hz]; rfl
end Go.Proofs.YtpogdeibkghhaaaDoor

set_option linter.unusedVariables false
set_option linter.unusedSimpArgs false
namespace Go.Proofs.YtpogdeibkghhaaaDoor
open Go Go.RowKit Go.Lib
def Tx (v : Vl) : Prop := v.2.2.length ≤ 4194304
/-! ### Rows that fit -/
theorem len3 {s : Sch} (h : rightS s = true) : 1 ≤ s.2.1.length ∧ s.2.1.length ≤ 3 ∧ s.2.2.length ≤ 3 := by
  unfold rightS sizesS at h
  simp only [Bool.and_eq_true, decide_eq_true_eq] at h
  omega
/-! ### Folding -/
/-! ### Rows' bytes -/
def smallV (v : Vl) : Bool := decide (rightE v = 0) && (!decide (v.1 = 2) || decide (countR v.2.2 ≤ 8))
def rowE (row : List Vl) : Int := if row.length ≤ 3 then (if row.all smallV = true then 0 else 62) else 2
theorem all_range {α : Type} [Inhabited α] (l : List α) (f : α → Bool) : ((List.range l.length).all fun j => f (l.getD j default)) = l.all f := by
  rw [Bool.eq_iff_iff]
  simp only [List.all_eq_true, List.mem_range]
  constructor
  · intro h x hx
    obtain ⟨j, hj, rfl⟩ := List.getElem_of_mem hx
    have := h j hj
    rwa [getD_el hj] at this
  · intro h j hj; rw [getD_el hj]; exact h _ (List.getElem_mem hj)
theorem Small_is {v : Vl} (h : Tx v) : ref14_Small.impl v = some (smallV v) := by
  unfold ref14_Small.impl smallV
  rw [RefRight_is (v := (v.1, v.2.1, v.2.2)) h, RefRunes_is h]
  simp only [Option.bind_some]
  by_cases g : rightE v = 0
  · rw [ite_dt g, decide_eq_true g, Bool.true_and]
    by_cases k : v.1 = 2
    · rw [ite_dt k, decide_eq_true k]; rfl
    · rw [ite_df k, decide_eq_false k]; rfl
  · rw [ite_df g, decide_eq_false g]; rfl
theorem RowRight_is {row : List Vl} (ht : ∀ v ∈ row, Tx v) : ref14_RowRight.impl row = some (rowE row) := by
  unfold ref14_RowRight.impl rowE
  by_cases h3 : row.length ≤ 3
  · rw [ite_df (by omega), if_pos h3]
    have := loop_all (step := ref14_RowRight.st1 row) (n := row.length) (v := (62 : Int)) (ok := fun i => smallV (row.getD i default)) (fun i hi => by
      have w : IntKind.i64.wrap ((i : Int) + 1) = ((i + 1 : Nat) : Int) := by rw [i64_id (by omega)]; omega
      have hm := ht _ (List.getElem_mem hi)
      rw [← getD_el hi] at hm
      unfold ref14_RowRight.st1
      simp only [Int.toNat_natCast, w]
      rw [ite_dt (by omega), chk_pos (by omega), Small_is hm]
      simp only [Option.bind_some]
      cases smallV (row.getD i default) <;> rfl) (by
      unfold ref14_RowRight.st1
      rw [ite_df (by omega)])
    rw [this, all_range row smallV]
    by_cases h : row.all smallV = true
    · rw [if_pos h, if_pos h]; rfl
    · rw [if_neg h, if_neg h]; rfl
  · rw [ite_dt (by omega), if_neg h3]
theorem keyL_err {l : List Vl} (h : ∃ v ∈ l, rightE v ≠ 0) : (keyL l).2 ≠ 0 := by
  induction l with
  | nil => obtain ⟨v, hv, _⟩ := h; cases hv
  | cons a l ih =>
    rw [keyL_cons]
    by_cases g : rightE a = 0
    · rw [if_pos g]
      obtain ⟨v, hv, hr⟩ := h
      rcases List.mem_cons.1 hv with rfl | hv
      · exact absurd g hr
      · have := ih ⟨v, hv, hr⟩
        rw [if_neg this]; exact this
    · rw [if_neg g]; exact g
theorem keyL_ok {l : List Vl} (h : ∀ v ∈ l, rightE v = 0) : keyL l = (l.flatMap kb, 0) := by
  induction l with
  | nil => rfl
  | cons v l ih => rw [keyL_cons, if_pos (h v (by simp)), ih (fun x hx => h x (by simp [hx])), List.flatMap_cons, if_pos rfl]
theorem EncodeRow_is {row : List Vl} (hf : ∀ v ∈ row, Fits v) : schema_EncodeRow.impl row = some (if rowE row = 0 then row.flatMap kb else [], rowE row) := by
  have ht : ∀ v ∈ row, Tx v := fun v hv => (hf v hv).2
  unfold schema_EncodeRow.impl
  by_cases h3 : row.length ≤ 3
  · rw [ite_df (by omega)]
    have := loop_all (step := schema_EncodeRow.st1 row) (n := row.length) (v := (([] : List UInt8), (62 : Int))) (ok := fun i => !(decide ((row.getD i default).1 = 2) && decide ((8 : Int) < countR (row.getD i default).2.2))) (fun i hi => by
      have w : IntKind.i64.wrap ((i : Int) + 1) = ((i + 1 : Nat) : Int) := by rw [i64_id (by omega)]; omega
      have hm := ht _ (List.getElem_mem hi)
      rw [← getD_el hi] at hm
      unfold schema_EncodeRow.st1 schema_EncodeRow.k2
      simp only [Int.toNat_natCast, w]
      rw [ite_dt (by omega), chk_pos (by omega), Runes_is hm]
      simp only [Option.bind_some]
      by_cases k2 : (row.getD i default).1 = 2
      · rw [ite_dt k2, decide_eq_true k2, Bool.true_and]
        cases decide ((8 : Int) < countR (row.getD i default).2.2) <;> rfl
      · rw [ite_df k2, decide_eq_false k2]; rfl) (by
      unfold schema_EncodeRow.st1
      rw [ite_df (by omega)])
    rw [this, all_range row (fun v => !(decide (v.1 = 2) && decide ((8 : Int) < countR v.2.2)))]
    have hE : rowE row = if row.all smallV = true then 0 else 62 := by unfold rowE; rw [if_pos h3]
    by_cases h : row.all (fun v => !(decide (v.1 = 2) && decide ((8 : Int) < countR v.2.2))) = true
    · rw [if_pos h]
      simp only [Option.bind_some, schema_EncodeRow.k1]
      rw [Key_is (by omega) hf]
      simp only [Option.bind_some]
      by_cases hr : ∀ v ∈ row, rightE v = 0
      · have hs : row.all smallV = true := by
          simp only [List.all_eq_true] at h ⊢
          intro v hv
          have h1 := h v hv
          have h2 := hr v hv
          unfold smallV
          rw [decide_eq_true h2, Bool.true_and]
          by_cases k2 : v.1 = 2
          · rw [decide_eq_true k2] at h1 ⊢
            simp only [Bool.true_and, Bool.not_eq_true', decide_eq_false_iff_not] at h1
            simp only [Bool.not_true, Bool.false_or, decide_eq_true_eq]; omega
          · rw [decide_eq_false k2]; rfl
        rw [hE, if_pos hs, keyL_ok hr]; rfl
      · have hs : ¬ row.all smallV = true := fun hs => hr fun v hv => by
          have := List.all_eq_true.1 hs v hv
          unfold smallV at this
          simp only [Bool.and_eq_true, decide_eq_true_eq] at this
          exact this.1
        have he : (keyL row).2 ≠ 0 := keyL_err (by
          apply Classical.byContradiction
          intro hx
          exact hr fun v hv => Classical.byContradiction fun hne => hx ⟨v, hv, hne⟩)
        rw [hE, if_neg hs, ite_nf he]; rfl
    · rw [if_neg h]
      have hs : ¬ row.all smallV = true := fun hs => h (by
        simp only [List.all_eq_true] at hs ⊢
        intro v hv
        have := hs v hv
        unfold smallV at this
        simp only [Bool.and_eq_true, Bool.or_eq_true, Bool.not_eq_true', decide_eq_true_eq, decide_eq_false_iff_not] at this
        simp only [Bool.not_eq_true', Bool.and_eq_false_iff, decide_eq_false_iff_not]
        rcases this.2 with g | g
        · exact .inl g
        · exact .inr (by omega))
      rw [hE, if_neg hs]; rfl
  · rw [ite_dt (by omega)]
    have hE : rowE row = 2 := by unfold rowE; rw [if_neg h3]
    rw [hE]; rfl
theorem readL_fits {b : List UInt8} (hb : b.length ≤ 1048576) {l : List Vl} (h : readL b = some l) : ∀ v ∈ l, Fits v := by
  obtain ⟨h1, h2⟩ := readL_inv _ b (Nat.lt_succ_self _) l h
  have hkb : ∀ v ∈ l, (kb v).length ≤ b.length := fun v hv => by
    obtain ⟨s, t, rfl⟩ := List.append_of_mem hv
    rw [h2, List.flatMap_append, List.flatMap_cons, List.length_append, List.length_append]; omega
  intro v hv
  refine ⟨(h1 v hv).2, ?_⟩
  have hk := kind_of_right (h1 v hv).1
  have hr := (h1 v hv).1
  have hl := hkb v hv
  obtain ⟨k, n, t⟩ := v
  simp only at hk
  rcases hk with rfl | rfl | rfl | rfl
  · obtain ⟨_, rfl⟩ := right0.1 hr; simp
  · obtain rfl := right1.1 hr; simp
  · obtain ⟨_, hv⟩ := right2.1 hr
    have h5 := ofRunes_le (runesOf t)
    rw [ofRunes_runesOf hv] at h5
    rw [kb2, List.length_cons, List.length_append, flat3_length] at hl
    dsimp only
    omega
  · obtain ⟨rfl, _⟩ := right3.1 hr; simp
/-- What bytes say as a row. -/
def decR (b : List UInt8) : Option (List Vl) := (readL b).bind fun l => if rowE l = 0 then some l else none
theorem DecodeRow_is {b : List UInt8} (hb : b.length ≤ 1048576) : schema_DecodeRow.impl b = some (match decR b with | some l => (l, 0) | none => ([], 11)) := by
  unfold schema_DecodeRow.impl decR
  rw [Read_is (by omega)]
  simp only [Option.bind_some]
  cases e : readL b with
  | none => rfl
  | some l =>
    simp only [readOut, List.nil_append, decide_true, Bool.not_true, Bool.false_eq_true, if_false, Option.bind_some]
    rw [EncodeRow_is (readL_fits hb e)]
    simp only [Option.bind_some]
    by_cases h : rowE l = 0
    · rw [ite_nt h, if_pos h]
    · rw [ite_nf h, if_neg h]
theorem rowE_zero {row : List Vl} (h : rowE row = 0) : row.length ≤ 3 ∧ ∀ v ∈ row, smallV v = true := by
  unfold rowE at h
  by_cases h3 : row.length ≤ 3
  · rw [if_pos h3] at h
    by_cases hs : row.all smallV = true
    · exact ⟨h3, List.all_eq_true.1 hs⟩
    · rw [if_neg hs] at h; cases h
  · rw [if_neg h3] at h; cases h
theorem small_right {v : Vl} (h : smallV v = true) : rightE v = 0 := by
  unfold smallV at h
  simp only [Bool.and_eq_true, decide_eq_true_eq] at h
  exact h.1
theorem small_len {v : Vl} (h : smallV v = true) : (kb v).length ≤ 28 := by
  have hr := small_right h
  have hk := kind_of_right hr
  obtain ⟨k, n, t⟩ := v
  simp only at hk
  rcases hk with rfl | rfl | rfl | rfl
  · rw [kb0]; simp
  · rw [kb1, List.length_cons, be8_length]; omega
  · obtain ⟨_, hv⟩ := right2.1 hr
    unfold smallV countR at h
    simp only [hv, if_true, Bool.and_eq_true, Bool.or_eq_true, decide_eq_true_eq, decide_true, Bool.not_true, Bool.false_eq_true, false_or] at h
    rw [kb2, List.length_cons, List.length_append, flat3_length]
    simp only [List.length_cons, List.length_nil]
    omega
  · rw [kb3]; simp
theorem row_len {row : List Vl} (h : rowE row = 0) : (row.flatMap kb).length ≤ 120 := by
  obtain ⟨h3, hs⟩ := rowE_zero h
  have : ∀ l : List Vl, (∀ v ∈ l, smallV v = true) → (l.flatMap kb).length ≤ 28 * l.length := by
    intro l
    induction l with
    | nil => intro _; simp
    | cons v l ih =>
      intro hl
      have := ih (fun x hx => hl x (by simp [hx]))
      have h2 := small_len (hl v (by simp))
      rw [List.flatMap_cons, List.length_append, List.length_cons]; omega
  have := this row hs
  omega
theorem decR_enc {row : List Vl} (hn : ∀ v ∈ row, In64 v.2.1) (h : rowE row = 0) : decR (row.flatMap kb) = some row := by
  unfold decR
  rw [readL_kb row (fun v hv => ⟨small_right ((rowE_zero h).2 v hv), hn v hv⟩)]
  simp only [Option.bind_some]
  rw [if_pos h]
/-! ### Are they the same? -/
theorem loop_same {α : Type} [Inhabited α] [DecidableEq α] {l m : List α} {step : Int → Option (Int ⊕ (Bool ⊕ Unit))} (hlen : l.length = m.length)
    (hs : ∀ i : Nat, i < l.length → step (i : Int) = if decide (l.getD i default = m.getD i default) = true then some (.inl ((i + 1 : Nat) : Int)) else some (.inr (.inl false))) (he : step (l.length : Int) = some (.inr (.inr ()))) :
    loop step 0 = some (if l = m then .inr () else .inl false) := by
  rw [loop_all hs he]
  congr 1
  have : ((List.range l.length).all fun i => decide (l.getD i default = m.getD i default)) = decide (l = m) := by
    rw [Bool.eq_iff_iff]
    simp only [List.all_eq_true, List.mem_range, decide_eq_true_eq]
    constructor
    · intro h
      refine List.ext_getElem hlen fun i h1 h2 => ?_
      have := h i h1
      rwa [getD_el h1, getD_el h2] at this
    · intro h i _; rw [h]
  rw [this]
  by_cases h : l = m
  · rw [if_pos h, decide_eq_true h, if_pos rfl]
  · rw [if_neg h, decide_eq_false h]; rfl
theorem EqualC_is {l m : List Col} (hl : l.length ≤ 4194304) : slices_Equal_api_Column_api_Column_.impl l m = some (decide (l = m)) := by
  unfold slices_Equal_api_Column_api_Column_.impl
  by_cases hlen : l.length = m.length
  · rw [ite_nt (by omega), loop_same hlen (fun i hi => by
      have w : IntKind.i64.wrap ((i : Int) + 1) = ((i + 1 : Nat) : Int) := by rw [i64_id (by omega)]; omega
      unfold slices_Equal_api_Column_api_Column_.st1
      simp only [Int.toNat_natCast, w]
      rw [ite_dt (by omega), chk_pos (by omega), chk_pos (by omega)]
      cases decide (l.getD i default = m.getD i default) <;> rfl) (by
      unfold slices_Equal_api_Column_api_Column_.st1
      rw [ite_df (by omega)])]
    by_cases h : l = m
    · rw [if_pos h, decide_eq_true h]; rfl
    · rw [if_neg h, decide_eq_false h]; rfl
  · rw [ite_nf (by omega), decide_eq_false (fun e => hlen (by rw [e]))]
theorem EqualI_is {l m : List Ix} (hl : l.length ≤ 4194304) : slices_Equal_api_Index_api_Index_.impl l m = some (decide (l = m)) := by
  unfold slices_Equal_api_Index_api_Index_.impl
  by_cases hlen : l.length = m.length
  · rw [ite_nt (by omega), loop_same hlen (fun i hi => by
      have w : IntKind.i64.wrap ((i : Int) + 1) = ((i + 1 : Nat) : Int) := by rw [i64_id (by omega)]; omega
      unfold slices_Equal_api_Index_api_Index_.st1
      simp only [Int.toNat_natCast, w]
      rw [ite_dt (by omega), chk_pos (by omega), chk_pos (by omega)]
      cases decide (l.getD i default = m.getD i default) <;> rfl) (by
      unfold slices_Equal_api_Index_api_Index_.st1
      rw [ite_df (by omega)])]
    by_cases h : l = m
    · rw [if_pos h, decide_eq_true h]; rfl
    · rw [if_neg h, decide_eq_false h]; rfl
  · rw [ite_nf (by omega), decide_eq_false (fun e => hlen (by rw [e]))]
theorem EqualV_is {l m : List Vl} (hl : l.length ≤ 4194304) : slices_Equal_api_Value_api_Value_.impl l m = some (decide (l = m)) := by
  unfold slices_Equal_api_Value_api_Value_.impl
  by_cases hlen : l.length = m.length
  · rw [ite_nt (by omega), loop_same hlen (fun i hi => by
      have w : IntKind.i64.wrap ((i : Int) + 1) = ((i + 1 : Nat) : Int) := by rw [i64_id (by omega)]; omega
      unfold slices_Equal_api_Value_api_Value_.st1
      simp only [Int.toNat_natCast, w]
      rw [ite_dt (by omega), chk_pos (by omega), chk_pos (by omega)]
      cases decide (l.getD i default = m.getD i default) <;> rfl) (by
      unfold slices_Equal_api_Value_api_Value_.st1
      rw [ite_df (by omega)])]
    by_cases h : l = m
    · rw [if_pos h, decide_eq_true h]; rfl
    · rw [if_neg h, decide_eq_false h]; rfl
  · rw [ite_nf (by omega), decide_eq_false (fun e => hlen (by rw [e]))]
theorem SSame_is {a b : Sch} (h1 : a.2.1.length ≤ 4194304) (h2 : a.2.2.length ≤ 4194304) : schema_Same.impl a b = some (decide (a = b)) := by
  unfold schema_Same.impl
  rw [EqualC_is h1, EqualI_is h2]
  simp only [Option.bind_some]
  obtain ⟨n, c, x⟩ := a
  obtain ⟨n', c', x'⟩ := b
  simp only [Prod.mk.injEq]
  by_cases e1 : n = n'
  · rw [ite_dt e1]
    by_cases e2 : c = c'
    · rw [ite_dt e2]
      by_cases e3 : x = x' <;> simp [e1, e2, e3]
    · rw [ite_df e2]; simp [e1, e2]
  · rw [ite_df e1]; simp [e1]
theorem SameRow_is {a b : List Vl} (h : a.length ≤ 4194304) : schema_SameRow.impl a b = some (decide (a = b)) := by
  unfold schema_SameRow.impl
  rw [EqualV_is h]; rfl
theorem RefSSame_is {a b : Sch} (h1 : a.2.1.length ≤ 4194304) (h2 : a.2.2.length ≤ 4194304) : ref14_Same.impl a b = some (decide (a = b)) := by
  unfold ref14_Same.impl
  obtain ⟨n, c, x⟩ := a
  obtain ⟨n', c', x'⟩ := b
  simp only [Prod.mk.injEq] at *
  have k1t : ∀ y z : Sch, ref14_Same.k1 y z true = some false := fun _ _ => rfl
  by_cases e1 : n = n'
  · rw [ite_dt e1]
    by_cases l1 : c.length = c'.length
    · rw [ite_dt (by omega)]
      by_cases l2 : x.length = x'.length
      · rw [decide_eq_true (show (x.length : Int) = (x'.length : Int) by omega)]
        unfold ref14_Same.k1
        simp only [Bool.not_true, Bool.false_eq_true, if_false]
        rw [loop_same (l := c) (m := c') l1 (fun i hi => by
          have w : IntKind.i64.wrap ((i : Int) + 1) = ((i + 1 : Nat) : Int) := by rw [i64_id (by omega)]; omega
          unfold ref14_Same.st2
          simp only [Int.toNat_natCast, w]
          rw [ite_dt (by omega), chk_pos (by omega), chk_pos (by omega)]
          cases decide (c.getD i default = c'.getD i default) <;> rfl) (by
          unfold ref14_Same.st2
          rw [ite_df (by simp)])]
        by_cases e2 : c = c'
        · rw [if_pos e2]
          simp only [Option.bind_some, ref14_Same.k2]
          rw [loop_same (l := x) (m := x') l2 (fun i hi => by
            have w : IntKind.i64.wrap ((i : Int) + 1) = ((i + 1 : Nat) : Int) := by rw [i64_id (by omega)]; omega
            unfold ref14_Same.st1
            simp only [Int.toNat_natCast, w]
            rw [ite_dt (by omega), chk_pos (by omega), chk_pos (by omega)]
            cases decide (x.getD i default = x'.getD i default) <;> rfl) (by
            unfold ref14_Same.st1
            rw [ite_df (by simp)])]
          by_cases e3 : x = x'
          · rw [if_pos e3]; simp [e1, e2, e3, ref14_Same.k3]
          · rw [if_neg e3]; simp [e3]
        · rw [if_neg e2]; simp [e2]
      · rw [decide_eq_false (show ¬ (x.length : Int) = (x'.length : Int) by omega)]
        have : x ≠ x' := fun e => l2 (by rw [e])
        rw [Bool.not_false, k1t]; simp [this]
    · rw [ite_df (by omega), k1t]
      have : c ≠ c' := fun e => l1 (by rw [e])
      simp [this]
  · rw [ite_df e1, k1t]; simp [e1]
end Go.Proofs.YtpogdeibkghhaaaDoor

set_option linter.unusedVariables false
set_option linter.unusedSimpArgs false
namespace Go.Proofs.YtpogdeibkghhaaaDoor
open Go Go.RowKit Go.Lib
/-! ### Written -/
theorem uint_small {n : Nat} (h : n < 128) : uint n = [UInt8.ofNat n] := by
  unfold uint
  rw [show n / 128 = 0 by omega, hi_zero, Nat.mod_eq_of_lt h]; rfl
def bI (n : Int) : UInt8 := u8 (IntKind.u8.wrap n)
def encC (c : Col) : List UInt8 := UInt8.ofNat c.1.length :: (c.1 ++ [bI c.2.1, bI c.2.2])
def encI (x : Ix) : List UInt8 := [bI x.1, if x.2 = true then 1 else 0]
def encS (s : Sch) : List UInt8 := UInt8.ofNat s.1.length :: (s.1 ++ (UInt8.ofNat s.2.1.length :: (s.2.1.flatMap encC ++ (UInt8.ofNat s.2.2.length :: s.2.2.flatMap encI))))
theorem name_len {l : List UInt8} (h : nameP l = true) : 1 ≤ l.length ∧ l.length ≤ 8 := by
  unfold nameP at h
  simp only [Bool.and_eq_true, decide_eq_true_eq] at h
  exact h.1
theorem col_of {s : Sch} (h : rightS s = true) : ∀ c ∈ s.2.1, colP c = true := fun c hc => by
  unfold rightS at h
  simp only [Bool.and_eq_true, List.all_eq_true, List.mem_range] at h
  obtain ⟨i, hi, rfl⟩ := List.getElem_of_mem hc
  have := h.1.2 i hi
  unfold okC at this
  simp only [Bool.and_eq_true] at this
  rw [getD_el hi] at this
  exact this.2
theorem idx_of {s : Sch} (h : rightS s = true) : ∀ x ∈ s.2.2, 1 ≤ x.1 ∧ x.1 < (s.2.1.length : Int) := fun x hx => by
  unfold rightS at h
  simp only [Bool.and_eq_true, List.all_eq_true, List.mem_range] at h
  obtain ⟨i, hi, rfl⟩ := List.getElem_of_mem hx
  have := h.2 i hi
  unfold okI at this
  simp only [Bool.and_eq_true, decide_eq_true_eq] at this
  rw [getD_el hi] at this
  exact this.2
theorem name_of {s : Sch} (h : rightS s = true) : nameP s.1 = true := by
  unfold rightS at h
  simp only [Bool.and_eq_true] at h
  exact h.1.1.1
theorem colP_name {c : Col} (h : colP c = true) : 1 ≤ c.1.length ∧ c.1.length ≤ 8 := by
  unfold colP at h
  simp only [Bool.and_eq_true] at h
  exact name_len h.1
theorem colP_nums {c : Col} (h : colP c = true) : 0 ≤ c.2.1 ∧ c.2.1 ≤ 3 ∧ 0 ≤ c.2.2 ∧ c.2.2 ≤ 8 := by
  unfold colP at h
  simp only [Bool.and_eq_true] at h
  obtain ⟨_, h⟩ := h
  by_cases g : c.2.1 = 2
  · rw [if_pos g] at h
    simp only [Bool.and_eq_true, decide_eq_true_eq] at h
    omega
  · rw [if_neg g] at h
    simp only [Bool.and_eq_true, Bool.or_eq_true, decide_eq_true_eq] at h
    omega
theorem Bytes_small {l : List UInt8} (h : l.length ≤ 8) : wire_Bytes.impl l = some (UInt8.ofNat l.length :: l) := by
  rw [Bytes_is (by omega), uint_small (by omega)]; rfl
theorem encC_len (c : Col) : (encC c).length = c.1.length + 3 := by unfold encC; simp
theorem flatC_len {l : List Col} (h : ∀ c ∈ l, colP c = true) : (l.flatMap encC).length ≤ 11 * l.length := by
  induction l with
  | nil => simp
  | cons c l ih =>
    have := ih (fun x hx => h x (by simp [hx]))
    have h2 := colP_name (h c (by simp))
    rw [List.flatMap_cons, List.length_append, List.length_cons, encC_len]
    omega
theorem flatI_len (l : List Ix) : (l.flatMap encI).length = 2 * l.length := by
  induction l with
  | nil => simp
  | cons c l ih =>
    rw [List.flatMap_cons, List.length_append, List.length_cons, ih]
    simp only [encI, List.length_cons, List.length_nil]; omega
theorem encS_len {s : Sch} (h : rightS s = true) : (encS s).length ≤ 80 := by
  have h1 := len3 h
  have h2 := flatC_len (col_of h)
  have h3 := flatI_len s.2.2
  have h4 := name_len (name_of h)
  unfold encS
  simp only [List.length_cons, List.length_append]
  omega
theorem Encode_is {s : Sch} (hn : NamesS s) : schema_Encode.impl s = some (if rightS s = true then (encS s, 0) else ([], 61)) := by
  unfold schema_Encode.impl
  rw [SRight_is (s := (s.1, s.2.1, s.2.2)) hn]
  simp only [Option.bind_some]
  by_cases h : rightS s = true
  · have h3 := len3 h
    have hnm := name_len (name_of h)
    have hc := col_of h
    rw [if_pos h, if_pos h]
    simp only [decide_true, Bool.not_true, Bool.false_eq_true, if_false]
    rw [Bytes_small hnm.2]
    simp only [Option.bind_some]
    have e1 : u8 (IntKind.u8.wrap (s.2.1.length : Int)) = UInt8.ofNat s.2.1.length := u8_mod _
    have e2 : u8 (IntKind.u8.wrap (s.2.2.length : Int)) = UInt8.ofNat s.2.2.length := u8_mod _
    rw [chk_pos (by simp; omega), e1]
    unfold schema_Encode.k1
    generalize hb : (UInt8.ofNat s.1.length :: s.1) ++ [UInt8.ofNat s.2.1.length] = b0
    have lb0 : b0.length ≤ 10 := by rw [← hb]; simp; omega
    have l2 := loop_up (step := schema_Encode.st2 s) (r := b0 ++ s.2.1.flatMap encC) (fun i => (b0 ++ (s.2.1.take i).flatMap encC, (i : Int))) s.2.1.length (fun i hi => by
      have w : IntKind.i64.wrap ((i : Int) + 1) = ((i + 1 : Nat) : Int) := by rw [i64_id (by omega)]; omega
      have hm := hc _ (List.getElem_mem hi)
      rw [← getD_el hi] at hm
      have hl := flatC_len (l := s.2.1.take i) (fun c hc' => hc c (List.mem_of_mem_take hc'))
      rw [List.length_take] at hl
      have hq := (colP_name hm).2
      unfold schema_Encode.st2
      simp only [Int.toNat_natCast, w]
      rw [ite_dt (by omega), chk_pos (by omega), Bytes_small hq]
      simp only [Option.bind_some]
      rw [chk_pos (by simp only [List.length_append, List.length_cons]; omega), chk_pos (by simp only [List.length_append, List.length_cons, List.length_nil]; omega), ← List.take_append_getElem hi, List.flatMap_append, List.flatMap_cons, List.flatMap_nil, List.append_nil, ← getD_el hi]
      unfold encC bI
      simp [List.append_assoc]) (by
      unfold schema_Encode.st2
      rw [ite_df (by simp), List.take_length])
    simp only [List.take_zero, List.flatMap_nil, List.append_nil] at l2
    erw [l2]
    simp only [Option.bind_some, schema_Encode.k2, e2]
    have lc := flatC_len hc
    rw [chk_pos (by simp only [List.length_append, List.length_cons, List.length_nil]; omega)]
    generalize hb1 : b0 ++ s.2.1.flatMap encC ++ [UInt8.ofNat s.2.2.length] = b1
    have lb1 : b1.length ≤ 100 := by rw [← hb1]; simp only [List.length_append, List.length_cons, List.length_nil]; omega
    have l1 := loop_up (step := schema_Encode.st1 s) (r := b1 ++ s.2.2.flatMap encI) (fun i => (b1 ++ (s.2.2.take i).flatMap encI, (i : Int))) s.2.2.length (fun i hi => by
      have w : IntKind.i64.wrap ((i : Int) + 1) = ((i + 1 : Nat) : Int) := by rw [i64_id (by omega)]; omega
      have hl := flatI_len (s.2.2.take i)
      rw [List.length_take] at hl
      have k4 : ∀ z : Nat, z < 2 → schema_Encode.k4 (b1 ++ (s.2.2.take i).flatMap encI, (i : Int)) s (z : Int) = some (.inl ((b1 ++ (s.2.2.take i).flatMap encI) ++ [bI (s.2.2.getD i default).1, u8 (z : Int)], ((i + 1 : Nat) : Int))) := fun z hz => by
        unfold schema_Encode.k4
        simp only [Int.toNat_natCast, w]
        rw [chk_pos (by omega), chk_pos (by simp only [List.length_append, List.length_cons, List.length_nil]; omega)]
        rfl
      have k0 := k4 0 (by omega)
      have k1 := k4 1 (by omega)
      have he : (s.2.2.take (i + 1)).flatMap encI = (s.2.2.take i).flatMap encI ++ [bI (s.2.2.getD i default).1, if (s.2.2.getD i default).2 = true then 1 else 0] := by
        rw [← List.take_append_getElem hi, List.flatMap_append, List.flatMap_cons, List.flatMap_nil, List.append_nil, ← getD_el hi]; rfl
      unfold schema_Encode.st1
      simp only [Int.toNat_natCast]
      rw [ite_dt (by omega), chk_pos (by omega), he]
      by_cases hu : (s.2.2.getD i default).2 = true
      · rw [if_pos hu, if_pos hu, ← List.append_assoc]; exact k1
      · rw [if_neg hu, if_neg hu, ← List.append_assoc]; exact k0) (by
      unfold schema_Encode.st1
      rw [ite_df (by simp), List.take_length])
    simp only [List.take_zero, List.flatMap_nil, List.append_nil] at l1
    erw [l1]
    simp only [Option.bind_some, schema_Encode.k3]
    rw [← hb1, ← hb]
    unfold encS
    simp [List.append_assoc]
  · rw [if_neg h, if_neg h]; rfl
/-! ### Read -/
def pN : List UInt8 → Option (List UInt8 × List UInt8)
  | [] => none
  | n :: r => if n.toNat ≤ 8 ∧ n.toNat ≤ r.length then some (r.take n.toNat, r.drop n.toNat) else none
def pB (most : Nat) : List UInt8 → Option (Nat × List UInt8)
  | [] => none
  | b :: r => if b.toNat ≤ most then some (b.toNat, r) else none
theorem pN_cons (n : UInt8) (r : List UInt8) : pN (n :: r) = if n.toNat ≤ 8 ∧ n.toNat ≤ r.length then some (r.take n.toNat, r.drop n.toNat) else none := rfl
theorem pB_cons (most : Nat) (b : UInt8) (r : List UInt8) : pB most (b :: r) = if b.toNat ≤ most then some (b.toNat, r) else none := rfl
def pC (m : List UInt8) : Option (Col × List UInt8) := (pN m).bind fun a => (pB 3 a.2).bind fun k => (pB 8 k.2).bind fun x => some ((a.1, (k.1 : Int), (x.1 : Int)), x.2)
def pI (m : List UInt8) : Option (Ix × List UInt8) := (pB 3 m).bind fun k => (pB 1 k.2).bind fun x => some (((k.1 : Int), decide ((x.1 : Int) = 1)), x.2)
def pMany {α : Type} (p : List UInt8 → Option (α × List UInt8)) : Nat → List UInt8 → Option (List α × List UInt8)
  | 0, m => some ([], m)
  | n + 1, m => (p m).bind fun a => (pMany p n a.2).bind fun l => some (a.1 :: l.1, l.2)
def pS (m : List UInt8) : Option (Sch × List UInt8) := (pN m).bind fun a => (pB 3 a.2).bind fun k => (pMany pC k.1 k.2).bind fun c => (pB 3 c.2).bind fun j => (pMany pI j.1 j.2).bind fun x => some ((a.1, c.1, x.1), x.2)
def decS (m : List UInt8) : Option Sch := (pS m).bind fun q => if q.2 = [] ∧ rightS q.1 = true then some q.1 else none
/-! What is written is read. -/
theorem pN_enc {l : List UInt8} (h : l.length ≤ 8) (m : List UInt8) : pN (UInt8.ofNat l.length :: (l ++ m)) = some (l, m) := by
  have e : (UInt8.ofNat l.length).toNat = l.length := ofNat_b _ (by omega)
  rw [pN_cons, e, if_pos (by refine ⟨h, ?_⟩; rw [List.length_append]; omega), List.take_left, List.drop_left]
theorem pB_enc {k most : Nat} (h : k ≤ most) (h2 : k < 256) (m : List UInt8) : pB most (UInt8.ofNat k :: m) = some (k, m) := by
  have e : (UInt8.ofNat k).toNat = k := ofNat_b _ h2
  rw [pB_cons, e, if_pos h]
theorem bI_nat {n : Int} (h : 0 ≤ n) : bI n = UInt8.ofNat n.toNat := by
  obtain ⟨k, rfl⟩ := Int.eq_ofNat_of_zero_le h
  exact u8_mod k
theorem pC_enc {c : Col} (h : colP c = true) (m : List UInt8) : pC (encC c ++ m) = some (c, m) := by
  have h1 := colP_name h
  have h2 := colP_nums h
  obtain ⟨l, k, x⟩ := c
  simp only at h1 h2
  unfold pC encC
  simp only [List.cons_append, List.append_assoc, List.nil_append]
  rw [pN_enc h1.2, bI_nat h2.1, bI_nat h2.2.2.1]
  simp only [Option.bind_some]
  rw [pB_enc (by omega) (by omega)]
  simp only [Option.bind_some]
  rw [pB_enc (by omega) (by omega)]
  simp only [Option.bind_some]
  rw [show ((k.toNat : Nat) : Int) = k by omega, show ((x.toNat : Nat) : Int) = x by omega]
theorem pI_enc {x : Ix} (h : 0 ≤ x.1 ∧ x.1 ≤ 3) (m : List UInt8) : pI (encI x ++ m) = some (x, m) := by
  obtain ⟨k, u⟩ := x
  simp only at h
  unfold pI encI
  simp only [List.cons_append, List.nil_append]
  rw [bI_nat h.1, pB_enc (by omega) (by omega)]
  simp only [Option.bind_some]
  have e : pB 1 ((if u = true then 1 else 0) :: m) = some (if u = true then 1 else 0, m) := by cases u <;> rfl
  rw [e]
  simp only [Option.bind_some]
  rw [show ((k.toNat : Nat) : Int) = k by omega]
  cases u <;> rfl
theorem pMany_enc {α : Type} {p : List UInt8 → Option (α × List UInt8)} {e : α → List UInt8} : ∀ (l : List α) (m : List UInt8), (∀ a ∈ l, ∀ m, p (e a ++ m) = some (a, m)) → pMany p l.length (l.flatMap e ++ m) = some (l, m)
  | [], m, _ => rfl
  | a :: l, m, h => by
    rw [List.length_cons, List.flatMap_cons, List.append_assoc]
    unfold pMany
    rw [h a (by simp)]
    simp only [Option.bind_some]
    rw [pMany_enc l m (fun b hb => h b (by simp [hb]))]; rfl
theorem decS_enc {s : Sch} (h : rightS s = true) : decS (encS s) = some s := by
  have h1 := name_len (name_of h)
  have h3 := len3 h
  obtain ⟨n, c, x⟩ := s
  have hc := col_of h
  have hx := idx_of h
  simp only at h1 h3 hc hx
  unfold decS pS encS
  simp only
  rw [pN_enc h1.2]
  simp only [Option.bind_some]
  rw [pB_enc (by omega) (by omega)]
  simp only [Option.bind_some]
  rw [pMany_enc c _ (fun a ha m => pC_enc (hc a ha) m)]
  simp only [Option.bind_some]
  rw [pB_enc (by omega) (by omega)]
  simp only [Option.bind_some]
  have hq := pMany_enc (p := pI) (e := encI) x [] (fun a ha m => pI_enc (by have := hx a ha; omega) m)
  rw [List.append_nil] at hq
  rw [hq]
  simp only [Option.bind_some]
  rw [if_pos ⟨trivial, h⟩]
/-! What is read was written so. -/
theorem pN_inv {m l r : List UInt8} (h : pN m = some (l, r)) : l.length ≤ 8 ∧ m = UInt8.ofNat l.length :: (l ++ r) := by
  match m, h with
  | [], h => cases h
  | n :: t, h =>
    rw [pN_cons] at h
    by_cases g : n.toNat ≤ 8 ∧ n.toNat ≤ t.length
    · rw [if_pos g] at h
      simp only [Option.some.injEq, Prod.mk.injEq] at h
      obtain ⟨rfl, rfl⟩ := h
      have : (t.take n.toNat).length = n.toNat := by rw [List.length_take]; omega
      refine ⟨by omega, ?_⟩
      rw [this, List.take_append_drop, UInt8.ofNat_toNat]
    · rw [if_neg g] at h; cases h
theorem pB_inv {most k : Nat} {m r : List UInt8} (h : pB most m = some (k, r)) : k ≤ most ∧ k < 256 ∧ m = UInt8.ofNat k :: r := by
  match m, h with
  | [], h => cases h
  | b :: t, h =>
    rw [pB_cons] at h
    by_cases g : b.toNat ≤ most
    · rw [if_pos g] at h
      simp only [Option.some.injEq, Prod.mk.injEq] at h
      obtain ⟨rfl, rfl⟩ := h
      exact ⟨g, b.toNat_lt, by rw [UInt8.ofNat_toNat]⟩
    · rw [if_neg g] at h; cases h
theorem bind_inv {α β : Type} {x : Option α} {f : α → Option β} {b : β} (h : x.bind f = some b) : ∃ a, x = some a ∧ f a = some b := by
  cases x with
  | none => cases h
  | some a => exact ⟨a, rfl, h⟩
end Go.Proofs.YtpogdeibkghhaaaDoor

set_option linter.unusedVariables false
set_option linter.unusedSimpArgs false
namespace Go.Proofs.YtpogdeibkghhaaaDoor
open Go Go.RowKit Go.Lib
/-- Where a reader stands: nowhere, if it is bad. -/
def rest (l : List UInt8) (p : Nat) (bad : Bool) : Option (List UInt8) := if bad = true then none else some (l.drop p)
/-- What a reader tells behind a step that reads by p; noth: what it tells if there is nothing. -/
structure Step {α : Type} (l : List UInt8) (p : Nat) (bad : Bool) (f : List UInt8 → Option (α × List UInt8)) (noth : α) (a : α) (p' : Nat) (bad' : Bool) : Prop where
  le : p' ≤ l.length
  eq : match (rest l p bad).bind f with
    | some q => a = q.1 ∧ bad' = false ∧ l.drop p' = q.2
    | none => a = noth ∧ bad' = true
theorem pMany_succ {α : Type} (p : List UInt8 → Option (α × List UInt8)) (n : Nat) (m : List UInt8) : pMany p (n + 1) m = (p m).bind fun a => (pMany p n a.2).bind fun l => some (a.1 :: l.1, l.2) := rfl
theorem pC_eq (m : List UInt8) : pC m = (pN m).bind fun a => (pB 3 a.2).bind fun k => (pB 8 k.2).bind fun x => some ((a.1, (k.1 : Int), (x.1 : Int)), x.2) := rfl
theorem pI_eq (m : List UInt8) : pI m = (pB 3 m).bind fun k => (pB 1 k.2).bind fun x => some (((k.1 : Int), decide ((x.1 : Int) = 1)), x.2) := rfl
theorem rest_ok {α : Type} (l : List UInt8) (p : Nat) (f : List UInt8 → Option α) : (rest l p false).bind f = f (l.drop p) := rfl
theorem rest_bad {α : Type} (l : List UInt8) (p : Nat) (f : List UInt8 → Option α) : (rest l p true).bind f = none := rfl
theorem Step.mkOk {α : Type} {l : List UInt8} {p p' : Nat} {f : List UInt8 → Option (α × List UInt8)} {noth a : α} {bad' : Bool} {q : α × List UInt8} (hle : p' ≤ l.length) (hf : f (l.drop p) = some q) (h : a = q.1 ∧ bad' = false ∧ l.drop p' = q.2) : Step l p false f noth a p' bad' := ⟨hle, by rw [rest_ok, hf]; exact h⟩
theorem Step.mkNo {α : Type} {l : List UInt8} {p p' : Nat} {f : List UInt8 → Option (α × List UInt8)} {noth a : α} {bad' : Bool} (hle : p' ≤ l.length) (hf : f (l.drop p) = none) (h : a = noth ∧ bad' = true) : Step l p false f noth a p' bad' := ⟨hle, by rw [rest_ok, hf]; exact h⟩
theorem Step.mkBad {α : Type} {l : List UInt8} {p p' : Nat} {f : List UInt8 → Option (α × List UInt8)} {noth a : α} {bad' : Bool} (hle : p' ≤ l.length) (h : a = noth ∧ bad' = true) : Step l p true f noth a p' bad' := ⟨hle, by rw [rest_bad]; exact h⟩
theorem rdu_big : ∀ (k v i : Nat) (l : List UInt8), 0 < i → 0 < v → (rdu k v i l).2.2 = 0 → 128 ≤ (rdu k v i l).1
  | 0, v, i, l, _, _, h => by simp [rdu] at h
  | k + 1, v, i, [], _, _, h => by simp [rdu] at h
  | k + 1, v, i, c :: l, hi, hv, h => by
    unfold rdu at h ⊢
    rw [if_neg (by omega)] at h ⊢
    by_cases g : c.toNat < 128
    · rw [if_pos g] at h ⊢
      simp only; omega
    · rw [if_neg g] at h ⊢
      exact rdu_big k _ _ l (by omega) (by omega) h
theorem rdu_cons (c : UInt8) (l : List UInt8) : rdu 9 0 0 (c :: l) = if c.toNat = 128 then (0, 0, 11) else if c.toNat < 128 then (c.toNat, 1, 0) else rdu 8 (c.toNat % 128) 1 l := by
  show (if 0 = 0 ∧ c.toNat = 128 then (0, 0, 11) else if c.toNat < 128 then (0 * 128 + c.toNat, 0 + 1, 0) else rdu 8 (0 * 128 + c.toNat % 128) (0 + 1) l) = _
  simp
/-- ReadBytes of at most eight bytes, from p on. -/
theorem rb8 {l : List UInt8} {p : Nat} (hp : p ≤ l.length) (hl : l.length ≤ 4194304) : ∃ (x : List UInt8) (q e : Int), wire_ReadBytes.impl l (p : Int) 8 = some (x, q, e) ∧ (match pN (l.drop p) with
    | some r => x = r.1 ∧ e = 0 ∧ ∃ k : Nat, q = (k : Int) ∧ k ≤ l.length ∧ l.drop k = r.2
    | none => e ≠ 0) := by
  have hr := ReadUint_in (l := l) (at_ := p) (by omega) hp
  by_cases hlt : p < l.length
  · have hd := drop1' hlt
    rw [hd, rdu_cons] at hr
    rw [hd, pN_cons]
    have hlen : (l.drop (p + 1)).length = l.length - (p + 1) := List.length_drop
    by_cases c1 : (l.getD p default).toNat = 128
    · rw [if_pos c1] at hr
      rw [if_neg (by omega)]
      exact ⟨_, _, _, rb_err hr (by decide), by simp only; decide⟩
    rw [if_neg c1] at hr
    by_cases c2 : (l.getD p default).toNat < 128
    · rw [if_pos c2] at hr
      have hr' : wire_ReadUint.impl l (p : Int) = some (((l.getD p default).toNat : Int), ((p + 1 : Nat) : Int), 0) := by rw [hr]; rfl
      by_cases g : (l.getD p default).toNat ≤ 8
      · by_cases g2 : (l.getD p default).toNat ≤ (l.drop (p + 1)).length
        · rw [if_pos ⟨g, g2⟩]
          refine ⟨_, _, _, rb_ok hr' (by omega) (by omega) (by omega) (by omega), rfl, rfl, _, rfl, by omega, ?_⟩
          rw [List.drop_drop]
        · rw [if_neg (fun h => g2 h.2)]
          exact ⟨_, _, _, rb_short hr' (by omega) (by omega) (by omega) (by omega), by simp only; decide⟩
      · rw [if_neg (fun h => g h.1)]
        exact ⟨_, _, _, rb_long hr' (by decide) (by omega), by simp only; decide⟩
    · rw [if_neg c2] at hr
      rw [if_neg (by omega)]
      by_cases h0 : (rdu 8 ((l.getD p default).toNat % 128) 1 (l.drop (p + 1))).2.2 = 0
      · have hb := rdu_big 8 ((l.getD p default).toNat % 128) 1 (l.drop (p + 1)) (by omega) (by have := (l.getD p default).toNat_lt; omega) h0
        unfold rdTo at hr
        rw [if_pos h0, h0] at hr
        exact ⟨_, _, _, rb_long hr (by decide) (by omega), by simp only; decide⟩
      · unfold rdTo at hr
        rw [if_neg h0] at hr
        exact ⟨_, _, _, rb_err hr (by omega), by simp only; omega⟩
  · rw [List.drop_of_length_le (by omega)] at hr ⊢
    exact ⟨_, _, _, rb_err hr (by decide), by show (10 : Int) ≠ 0; decide⟩
theorem rname_is {l : List UInt8} {p : Nat} {bad : Bool} (hp : p ≤ l.length) (hl : l.length ≤ 4194304) : ∃ (a : List UInt8) (p' : Nat) (bad' : Bool), schema_reader_name.impl (l, (p : Int), bad) = some (a, (l, (p' : Int), bad')) ∧ Step l p bad pN [] a p' bad' := by
  obtain ⟨x, q, e, h1, h2⟩ := rb8 hp hl
  unfold schema_reader_name.impl schema_reader_name.k1
  simp only
  rw [h1]
  simp only [Option.bind_some]
  cases bad with
  | true => exact ⟨[], p, true, rfl, Step.mkBad hp ⟨rfl, rfl⟩⟩
  | false =>
    simp only [Bool.false_eq_true, if_false]
    cases hn : pN (l.drop p) with
    | none =>
      rw [hn] at h2
      rw [ite_nf h2]
      exact ⟨[], p, true, rfl, Step.mkNo hp hn ⟨rfl, rfl⟩⟩
    | some r =>
      rw [hn] at h2
      obtain ⟨rfl, rfl, k, rfl, hk, hd⟩ := h2
      rw [ite_nt rfl]
      exact ⟨r.1, k, false, rfl, Step.mkOk hk hn ⟨rfl, rfl, hd⟩⟩
theorem rbyte_is {l : List UInt8} {p most : Nat} {bad : Bool} (hp : p ≤ l.length) (hl : l.length ≤ 4194304) (hm : most < 256) : ∃ (a p' : Nat) (bad' : Bool), schema_reader_byte.impl (l, (p : Int), bad) (most : Int) = some ((a : Int), (l, (p' : Int), bad')) ∧ Step l p bad (pB most) 0 a p' bad' := by
  have w1 : IntKind.i64.wrap ((p : Int) + 1) = ((p + 1 : Nat) : Int) := by rw [i64_id (by omega)]; omega
  have w2 : IntKind.i64.wrap (((p + 1 : Nat) : Int) - 1) = (p : Int) := by rw [i64_id (by omega)]; omega
  unfold schema_reader_byte.impl schema_reader_byte.k1
  simp only [w1, w2, Int.toNat_natCast]
  cases bad with
  | true => exact ⟨0, p, true, rfl, Step.mkBad hp ⟨rfl, rfl⟩⟩
  | false =>
    simp only [Bool.false_eq_true, if_false, if_true]
    by_cases hlt : p < l.length
    · have hb := (l.getD p default).toNat_lt
      have w3 : IntKind.i64.wrap ((l.getD p default).toNat : Int) = ((l.getD p default).toNat : Int) := i64_id (by omega)
      rw [ite_df (by omega), chk_pos (by omega)]
      simp only [w3]
      by_cases g : (l.getD p default).toNat ≤ most
      · rw [ite_df (by omega), chk_pos (by omega)]
        exact ⟨_, _, _, rfl, Step.mkOk (by omega) (by rw [drop1' hlt, pB_cons, if_pos g]) ⟨rfl, rfl, rfl⟩⟩
      · rw [ite_dt (by omega)]
        exact ⟨0, p, true, rfl, Step.mkNo hp (by rw [drop1' hlt, pB_cons, if_neg g]) ⟨rfl, rfl⟩⟩
    · rw [ite_dt (by omega)]
      exact ⟨0, p, true, rfl, Step.mkNo hp (by rw [List.drop_of_length_le (by omega)]; rfl) ⟨rfl, rfl⟩⟩
theorem Step.ok {α : Type} {l : List UInt8} {p p' : Nat} {f : List UInt8 → Option (α × List UInt8)} {noth a : α} {bad' : Bool} {q : α × List UInt8} (h : Step l p false f noth a p' bad') (hf : f (l.drop p) = some q) : a = q.1 ∧ bad' = false ∧ l.drop p' = q.2 := by
  have := h.eq
  unfold rest at this
  simp only [Bool.false_eq_true, if_false, Option.bind_some, hf] at this
  exact this
theorem Step.no {α : Type} {l : List UInt8} {p p' : Nat} {f : List UInt8 → Option (α × List UInt8)} {noth a : α} {bad' : Bool} (h : Step l p false f noth a p' bad') (hf : f (l.drop p) = none) : a = noth ∧ bad' = true := by
  have := h.eq
  unfold rest at this
  simp only [Bool.false_eq_true, if_false, Option.bind_some, hf] at this
  exact this
theorem Step.bad {α : Type} {l : List UInt8} {p p' : Nat} {f : List UInt8 → Option (α × List UInt8)} {noth a : α} {bad' : Bool} (h : Step l p true f noth a p' bad') : a = noth ∧ bad' = true := h.eq
/-- Behind a loop that reads so many: all of them, or bad. -/
def Many {α : Type} (l : List UInt8) (p : Nat) (bad : Bool) (f : List UInt8 → Option (α × List UInt8)) (n : Nat) (acc acc' : List α) (p' : Nat) (bad' : Bool) : Prop :=
  p' ≤ l.length ∧ match (rest l p bad).bind (pMany f n) with
    | some q => acc' = acc ++ q.1 ∧ bad' = false ∧ l.drop p' = q.2
    | none => bad' = true
theorem cols_loop {l : List UInt8} (hl : l.length ≤ 4194304) {k : Nat} (hk : k ≤ 3) {R : List UInt8 × Int × Bool} : ∀ (n i p : Nat) (bad : Bool) (acc : List Col), i + n = k → acc.length ≤ i → p ≤ l.length →
    ∃ (p' : Nat) (bad' : Bool) (acc' : List Col), loop (schema_Decode.st2 ((k : Int), R) l) ((p : Int), bad, acc, (i : Int)) = some ((p' : Int), bad', acc') ∧ Many l p bad pC n acc acc' p' bad'
  | 0, i, p, bad, acc, hi, ha, hp => by
    refine ⟨p, bad, acc, loop_last ?_, hp, ?_⟩
    · unfold schema_Decode.st2
      rw [ite_df (by simp only; omega)]
    · cases bad with
      | true => rfl
      | false => exact ⟨by simp, rfl, rfl⟩
  | n + 1, i, p, bad, acc, hi, ha, hp => by
    have w : IntKind.i64.wrap ((i : Int) + 1) = ((i + 1 : Nat) : Int) := by rw [i64_id (by omega)]; omega
    obtain ⟨a1, p1, b1, e1, s1⟩ := rname_is (bad := bad) hp hl
    obtain ⟨a2, p2, b2, e2, s2⟩ := rbyte_is (most := 3) (bad := b1) s1.le hl (by omega)
    obtain ⟨a3, p3, b3, e3, s3⟩ := rbyte_is (most := 8) (bad := b2) s2.le hl (by omega)
    have st : schema_Decode.st2 ((k : Int), R) l ((p : Int), bad, acc, (i : Int)) = some (.inl ((p3 : Int), b3, acc ++ [(a1, (a2 : Int), (a3 : Int))], ((i + 1 : Nat) : Int))) := by
      unfold schema_Decode.st2
      simp only [e1, Option.bind_some]
      erw [e2]
      simp only [Option.bind_some]
      erw [e3]
      simp only [Option.bind_some, w]
      rw [ite_dt (by omega), chk_pos (by simp; omega)]
    obtain ⟨p', b', acc', h1, h2, h3⟩ := cols_loop hl hk n (i + 1) p3 b3 (acc ++ [(a1, (a2 : Int), (a3 : Int))]) (by omega) (by simp; omega) s3.le
    refine ⟨p', b', acc', by rw [loop_more st]; exact h1, h2, ?_⟩
    cases bad with
    | true =>
      obtain ⟨_, rfl⟩ := s1.bad
      obtain ⟨_, rfl⟩ := s2.bad
      obtain ⟨_, rfl⟩ := s3.bad
      exact h3
    | false =>
      rw [rest_ok, pMany_succ, pC_eq]
      cases f1 : pN (l.drop p) with
      | none =>
        obtain ⟨_, rfl⟩ := s1.no f1
        obtain ⟨_, rfl⟩ := s2.bad
        obtain ⟨_, rfl⟩ := s3.bad
        exact h3
      | some q1 =>
        obtain ⟨rfl, rfl, d1⟩ := s1.ok f1
        simp only [Option.bind_some]
        rw [← d1]
        cases f2 : pB 3 (l.drop p1) with
        | none =>
          obtain ⟨_, rfl⟩ := s2.no f2
          obtain ⟨_, rfl⟩ := s3.bad
          exact h3
        | some q2 =>
          obtain ⟨rfl, rfl, d2⟩ := s2.ok f2
          simp only [Option.bind_some]
          rw [← d2]
          cases f3 : pB 8 (l.drop p2) with
          | none =>
            obtain ⟨_, rfl⟩ := s3.no f3
            exact h3
          | some q3 =>
            obtain ⟨rfl, rfl, d3⟩ := s3.ok f3
            simp only [Option.bind_some]
            rw [← d3]
            have h3' := h3
            rw [rest_ok] at h3'
            cases f4 : pMany pC n (l.drop p3) with
            | none => rw [f4] at h3'; exact h3'
            | some q4 =>
              rw [f4] at h3'
              obtain ⟨rfl, rfl, d4⟩ := h3'
              exact ⟨by simp, rfl, d4⟩
theorem idx_loop {l : List UInt8} (hl : l.length ≤ 4194304) {k : Nat} (hk : k ≤ 3) {R : List UInt8 × Int × Bool} : ∀ (n i p : Nat) (bad : Bool) (acc : List Ix), i + n = k → acc.length ≤ i → p ≤ l.length →
    ∃ (p' : Nat) (bad' : Bool) (acc' : List Ix), loop (schema_Decode.st1 ((k : Int), R) l) ((p : Int), bad, acc, (i : Int)) = some ((p' : Int), bad', acc') ∧ Many l p bad pI n acc acc' p' bad'
  | 0, i, p, bad, acc, hi, ha, hp => by
    refine ⟨p, bad, acc, loop_last ?_, hp, ?_⟩
    · unfold schema_Decode.st1
      rw [ite_df (by simp only; omega)]
    · cases bad with
      | true => rfl
      | false => exact ⟨by simp, rfl, rfl⟩
  | n + 1, i, p, bad, acc, hi, ha, hp => by
    have w : IntKind.i64.wrap ((i : Int) + 1) = ((i + 1 : Nat) : Int) := by rw [i64_id (by omega)]; omega
    obtain ⟨a2, p2, b2, e2, s2⟩ := rbyte_is (most := 3) (bad := bad) hp hl (by omega)
    obtain ⟨a3, p3, b3, e3, s3⟩ := rbyte_is (most := 1) (bad := b2) s2.le hl (by omega)
    have st : schema_Decode.st1 ((k : Int), R) l ((p : Int), bad, acc, (i : Int)) = some (.inl ((p3 : Int), b3, acc ++ [((a2 : Int), decide ((a3 : Int) = 1))], ((i + 1 : Nat) : Int))) := by
      unfold schema_Decode.st1
      erw [e2]
      simp only [Option.bind_some]
      erw [e3]
      simp only [Option.bind_some, w]
      rw [ite_dt (by omega), chk_pos (by simp; omega)]
    obtain ⟨p', b', acc', h1, h2, h3⟩ := idx_loop hl hk n (i + 1) p3 b3 (acc ++ [((a2 : Int), decide ((a3 : Int) = 1))]) (by omega) (by simp; omega) s3.le
    refine ⟨p', b', acc', by rw [loop_more st]; exact h1, h2, ?_⟩
    cases bad with
    | true =>
      obtain ⟨_, rfl⟩ := s2.bad
      obtain ⟨_, rfl⟩ := s3.bad
      exact h3
    | false =>
      rw [rest_ok, pMany_succ, pI_eq]
      cases f2 : pB 3 (l.drop p) with
      | none =>
        obtain ⟨_, rfl⟩ := s2.no f2
        obtain ⟨_, rfl⟩ := s3.bad
        exact h3
      | some q2 =>
        obtain ⟨rfl, rfl, d2⟩ := s2.ok f2
        simp only [Option.bind_some]
        rw [← d2]
        cases f3 : pB 1 (l.drop p2) with
        | none =>
          obtain ⟨_, rfl⟩ := s3.no f3
          exact h3
        | some q3 =>
          obtain ⟨rfl, rfl, d3⟩ := s3.ok f3
          simp only [Option.bind_some]
          rw [← d3]
          have h3' := h3
          rw [rest_ok] at h3'
          cases f4 : pMany pI n (l.drop p3) with
          | none => rw [f4] at h3'; exact h3'
          | some q4 =>
            rw [f4] at h3'
            obtain ⟨rfl, rfl, d4⟩ := h3'
            exact ⟨by simp, rfl, d4⟩
theorem pN_len {m : List UInt8} {q : List UInt8 × List UInt8} (h : pN m = some q) : q.1.length ≤ 8 := (pN_inv (l := q.1) (r := q.2) h).1
theorem pC_len {m : List UInt8} {q : Col × List UInt8} (h : pC m = some q) : q.1.1.length ≤ 8 := by
  unfold pC at h
  obtain ⟨a, h1, h⟩ := bind_inv h
  obtain ⟨k, h2, h⟩ := bind_inv h
  obtain ⟨x, h3, h⟩ := bind_inv h
  simp only [Option.some.injEq] at h
  subst h
  exact pN_len h1
theorem pMany_all {α : Type} {p : List UInt8 → Option (α × List UInt8)} {P : α → Prop} (hp : ∀ m q, p m = some q → P q.1) : ∀ (n : Nat) (m : List UInt8) (q : List α × List UInt8), pMany p n m = some q → ∀ a ∈ q.1, P a
  | 0, m, q, h => by
    unfold pMany at h
    cases h
    intro a ha; cases ha
  | n + 1, m, q, h => by
    unfold pMany at h
    obtain ⟨a, h1, h⟩ := bind_inv h
    obtain ⟨r, h2, h⟩ := bind_inv h
    cases h
    intro b hb
    rcases List.mem_cons.1 hb with rfl | hb
    · exact hp _ _ h1
    · exact pMany_all hp n _ _ h2 b hb
theorem Decode_is {b : List UInt8} (hb : b.length ≤ 4194304) : schema_Decode.impl b = some (match decS b with | some s => (s, 0) | none => (([], [], []), 11)) := by
  obtain ⟨n, p1, b1, e1, s1⟩ := rname_is (bad := false) (Nat.zero_le b.length) hb
  obtain ⟨k, p2, b2, e2, s2⟩ := rbyte_is (most := 3) (bad := b1) s1.le hb (by omega)
  have hk3 : k ≤ 3 := by
    have := s2.eq
    cases f : (rest b p1 b1).bind (pB 3) with
    | none => rw [f] at this; omega
    | some q =>
      rw [f] at this
      obtain ⟨m, hm, hq⟩ := bind_inv f
      have := (pB_inv (k := q.1) (r := q.2) hq).1
      omega
  obtain ⟨p3, b3, cs, e3, l3, s3⟩ := cols_loop hb hk3 (R := (b, (p2 : Int), b2)) k 0 p2 b2 [] (by omega) (by simp) s2.le
  obtain ⟨j, p4, b4, e4, s4⟩ := rbyte_is (most := 3) (bad := b3) l3 hb (by omega)
  have hj3 : j ≤ 3 := by
    have := s4.eq
    cases f : (rest b p3 b3).bind (pB 3) with
    | none => rw [f] at this; omega
    | some q =>
      rw [f] at this
      obtain ⟨m, hm, hq⟩ := bind_inv f
      have := (pB_inv (k := q.1) (r := q.2) hq).1
      omega
  obtain ⟨p5, b5, xs, e5, l5, s5⟩ := idx_loop hb hj3 (R := (b, (p4 : Int), b4)) j 0 p4 b4 [] (by omega) (by simp) s4.le
  have allBad : b4 = true → b5 = true := fun h => by subst h; rw [rest_bad] at s5; exact s5
  have main : (b5 = true ∧ pS b = none) ∨ ∃ r, pS b = some ((n, cs, xs), r) ∧ b5 = false ∧ b.drop p5 = r ∧ NamesS (n, cs, xs) := by
    unfold pS
    cases f1 : pN b with
    | none =>
      obtain ⟨_, rfl⟩ := s1.no f1
      obtain ⟨_, rfl⟩ := s2.bad
      rw [rest_bad] at s3
      have : b3 = true := s3
      subst this
      obtain ⟨_, rfl⟩ := s4.bad
      exact .inl ⟨allBad rfl, rfl⟩
    | some q1 =>
      obtain ⟨rfl, rfl, d1⟩ := s1.ok f1
      have hnl := pN_len f1
      simp only [Option.bind_some]
      rw [← d1]
      cases f2 : pB 3 (b.drop p1) with
      | none =>
        obtain ⟨_, rfl⟩ := s2.no f2
        rw [rest_bad] at s3
        have : b3 = true := s3
        subst this
        obtain ⟨_, rfl⟩ := s4.bad
        exact .inl ⟨allBad rfl, rfl⟩
      | some q2 =>
        obtain ⟨rfl, rfl, d2⟩ := s2.ok f2
        simp only [Option.bind_some]
        rw [← d2]
        rw [rest_ok] at s3
        cases f3 : pMany pC q2.1 (b.drop p2) with
        | none =>
          rw [f3] at s3
          have : b3 = true := s3
          subst this
          obtain ⟨_, rfl⟩ := s4.bad
          exact .inl ⟨allBad rfl, rfl⟩
        | some q3 =>
          rw [f3] at s3
          obtain ⟨rfl, rfl, d3⟩ := s3
          have hcl := pMany_all (P := fun c : Col => c.1.length ≤ 8) (fun m q h => pC_len h) _ _ _ f3
          simp only [Option.bind_some]
          rw [← d3]
          cases f4 : pB 3 (b.drop p3) with
          | none =>
            obtain ⟨_, rfl⟩ := s4.no f4
            exact .inl ⟨allBad rfl, rfl⟩
          | some q4 =>
            obtain ⟨rfl, rfl, d4⟩ := s4.ok f4
            simp only [Option.bind_some]
            rw [← d4]
            rw [rest_ok] at s5
            cases f5 : pMany pI q4.1 (b.drop p4) with
            | none =>
              rw [f5] at s5
              exact .inl ⟨s5, rfl⟩
            | some q5 =>
              rw [f5] at s5
              obtain ⟨rfl, rfl, d5⟩ := s5
              refine .inr ⟨q5.2, by simp, rfl, d5, ⟨by simp only; omega, fun c hc => ?_⟩⟩
              have := hcl c (by simpa using hc)
              omega
  unfold schema_Decode.impl
  erw [e1]
  simp only [Option.bind_some]
  erw [e2]
  simp only [Option.bind_some]
  erw [e3]
  simp only [Option.bind_some, schema_Decode.k1]
  erw [e4]
  simp only [Option.bind_some]
  erw [e5]
  simp only [Option.bind_some, schema_Decode.k2]
  have k3t : ∀ u v w, schema_Decode.k3 u v w true = some (([], [], []), 11) := fun _ _ _ => rfl
  unfold decS
  rcases main with ⟨rfl, hS⟩ | ⟨r, hS, rfl, hd, hn⟩
  · rw [hS, if_pos rfl, k3t]; rfl
  · rw [hS]
    simp only [Option.bind_some, Bool.false_eq_true, if_false]
    have hd' : r = [] ↔ (p5 : Int) = (b.length : Int) := by
      rw [← hd, List.drop_eq_nil_iff]; omega
    by_cases g : r = []
    · rw [ite_dt (hd'.1 g), SRight_is hn]
      simp only [Option.bind_some]
      by_cases hr : rightS (n, cs, xs) = true
      · rw [if_pos hr, if_pos ⟨g, hr⟩]; rfl
      · rw [if_neg hr, if_neg (fun h => hr h.2)]; rfl
    · rw [ite_df (fun h => g (hd'.2 h)), if_neg (fun h => g h.1), k3t]
end Go.Proofs.YtpogdeibkghhaaaDoor
