/- The document's Decode tells the runes of a valid text. -/
import Derived.Test.YtdojooblfemmnaaDoorRunes
import Derived.Test.YtdojooblfemmnaaDoorRef
set_option linter.unusedVariables false
set_option linter.unusedSimpArgs false
namespace Go.Proofs.YtdojooblfemmnaaDoor
open Go Go.RowKit Go.Lib
theorem b_and (m : Int) (f : Nat → Nat) (h : ∀ y : Fin 256, bitsOf .and .u8 ((y.val : Nat) : Int) m = ((f y.val : Nat) : Int)) {b : Nat} (hb : b < 256) : bitsOf .and .u8 (b : Int) m = ((f b : Nat) : Int) := h ⟨b, hb⟩
theorem and31 {b : Nat} (hb : b < 256) : bitsOf .and .u8 (b : Int) 31 = ((b % 32 : Nat) : Int) := b_and 31 (· % 32) (by decide +kernel) hb
theorem and15 {b : Nat} (hb : b < 256) : bitsOf .and .u8 (b : Int) 15 = ((b % 16 : Nat) : Int) := b_and 15 (· % 16) (by decide +kernel) hb
theorem and7 {b : Nat} (hb : b < 256) : bitsOf .and .u8 (b : Int) 7 = ((b % 8 : Nat) : Int) := b_and 7 (· % 8) (by decide +kernel) hb
theorem and63 {b : Nat} (hb : b < 256) : bitsOf .and .u8 (b : Int) 63 = ((b % 64 : Nat) : Int) := b_and 63 (· % 64) (by decide +kernel) hb
theorem and192 {b : Nat} (hb : b < 256) : bitsOf .and .u8 (b : Int) 192 = ((b / 64 * 64 : Nat) : Int) := b_and 192 (· / 64 * 64) (by decide +kernel) hb
theorem i32_id {n : Int} (h : -2147483648 ≤ n ∧ n ≤ 2147483647) : IntKind.i32.wrap n = n := by rw [IntKind.wrap_i32]; omega
theorem or6 {v c : Nat} (hv : v < 33554432) (hc : c < 64) : bitsOf .or .i32 (shlI .i32 (v : Int) 6) (c : Int) = ((v * 64 + c : Nat) : Int) := by
  have h1 : shlI .i32 (v : Int) 6 = ((v * 64 : Nat) : Int) := by
    unfold shlI
    rw [show min (6 : Int).toNat IntKind.i32.bits = 6 from rfl, i32_id (by omega)]; omega
  have h2 : (v <<< 6 ||| c) = v * 64 + c := by rw [← Nat.shiftLeft_add_eq_or_of_lt (by omega), Nat.shiftLeft_eq]
  rw [h1]
  show IntKind.i32.wrap ((BitVec.ofInt 32 ((v * 64 : Nat) : Int) ||| BitVec.ofInt 32 (c : Int)).toNat : Nat) = _
  rw [BitVec.ofInt_natCast, BitVec.ofInt_natCast, BitVec.toNat_or, BitVec.toNat_ofNat, BitVec.toNat_ofNat, Nat.mod_eq_of_lt (by omega), Nat.mod_eq_of_lt (by omega), show v * 64 = v <<< 6 by rw [Nat.shiftLeft_eq], h2, i32_id (by omega), Nat.shiftLeft_eq]
section
variable {l : List UInt8} {acc : List Int} {i : Nat}
abbrev byteD (l : List UInt8) (k : Nat) : Nat := (l.getD k 0).toNat
theorem byteD_lt (l : List UInt8) (k : Nat) : byteD l k < 256 := (l.getD k 0).toNat_lt
theorem getD_at (l : List UInt8) (i k : Nat) : ((l.getD (i + k) default).toNat : Nat) = byteD (l.drop i) k := by
  unfold byteD
  rw [List.getD_eq_getElem?_getD, List.getD_eq_getElem?_getD, List.getElem?_drop]; rfl
/-- One more byte. -/
theorem ref_cont (hl : l.length ≤ 4194304) {n k c : Nat} {c0 : Int} (hk : k < n) (hn : n ≤ 4) (hi : i + k < l.length) (hc : c < 33554432) :
    ref2_Decode.st2 ((n : Int), c0) (acc, (i : Int)) l ((c : Int), (k : Int)) = if byteD (l.drop i) k / 64 = 2 then some (.inl (((c * 64 + byteD (l.drop i) k % 64 : Nat) : Int), ((k + 1 : Nat) : Int))) else some (.inr (.inl ([], false))) := by
  have w1 : IntKind.i64.wrap ((i : Int) + (k : Int)) = ((i + k : Nat) : Int) := by rw [i64_id (by omega)]; omega
  have w2 : IntKind.i64.wrap ((k : Int) + 1) = ((k + 1 : Nat) : Int) := by rw [i64_id (by omega)]; omega
  have hb := byteD_lt (l.drop i) k
  unfold ref2_Decode.st2
  simp only [w1, w2, Int.toNat_natCast, getD_at, and192 hb, and63 hb]
  rw [ite_dt (by omega), chk_pos (by omega)]
  by_cases h : byteD (l.drop i) k / 64 = 2
  · rw [if_pos h, ite_nt (by omega), chk_pos (by omega), i32_id (by omega), or6 hc (by omega)]
  · rw [if_neg h, ite_nf (by omega)]
theorem ref_done {n k c : Nat} {c0 : Int} (hk : ¬ k < n) : ref2_Decode.st2 ((n : Int), c0) (acc, (i : Int)) l ((c : Int), (k : Int)) = some (.inr (.inr (c : Int))) := by
  unfold ref2_Decode.st2
  rw [ite_df (by simp only; omega)]
/-- Is a rune of n bytes none? -/
def badR (n c : Nat) : Bool := (n == 3 && decide (c < 2048)) || (n == 4 && (decide (c < 65536) || decide (1114111 < c))) || (decide (55296 ≤ c) && decide (c < 57344))
theorem ref_end {n c : Nat} {c0 : Int} (hn : 1 ≤ n ∧ n ≤ 4) (hi : i ≤ 4194304) (ha : acc.length ≤ 4194304) : ref2_Decode.k3 ((n : Int), c0) (acc, (i : Int)) (c : Int) = if badR n c = true then some (.inr (.inl ([], false))) else some (.inl (acc ++ [(c : Int)], ((i + n : Nat) : Int))) := by
  have w : IntKind.i64.wrap ((i : Int) + (n : Int)) = ((i + n : Nat) : Int) := by rw [i64_id (by omega)]; omega
  have k4 : ∀ b : Bool, ref2_Decode.k4 (acc, (i : Int)) (c : Int) ((n : Int), c0) b = if b = true then some (.inr (.inl ([], false))) else some (.inl (acc ++ [(c : Int)], ((i + n : Nat) : Int))) := by
    intro b
    unfold ref2_Decode.k4
    rw [w, chk_pos (by simp only [List.length_singleton]; omega)]
  unfold ref2_Decode.k3
  simp only [k4]
  have e : badR n c = true ↔ ((n = 3 ∧ c < 2048) ∨ (n = 4 ∧ (c < 65536 ∨ 1114111 < c)) ∨ (55296 ≤ c ∧ c < 57344)) := by
    simp [badR, or_assoc]
  by_cases hb : badR n c = true
  · rw [if_pos hb]
    have := e.1 hb
    repeat' split
    all_goals first | rfl | (exfalso; simp_all; omega) | (exfalso; simp_all; done)
  · rw [if_neg hb]
    have := fun h => hb (e.2 h)
    repeat' split
    all_goals first | rfl | (exfalso; simp_all; omega) | (exfalso; simp_all; done)
/-- A rune of n bytes whose first is known: what the document's Decode makes of it. -/
def refR (m : List UInt8) (n c0 : Nat) : Option (Nat × Nat) :=
  if m.length < n then none
  else if n = 1 then (if badR 1 c0 then none else some (c0, 1))
  else if ¬ byteD m 1 / 64 = 2 then none
  else if n = 2 then (if badR 2 (c0 * 64 + byteD m 1 % 64) then none else some (c0 * 64 + byteD m 1 % 64, 2))
  else if ¬ byteD m 2 / 64 = 2 then none
  else if n = 3 then (if badR 3 ((c0 * 64 + byteD m 1 % 64) * 64 + byteD m 2 % 64) then none else some ((c0 * 64 + byteD m 1 % 64) * 64 + byteD m 2 % 64, 3))
  else if ¬ byteD m 3 / 64 = 2 then none
  else (if badR 4 (((c0 * 64 + byteD m 1 % 64) * 64 + byteD m 2 % 64) * 64 + byteD m 3 % 64) then none else some (((c0 * 64 + byteD m 1 % 64) * 64 + byteD m 2 % 64) * 64 + byteD m 3 % 64, 4))
def refOut (acc : List Int) (i : Nat) : Option (Nat × Nat) → Option ((List Int × Int) ⊕ ((List Int × Bool) ⊕ (List Int)))
  | none => some (.inr (.inl ([], false)))
  | some (c, n) => some (.inl (acc ++ [(c : Int)], ((i + n : Nat) : Int)))
set_option maxRecDepth 100000 in
theorem ref_k2 (hl : l.length ≤ 4194304) {n c0 : Nat} (hn : 1 ≤ n ∧ n ≤ 4) (hi : i < l.length) (hc : c0 < 128) (ha : acc.length ≤ 4194304) :
    ref2_Decode.k2 l (acc, (i : Int)) ((n : Int), (c0 : Int)) = refOut acc i (refR (l.drop i) n c0) := by
  have w : IntKind.i64.wrap ((i : Int) + (n : Int)) = ((i + n : Nat) : Int) := by rw [i64_id (by omega)]; omega
  have hlen : (l.drop i).length = l.length - i := List.length_drop
  have he := fun c => ref_end (acc := acc) (i := i) (n := n) (c := c) (c0 := (c0 : Int)) hn (by omega) ha
  unfold ref2_Decode.k2
  simp only [w]
  by_cases hs : l.length < i + n
  · rw [ite_dt (by omega)]
    unfold refR
    rw [if_pos (by omega)]; rfl
  rw [ite_df (by omega)]
  unfold refR
  rw [if_neg (by omega)]
  have one : ((c0 : Int), (1 : Int)) = ((c0 : Int), ((1 : Nat) : Int)) := rfl
  rw [one]
  by_cases h1 : n = 1
  · subst h1
    rw [loop_last (ref_done (by decide)), if_pos rfl]
    simp only [Option.bind_some]
    rw [he]; generalize badR _ _ = q; cases q <;> rfl
  rw [if_neg h1]
  have b1 := byteD_lt (l.drop i) 1
  have b2 := byteD_lt (l.drop i) 2
  have b3 := byteD_lt (l.drop i) 3
  have c1 := ref_cont (acc := acc) (i := i) (c0 := (c0 : Int)) (k := 1) (c := c0) (n := n) hl (by omega) (by omega) (by omega) (by omega)
  by_cases g1 : byteD (l.drop i) 1 / 64 = 2
  · rw [if_pos g1] at c1
    rw [if_neg (by simpa using g1), loop_more c1]
    by_cases h2 : n = 2
    · subst h2
      rw [loop_last (ref_done (by decide)), if_pos rfl]
      simp only [Option.bind_some]
      rw [he]; generalize badR _ _ = q; cases q <;> rfl
    rw [if_neg h2]
    have c2 := ref_cont (acc := acc) (i := i) (c0 := (c0 : Int)) (k := 2) (c := c0 * 64 + byteD (l.drop i) 1 % 64) (n := n) hl (by omega) (by omega) (by omega) (by omega)
    by_cases g2 : byteD (l.drop i) 2 / 64 = 2
    · rw [if_pos g2] at c2
      rw [if_neg (by simpa using g2), loop_more c2]
      by_cases h3 : n = 3
      · subst h3
        rw [loop_last (ref_done (by decide)), if_pos rfl]
        simp only [Option.bind_some]
        rw [he]; generalize badR _ _ = q; cases q <;> rfl
      rw [if_neg h3]
      have h4 : n = 4 := by omega
      subst h4
      have c3 := ref_cont (acc := acc) (i := i) (c0 := (c0 : Int)) (k := 3) (c := (c0 * 64 + byteD (l.drop i) 1 % 64) * 64 + byteD (l.drop i) 2 % 64) (n := 4) hl (by omega) (by omega) (by omega) (by omega)
      by_cases g3 : byteD (l.drop i) 3 / 64 = 2
      · rw [if_pos g3] at c3
        rw [if_neg (by simpa using g3), loop_more c3, loop_last (ref_done (by decide))]
        simp only [Option.bind_some]
        rw [he]; generalize badR _ _ = q; cases q <;> rfl
      · rw [if_neg g3] at c3
        rw [if_pos g3, loop_last c3]; rfl
    · rw [if_neg g2] at c2
      rw [if_pos g2, loop_last c2]; rfl
  · rw [if_neg g1] at c1
    rw [if_pos g1, loop_last c1]; rfl
/-- The whole step. -/
def refS (m : List UInt8) : Option (Nat × Nat) :=
  if byteD m 0 < 128 then refR m 1 (byteD m 0)
  else if 194 ≤ byteD m 0 ∧ byteD m 0 < 224 then refR m 2 (byteD m 0 % 32)
  else if 224 ≤ byteD m 0 ∧ byteD m 0 < 240 then refR m 3 (byteD m 0 % 16)
  else if 240 ≤ byteD m 0 ∧ byteD m 0 < 245 then refR m 4 (byteD m 0 % 8)
  else none
theorem ref_step (hl : l.length ≤ 4194304) (hi : i < l.length) (ha : acc.length ≤ 4194304) : ref2_Decode.st1 l (acc, (i : Int)) = refOut acc i (refS (l.drop i)) := by
  have hb := byteD_lt (l.drop i) 0
  have g0 : ((l.getD ((i : Int)).toNat default).toNat : Nat) = byteD (l.drop i) 0 := getD_at l i 0
  have k2 := fun n c0 h1 h2 => ref_k2 (acc := acc) (i := i) (n := n) (c0 := c0) hl h1 hi h2 ha
  unfold ref2_Decode.st1
  simp only [g0]
  rw [ite_dt (by omega), chk_pos (by omega)]
  unfold refS
  by_cases h1 : byteD (l.drop i) 0 < 128
  · rw [ite_dt (by omega), if_pos h1, i32_id (by omega)]
    exact k2 1 _ (by decide) h1
  rw [ite_df (by omega), if_neg h1]
  have e7 : ref2_Decode.k7 l (acc, (i : Int)) false = refOut acc i none := rfl
  have e7t : ref2_Decode.k7 l (acc, (i : Int)) true = refOut acc i (refR (l.drop i) 4 (byteD (l.drop i) 0 % 8)) := by
    unfold ref2_Decode.k7
    simp only [g0, and7 hb]
    rw [if_pos trivial, i32_id (by omega)]
    exact k2 4 _ (by decide) (by omega)
  have e6t : ref2_Decode.k6 l (acc, (i : Int)) true = refOut acc i (refR (l.drop i) 3 (byteD (l.drop i) 0 % 16)) := by
    unfold ref2_Decode.k6
    simp only [g0, and15 hb]
    rw [if_pos trivial, i32_id (by omega)]
    exact k2 3 _ (by decide) (by omega)
  have e5t : ref2_Decode.k5 l (acc, (i : Int)) true = refOut acc i (refR (l.drop i) 2 (byteD (l.drop i) 0 % 32)) := by
    unfold ref2_Decode.k5
    simp only [g0, and31 hb]
    rw [if_pos trivial, i32_id (by omega)]
    exact k2 2 _ (by decide) (by omega)
  have e6f : ref2_Decode.k6 l (acc, (i : Int)) false = refOut acc i (if 240 ≤ byteD (l.drop i) 0 ∧ byteD (l.drop i) 0 < 245 then refR (l.drop i) 4 (byteD (l.drop i) 0 % 8) else none) := by
    unfold ref2_Decode.k6
    simp only [g0]
    rw [if_neg (by simp)]
    by_cases h : 240 ≤ byteD (l.drop i) 0
    · rw [ite_dt (by omega)]
      by_cases h' : byteD (l.drop i) 0 < 245
      · rw [show decide (((byteD (l.drop i) 0 : Nat) : Int) < 245) = true by simp; omega, e7t, if_pos ⟨h, h'⟩]
      · rw [show decide (((byteD (l.drop i) 0 : Nat) : Int) < 245) = false by simp; omega, e7, if_neg (fun hh => h' hh.2)]
    · rw [ite_df (by omega), e7, if_neg (fun hh => h hh.1)]
  have e5f : ref2_Decode.k5 l (acc, (i : Int)) false = refOut acc i (if 224 ≤ byteD (l.drop i) 0 ∧ byteD (l.drop i) 0 < 240 then refR (l.drop i) 3 (byteD (l.drop i) 0 % 16) else if 240 ≤ byteD (l.drop i) 0 ∧ byteD (l.drop i) 0 < 245 then refR (l.drop i) 4 (byteD (l.drop i) 0 % 8) else none) := by
    unfold ref2_Decode.k5
    simp only [g0]
    rw [if_neg (by simp)]
    by_cases h : 224 ≤ byteD (l.drop i) 0
    · rw [ite_dt (by omega)]
      by_cases h' : byteD (l.drop i) 0 < 240
      · rw [show decide (((byteD (l.drop i) 0 : Nat) : Int) < 240) = true by simp; omega, e6t, if_pos ⟨h, h'⟩]
      · rw [show decide (((byteD (l.drop i) 0 : Nat) : Int) < 240) = false by simp; omega, e6f, if_neg (show ¬ (224 ≤ byteD (l.drop i) 0 ∧ byteD (l.drop i) 0 < 240) from fun hh => h' hh.2)]
    · rw [ite_df (by omega), e6f, if_neg (show ¬ (224 ≤ byteD (l.drop i) 0 ∧ byteD (l.drop i) 0 < 240) from fun hh => h hh.1)]
  by_cases h : 194 ≤ byteD (l.drop i) 0
  · rw [ite_dt (by omega)]
    by_cases h' : byteD (l.drop i) 0 < 224
    · rw [show decide (((byteD (l.drop i) 0 : Nat) : Int) < 224) = true by simp; omega, e5t, if_pos ⟨h, h'⟩]
    · rw [show decide (((byteD (l.drop i) 0 : Nat) : Int) < 224) = false by simp; omega, e5f, if_neg (show ¬ (194 ≤ byteD (l.drop i) 0 ∧ byteD (l.drop i) 0 < 224) from fun hh => h' hh.2)]
  · rw [ite_df (by omega), e5f, if_neg (show ¬ (194 ≤ byteD (l.drop i) 0 ∧ byteD (l.drop i) 0 < 224) from fun hh => h hh.1)]
end
/-- What is read of a rune's bytes, in numbers. -/
def refN (n b0 b1 b2 b3 : Nat) : Nat × Nat :=
  if b0 < 128 then (b0, 1)
  else if 194 ≤ b0 ∧ b0 < 224 ∧ 2 ≤ n ∧ b1 / 64 = 2 then (b0 % 32 * 64 + b1 % 64, 2)
  else if 224 ≤ b0 ∧ b0 < 240 ∧ 3 ≤ n ∧ b1 / 64 = 2 ∧ b2 / 64 = 2 ∧ 2048 ≤ (b0 % 16 * 64 + b1 % 64) * 64 + b2 % 64 ∧ ((b0 % 16 * 64 + b1 % 64) * 64 + b2 % 64 < 55296 ∨ 57344 ≤ (b0 % 16 * 64 + b1 % 64) * 64 + b2 % 64) then ((b0 % 16 * 64 + b1 % 64) * 64 + b2 % 64, 3)
  else if 240 ≤ b0 ∧ b0 < 245 ∧ 4 ≤ n ∧ b1 / 64 = 2 ∧ b2 / 64 = 2 ∧ b3 / 64 = 2 ∧ 65536 ≤ ((b0 % 8 * 64 + b1 % 64) * 64 + b2 % 64) * 64 + b3 % 64 ∧ ((b0 % 8 * 64 + b1 % 64) * 64 + b2 % 64) * 64 + b3 % 64 ≤ 1114111 then (((b0 % 8 * 64 + b1 % 64) * 64 + b2 % 64) * 64 + b3 % 64, 4)
  else (65533, 1)
theorem refN_is (n b0 b1 b2 b3 : Nat) (h0 : b0 < 256) : decodeN n b0 b1 b2 b3 = refN n b0 b1 b2 b3 := by
  unfold decodeN refN
  by_cases h1 : b0 < 128
  · rw [if_pos h1, if_pos h1]
  rw [if_neg h1, if_neg h1]
  by_cases h2 : b0 < 224
  · rw [if_neg (show ¬ (224 ≤ b0 ∧ _) from fun h => by omega), if_neg (show ¬ (240 ≤ b0 ∧ _) from fun h => by omega)]
    rw [if_neg (show ¬ (b0 / 16 = 14 ∧ _) from fun h => by omega), if_neg (show ¬ (b0 / 8 = 30 ∧ _) from fun h => by omega)]
    by_cases h3 : b0 / 32 = 6 ∧ (1 < n ∧ b1 / 64 = 2)
    · rw [if_pos h3]
      by_cases h4 : b0 % 32 * 64 + b1 % 64 ≥ 128
      · rw [if_pos h4, if_pos (by omega)]
      · rw [if_neg h4, if_neg (by omega)]
    · rw [if_neg h3, if_neg (by omega)]
  rw [if_neg (show ¬ (194 ≤ b0 ∧ _) from fun h => by omega), if_neg (show ¬ (b0 / 32 = 6 ∧ _) from fun h => by omega)]
  by_cases h3 : b0 < 240
  · rw [if_neg (show ¬ (240 ≤ b0 ∧ _) from fun h => by omega), if_neg (show ¬ (b0 / 8 = 30 ∧ _) from fun h => by omega)]
    have e : b0 % 16 * 4096 + b1 % 64 * 64 + b2 % 64 = (b0 % 16 * 64 + b1 % 64) * 64 + b2 % 64 := by omega
    rw [e]
    by_cases h4 : b0 / 16 = 14 ∧ (1 < n ∧ b1 / 64 = 2) ∧ (2 < n ∧ b2 / 64 = 2)
    · rw [if_pos h4]
      split
      · rw [if_pos (by omega)]
      · rw [if_neg (by omega)]
    · rw [if_neg h4, if_neg (by omega)]
  · rw [if_neg (show ¬ (224 ≤ b0 ∧ _) from fun h => by omega), if_neg (show ¬ (b0 / 16 = 14 ∧ _) from fun h => by omega)]
    have e : b0 % 8 * 262144 + b1 % 64 * 4096 + b2 % 64 * 64 + b3 % 64 = ((b0 % 8 * 64 + b1 % 64) * 64 + b2 % 64) * 64 + b3 % 64 := by omega
    rw [e]
    by_cases h4 : b0 / 8 = 30 ∧ (1 < n ∧ b1 / 64 = 2) ∧ (2 < n ∧ b2 / 64 = 2) ∧ (3 < n ∧ b3 / 64 = 2)
    · rw [if_pos h4]
      split
      · rw [if_pos (by omega)]
      · rw [if_neg (by omega)]
    · rw [if_neg h4, if_neg (by omega)]
theorem badR_iff (n c : Nat) : badR n c = true ↔ ((n = 3 ∧ c < 2048) ∨ (n = 4 ∧ (c < 65536 ∨ 1114111 < c)) ∨ (55296 ≤ c ∧ c < 57344)) := by simp [badR, or_assoc]
theorem badR_if {n c : Nat} {α : Type} (x y : α) : (if badR n c = true then x else y) = if ((n = 3 ∧ c < 2048) ∨ (n = 4 ∧ (c < 65536 ∨ 1114111 < c)) ∨ (55296 ≤ c ∧ c < 57344)) then x else y := by
  by_cases h : badR n c = true
  · rw [if_pos h, if_pos ((badR_iff n c).1 h)]
  · rw [if_neg h, if_neg (fun hh => h ((badR_iff n c).2 hh))]
set_option maxRecDepth 100000 in
theorem refS_is {m : List UInt8} (h : m ≠ []) : refS m = if (decodeL m).1 = 65533 ∧ (decodeL m).2 = 1 then none else some (decodeL m) := by
  have hl : 0 < m.length := List.length_pos_iff.2 h
  have hb := byteD_lt m 0
  rw [decodeL_N, refN_is _ _ _ _ _ hb]
  unfold refS refR
  simp only [badR_if]
  change _ = if (refN m.length (byteD m 0) (byteD m 1) (byteD m 2) (byteD m 3)).1 = 65533 ∧ (refN m.length (byteD m 0) (byteD m 1) (byteD m 2) (byteD m 3)).2 = 1 then none else some (refN m.length (byteD m 0) (byteD m 1) (byteD m 2) (byteD m 3))
  generalize byteD m 0 = b0 at *
  generalize byteD m 1 = b1
  generalize byteD m 2 = b2
  generalize byteD m 3 = b3
  generalize m.length = n at *
  by_cases h1 : b0 < 128
  · have e : refN n b0 b1 b2 b3 = (b0, 1) := by unfold refN; rw [if_pos h1]
    rw [e, if_pos h1, if_neg (by omega), if_pos trivial, if_neg (by omega), if_neg (by omega)]
  by_cases h2 : 194 ≤ b0 ∧ b0 < 224
  · by_cases g : 2 ≤ n ∧ b1 / 64 = 2
    · have e : refN n b0 b1 b2 b3 = (b0 % 32 * 64 + b1 % 64, 2) := by unfold refN; rw [if_neg h1, if_pos ⟨h2.1, h2.2, g.1, g.2⟩]
      rw [e, if_neg h1, if_pos h2, if_neg (by omega), if_neg (by decide), if_neg (by omega), if_pos trivial, if_neg (by omega), if_neg (by simp)]
    · have e : refN n b0 b1 b2 b3 = (65533, 1) := by
        unfold refN; rw [if_neg h1, if_neg (fun hh => g ⟨hh.2.2.1, hh.2.2.2⟩), if_neg (show ¬ (224 ≤ b0 ∧ _) from fun hh => by omega), if_neg (show ¬ (240 ≤ b0 ∧ _) from fun hh => by omega)]
      rw [e, if_neg h1, if_pos h2]
      simp only [and_self, if_true]
      by_cases gn : n < 2
      · rw [if_pos gn]
      · rw [if_neg gn, if_neg (by decide), if_pos (fun hh => g ⟨by omega, hh⟩)]
  by_cases h3 : 224 ≤ b0 ∧ b0 < 240
  · by_cases g : 3 ≤ n ∧ b1 / 64 = 2 ∧ b2 / 64 = 2 ∧ 2048 ≤ (b0 % 16 * 64 + b1 % 64) * 64 + b2 % 64 ∧ ((b0 % 16 * 64 + b1 % 64) * 64 + b2 % 64 < 55296 ∨ 57344 ≤ (b0 % 16 * 64 + b1 % 64) * 64 + b2 % 64)
    · have e : refN n b0 b1 b2 b3 = ((b0 % 16 * 64 + b1 % 64) * 64 + b2 % 64, 3) := by unfold refN; rw [if_neg h1, if_neg (show ¬ (194 ≤ b0 ∧ b0 < 224 ∧ _) from fun hh => by omega), if_pos ⟨h3.1, h3.2, g⟩]
      rw [e, if_neg h1, if_neg h2, if_pos h3, if_neg (by omega), if_neg (by decide), if_neg (by omega), if_neg (by decide), if_neg (by omega), if_pos trivial, if_neg (by omega), if_neg (by simp)]
    · have e : refN n b0 b1 b2 b3 = (65533, 1) := by
        unfold refN; rw [if_neg h1, if_neg (show ¬ (194 ≤ b0 ∧ b0 < 224 ∧ _) from fun hh => by omega), if_neg (fun hh => g hh.2.2), if_neg (show ¬ (240 ≤ b0 ∧ _) from fun hh => by omega)]
      rw [e, if_neg h1, if_neg h2, if_pos h3]
      simp only [and_self, if_true]
      by_cases gn : n < 3
      · rw [if_pos gn]
      rw [if_neg gn, if_neg (by decide)]
      by_cases g1 : b1 / 64 = 2
      · rw [if_neg (by simpa using g1), if_neg (by decide)]
        by_cases g2 : b2 / 64 = 2
        · rw [if_neg (by simpa using g2), if_pos (by simp only [true_and]; omega)]
        · rw [if_pos g2]
      · rw [if_pos g1]
  by_cases h4 : 240 ≤ b0 ∧ b0 < 245
  · by_cases g : 4 ≤ n ∧ b1 / 64 = 2 ∧ b2 / 64 = 2 ∧ b3 / 64 = 2 ∧ 65536 ≤ ((b0 % 8 * 64 + b1 % 64) * 64 + b2 % 64) * 64 + b3 % 64 ∧ ((b0 % 8 * 64 + b1 % 64) * 64 + b2 % 64) * 64 + b3 % 64 ≤ 1114111
    · have e : refN n b0 b1 b2 b3 = (((b0 % 8 * 64 + b1 % 64) * 64 + b2 % 64) * 64 + b3 % 64, 4) := by unfold refN; rw [if_neg h1, if_neg (show ¬ (194 ≤ b0 ∧ b0 < 224 ∧ _) from fun hh => by omega), if_neg (show ¬ (224 ≤ b0 ∧ b0 < 240 ∧ _) from fun hh => by omega), if_pos ⟨h4.1, h4.2, g⟩]
      rw [e, if_neg h1, if_neg h2, if_neg h3, if_pos h4, if_neg (by omega), if_neg (by decide), if_neg (by omega), if_neg (by decide), if_neg (by omega), if_neg (by decide), if_neg (by omega), if_neg (by omega), if_neg (by simp)]
    · have e : refN n b0 b1 b2 b3 = (65533, 1) := by
        unfold refN; rw [if_neg h1, if_neg (show ¬ (194 ≤ b0 ∧ b0 < 224 ∧ _) from fun hh => by omega), if_neg (show ¬ (224 ≤ b0 ∧ b0 < 240 ∧ _) from fun hh => by omega), if_neg (fun hh => g hh.2.2)]
      rw [e, if_neg h1, if_neg h2, if_neg h3, if_pos h4]
      simp only [and_self, if_true]
      by_cases gn : n < 4
      · rw [if_pos gn]
      rw [if_neg gn, if_neg (by decide)]
      by_cases g1 : b1 / 64 = 2
      · rw [if_neg (by simpa using g1), if_neg (by decide)]
        by_cases g2 : b2 / 64 = 2
        · rw [if_neg (by simpa using g2), if_neg (by decide)]
          by_cases g3 : b3 / 64 = 2
          · rw [if_neg (by simpa using g3), if_pos (by simp only [true_and]; omega)]
          · rw [if_pos g3]
        · rw [if_pos g2]
      · rw [if_pos g1]
  · have e : refN n b0 b1 b2 b3 = (65533, 1) := by
      unfold refN; rw [if_neg h1, if_neg (show ¬ (194 ≤ b0 ∧ b0 < 224 ∧ _) from fun hh => by omega), if_neg (show ¬ (224 ≤ b0 ∧ b0 < 240 ∧ _) from fun hh => by omega), if_neg (show ¬ (240 ≤ b0 ∧ b0 < 245 ∧ _) from fun hh => by omega)]
    rw [e, if_neg h1, if_neg h2, if_neg h3, if_neg h4]
    simp
/-- The document's Decode. -/
theorem RefDecode_is {l : List UInt8} (hl : l.length ≤ 4194304) : ref2_Decode.impl l = some (if validD l = true then (runesOf l, true) else ([], false)) := by
  unfold ref2_Decode.impl
  have key : ∀ n (acc : List Int) (i : Nat), l.length - i < n → i ≤ l.length → acc.length ≤ i → ∃ r, loop (ref2_Decode.st1 l) (acc, (i : Int)) = some r ∧ (match r with | .inl v => some v | .inr v => ref2_Decode.k1 v) = some (if validD (l.drop i) = true then (acc ++ runesOf (l.drop i), true) else ([], false)) := by
    intro n
    induction n with
    | zero => intro acc i h; omega
    | succ n ih =>
      intro acc i h hi ha
      by_cases hlt : i < l.length
      · have hne : l.drop i ≠ [] := by intro e; have := congrArg List.length e; simp at this; omega
        have st := ref_step (acc := acc) hl hlt (by omega)
        rw [refS_is hne] at st
        have hw := decodeL_width (l.drop i)
        have hle := decodeL_le (l.drop i) hne
        rw [List.length_drop] at hle
        rw [validD_step _ hne]
        by_cases hb : (decodeL (l.drop i)).1 = 65533 ∧ (decodeL (l.drop i)).2 = 1
        · rw [if_pos hb] at st ⊢
          exact ⟨_, loop_last st, rfl⟩
        · rw [if_neg hb] at st ⊢
          obtain ⟨r, h1, h2⟩ := ih (acc ++ [((decodeL (l.drop i)).1 : Int)]) (i + (decodeL (l.drop i)).2) (by omega) (by omega) (by simp; omega)
          refine ⟨r, ?_, ?_⟩
          · rw [loop_more st]; exact h1
          · rw [h2, runesOf_cons hne, List.drop_drop]; simp
      · refine ⟨Sum.inr acc, loop_last ?_, ?_⟩
        · unfold ref2_Decode.st1
          rw [ite_df (by simp only; omega)]
        · rw [List.drop_of_length_le (by omega), runesOf_nil]; simp [ref2_Decode.k1, validD, validGoD]
  obtain ⟨r, h1, h2⟩ := key _ [] 0 (Nat.lt_succ_self _) (Nat.zero_le _) (Nat.le_refl _)
  erw [h1]
  exact h2.trans (by simp)
end Go.Proofs.YtdojooblfemmnaaDoor
