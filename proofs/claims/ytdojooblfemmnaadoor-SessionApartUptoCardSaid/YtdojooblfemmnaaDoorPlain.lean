/- Layer 2's functions in plain terms. -/
import Derived.Test.YtdojooblfemmnaaDoorDecode
import Derived.Test.YtdojooblfemmnaaDoorKeys
set_option linter.unusedVariables false
set_option linter.unusedSimpArgs false
namespace Go.Proofs.YtdojooblfemmnaaDoor
open Go Go.RowKit Go.Lib
theorem Valid_is {l : List UInt8} (hl : l.length ≤ 4194304) : utf8_ValidString.impl l = some (validD l) := by
  unfold utf8_ValidString.impl; rw [chk_pos (by omega)]
/-- How many runes; -1: no valid text. -/
def countR (l : List UInt8) : Int := if validD l = true then ((runesOf l).length : Int) else -1
theorem Runes_is {l : List UInt8} (hl : l.length ≤ 4194304) : keys_Runes.impl l = some (countR l) := by
  unfold keys_Runes.impl countR
  rw [Valid_is hl]
  simp only [Option.bind_some]
  by_cases hv : validD l = true
  · rw [hv]
    simp only [Bool.not_true, Bool.false_eq_true, if_false, if_true]
    have := loop_runes (step := keys_Runes.st1 l) (l := l) (f := fun a _ => IntKind.i64.wrap (a + 1)) (Q := fun a p => 0 ≤ a ∧ a ≤ (p : Int)) (last := fun a => a) (fun a p h hp => by
        have hw := decodeL_width (l.drop p)
        rw [← runeAt_drop] at hw
        rw [i64_id (by omega)]
        refine ⟨by omega, ?_⟩
        unfold keys_Runes.st1
        rw [ite_dt hp, i64_id (by omega)]) (fun a p h hp => by
        unfold keys_Runes.st1
        rw [ite_df hp]) 0 ⟨by omega, by omega⟩
    rw [this]
    simp only [Option.bind_some, keys_Runes.k1]
    have hle := runesOf_le l
    have key : ∀ (rs : List Int) (a : Int), 0 ≤ a → a + rs.length ≤ 4194304 → rs.foldl (fun a _ => IntKind.i64.wrap (a + 1)) a = a + rs.length := by
      intro rs
      induction rs with
      | nil => intro a _ _; simp
      | cons r rs ih =>
        intro a h0 h1
        simp only [List.length_cons] at h1
        rw [List.foldl_cons, i64_id (by omega), ih _ (by omega) (by omega), List.length_cons]; omega
    rw [key _ 0 (by omega) (by omega)]; simp
  · have hv : validD l = false := by simpa using hv
    rw [hv]; rfl
theorem RefRunes_is {l : List UInt8} (hl : l.length ≤ 4194304) : ref2_Runes.impl l = some (countR l) := by
  unfold ref2_Runes.impl countR
  rw [RefDecode_is hl]
  by_cases hv : validD l = true
  · rw [if_pos hv, if_pos hv]; rfl
  · rw [if_neg hv, if_neg hv]; rfl
/-- A value: its kind, its number, its text. -/
abbrev Vl := Int × Int × List UInt8
/-- What is wrong with a value. -/
def rightE (v : Vl) : Int :=
  if v.1 = 0 then (if v.2.1 = 0 ∧ v.2.2 = [] then 0 else 1)
  else if v.1 = 1 then (if v.2.2 = [] then 0 else 1)
  else if v.1 = 2 then (if v.2.1 = 0 then (if validD v.2.2 = true then 0 else 12) else 1)
  else if v.1 = 3 then (if v.2.2 = [] ∧ 0 ≤ v.2.1 ∧ v.2.1 ≤ 1 then 0 else 1)
  else 1
theorem countR_neg (l : List UInt8) : countR l < 0 ↔ validD l = false := by
  unfold countR
  by_cases h : validD l = true
  · rw [if_pos h, h]; simp
  · rw [if_neg h]; simpa using h
theorem RefRight_is {v : Vl} (hl : v.2.2.length ≤ 4194304) : ref2_Right.impl v = some (rightE v) := by
  obtain ⟨k, n, s⟩ := v
  simp only at hl
  unfold ref2_Right.impl rightE
  simp only [RefDecode_is hl, Option.bind_some, ref2_Right.k1, ref2_Right.k2]
  by_cases h0 : k = 0
  · subst h0
    by_cases h1 : n = 0 <;> by_cases h2 : s = [] <;> simp [h1, h2]
  by_cases h1 : k = 1
  · subst h1
    by_cases h2 : s = [] <;> simp [h2]
  by_cases h2 : k = 2
  · subst h2
    by_cases h3 : n = 0 <;> by_cases h4 : validD s = true <;> simp [h3, h4]
  by_cases h3 : k = 3
  · subst h3
    by_cases h4 : s = [] <;> by_cases h5 : n < 0 <;> by_cases h6 : 1 < n <;> simp [h4, h5, h6] <;> omega
  · simp [h0, h1, h2, h3]
theorem Right_is {v : Vl} (hl : v.2.2.length ≤ 4194304) : keys_Right.impl v = some (rightE v) := by
  obtain ⟨k, n, s⟩ := v
  simp only at hl
  have hneg := countR_neg s
  have k5 : keys_Right.k5 (decide (countR s < 0)) = some (if validD s = true then 0 else 12) := by
    unfold keys_Right.k5
    by_cases h : validD s = true
    · rw [h]; rw [h] at hneg; simp at hneg; simp; omega
    · have h : validD s = false := by simpa using h
      rw [decide_eq_true (hneg.2 h), h]; rfl
  have k5f : keys_Right.k5 false = some 0 := rfl
  unfold keys_Right.impl keys_Right.k1 keys_Right.k2 keys_Right.k3 keys_Right.k4 keys_inside.impl rightE
  simp only
  by_cases h0 : k = 0
  · subst h0
    by_cases h1 : n = 0 <;> by_cases h2 : s = [] <;> simp [h1, h2, Dy.isStr, k5f]
  by_cases h1 : k = 1
  · subst h1
    by_cases h2 : s = [] <;> simp [h2, Dy.isStr, k5f]
  by_cases h2 : k = 2
  · subst h2
    by_cases h3 : n = 0 <;> simp [h3, Dy.isStr, Dy.asStr, Runes_is hl, k5]
  by_cases h3 : k = 3
  · subst h3
    by_cases h4 : s = [] <;> by_cases h5 : n = 0 <;> by_cases h6 : n = 1 <;> simp [h4, h5, h6, Dy.isStr, k5f] <;> omega
  · by_cases h4 : k < 0 <;> by_cases h5 : 3 < k <;> simp [h0, h1, h2, h3, h4, h5] <;> omega
/-! ### Runes -/
def OkR (c : Int) : Prop := (0 ≤ c ∧ c < 55296) ∨ (57344 ≤ c ∧ c ≤ 1114111)
def lowR (c : Int) : Int := if (65 ≤ c ∧ c ≤ 90) ∨ (192 ≤ c ∧ c ≤ 222 ∧ c ≠ 215) ∨ (913 ≤ c ∧ c ≤ 937 ∧ c ≠ 930) ∨ (1040 ≤ c ∧ c ≤ 1071) then c + 32 else c
theorem mask_i32 {n : Nat} (h : n < 2147483648) : bitsOf .and .i32 (n : Int) 63 = ((n % 64 : Nat) : Int) := by
  show IntKind.i32.wrap ((BitVec.ofInt 32 (n : Int) &&& BitVec.ofInt 32 63).toNat : Nat) = _
  rw [BitVec.toNat_and, BitVec.ofInt_natCast, BitVec.toNat_ofNat, Nat.mod_eq_of_lt (by omega), show (BitVec.ofInt 32 63).toNat = 2 ^ 6 - 1 by decide, Nat.and_two_pow_sub_one_eq_mod, i32_id (by omega)]
theorem shr_i32 (n : Nat) (k : Nat) (h : k ≤ 32) : shrI .i32 (n : Int) (k : Int) = ((n >>> k : Nat) : Int) := by
  rw [shr_nat .i32 n (by simpa [IntKind.bits] using h)]; simp
theorem or192 {x : Nat} (h : x < 32) : u8 (bitsOf .or .u8 192 (x : Int)) = UInt8.ofNat (192 + x) := by
  have : ∀ y : Fin 32, u8 (bitsOf .or .u8 192 ((y.val : Nat) : Int)) = UInt8.ofNat (192 + y.val) := by decide +kernel
  exact this ⟨x, h⟩
theorem or224 {x : Nat} (h : x < 16) : u8 (bitsOf .or .u8 224 (x : Int)) = UInt8.ofNat (224 + x) := by
  have : ∀ y : Fin 16, u8 (bitsOf .or .u8 224 ((y.val : Nat) : Int)) = UInt8.ofNat (224 + y.val) := by decide +kernel
  exact this ⟨x, h⟩
theorem or240 {x : Nat} (h : x < 8) : u8 (bitsOf .or .u8 240 (x : Int)) = UInt8.ofNat (240 + x) := by
  have : ∀ y : Fin 8, u8 (bitsOf .or .u8 240 ((y.val : Nat) : Int)) = UInt8.ofNat (240 + y.val) := by decide +kernel
  exact this ⟨x, h⟩
theorem or128 {x : Nat} (h : x < 64) : u8 (bitsOf .or .u8 128 (x : Int)) = UInt8.ofNat (128 + x) := by
  have : ∀ y : Fin 64, u8 (bitsOf .or .u8 128 ((y.val : Nat) : Int)) = UInt8.ofNat (128 + y.val) := by decide +kernel
  exact this ⟨x, h⟩
theorem encode1 {c : Nat} (h : c < 128) : encodeRune (c : Int) = [UInt8.ofNat c] := by
  unfold encodeRune; rw [encodeRuneZ_one (by omega) (by omega)]; simp
theorem encode2 {c : Nat} (h0 : ¬ c < 128) (h : c < 2048) : encodeRune (c : Int) = [UInt8.ofNat (192 + c / 64), UInt8.ofNat (128 + c % 64)] := by
  unfold encodeRune; rw [encodeRuneZ_two (by omega) (by omega)]
  simp only [List.map_cons, List.map_nil]
  rw [u8_of_int (192 + (c : Int) / 64) (192 + c / 64) (by omega), u8_of_int (128 + (c : Int) % 64) (128 + c % 64) (by omega)]
theorem encode3 {c : Nat} (h0 : ¬ c < 2048) (h : c < 65536) (hs : c < 55296 ∨ 57344 ≤ c) : encodeRune (c : Int) = [UInt8.ofNat (224 + c / 4096), UInt8.ofNat (128 + c / 64 % 64), UInt8.ofNat (128 + c % 64)] := by
  unfold encodeRune; rw [encodeRuneZ_three (by omega)]
  simp only [List.map_cons, List.map_nil]
  rw [u8_of_int (224 + (c : Int) / 4096) (224 + c / 4096) (by omega), u8_of_int (128 + (c : Int) / 64 % 64) (128 + c / 64 % 64) (by omega), u8_of_int (128 + (c : Int) % 64) (128 + c % 64) (by omega)]
theorem encode4 {c : Nat} (h0 : ¬ c < 65536) (h : c ≤ 1114111) : encodeRune (c : Int) = [UInt8.ofNat (240 + c / 262144), UInt8.ofNat (128 + c / 4096 % 64), UInt8.ofNat (128 + c / 64 % 64), UInt8.ofNat (128 + c % 64)] := by
  unfold encodeRune; rw [encodeRuneZ_four (by omega) (by omega)]
  simp only [List.map_cons, List.map_nil]
  rw [u8_of_int (240 + (c : Int) / 262144) (240 + c / 262144) (by omega), u8_of_int (128 + (c : Int) / 4096 % 64) (128 + c / 4096 % 64) (by omega), u8_of_int (128 + (c : Int) / 64 % 64) (128 + c / 64 % 64) (by omega), u8_of_int (128 + (c : Int) % 64) (128 + c % 64) (by omega)]
theorem ofRunes_le (l : List Int) : (ofRunes l).length ≤ 4 * l.length := by
  induction l with
  | nil => simp [ofRunes]
  | cons c l ih =>
    have : (Utf8.encode c).data.toList.length ≤ 4 := by
      have h := encode_size_le c
      rw [Array.length_toList]; exact h
    unfold ofRunes at ih ⊢
    rw [List.flatMap_cons, List.length_append, List.length_cons]; omega
/-- A text with its great letters as small ones. -/
def foldT (l : List UInt8) : List UInt8 := if validD l = true then ofRunes ((runesOf l).map lowR) else []
theorem foldl_snoc {f : Int → Int} : ∀ (rs acc : List Int), rs.foldl (fun a c => a ++ [f c]) acc = acc ++ rs.map f
  | [], acc => by simp
  | r :: rs, acc => by rw [List.foldl_cons, foldl_snoc rs]; simp
theorem okR_decode (m : List UInt8) : OkR ((decodeL m).1 : Int) := by
  have hb := byteD_lt m 0
  rw [decodeL_N, refN_is _ _ _ _ _ hb]
  unfold refN OkR
  repeat' split
  all_goals (simp only; omega)
theorem runesOf_ok (l : List UInt8) : ∀ c ∈ runesOf l, OkR c := by
  have key : ∀ n (l : List UInt8), l.length < n → ∀ c ∈ runesOf l, OkR c := by
    intro n
    induction n with
    | zero => intro l h; omega
    | succ n ih =>
      intro l h c hc
      by_cases h0 : l = []
      · rw [h0, runesOf_nil] at hc; cases hc
      · have h1 := decodeL_width l
        have h2 : 0 < l.length := List.length_pos_iff.2 h0
        rw [runesOf_cons h0] at hc
        rcases List.mem_cons.1 hc with rfl | hc
        · exact okR_decode l
        · exact ih _ (by rw [List.length_drop]; omega) c hc
  exact key _ l (Nat.lt_succ_self _)
theorem lowR_ok {c : Int} (h : OkR c) : OkR (lowR c) := by
  unfold lowR OkR at *
  split <;> omega
theorem set_map {f : Int → Int} (rs : List Int) {i : Nat} (h : i < rs.length) : ((rs.take i).map f ++ rs.drop i).set i (f rs[i]) = (rs.take (i + 1)).map f ++ rs.drop (i + 1) := by
  rw [List.set_append_right _ _ (by simp; omega), show i - ((rs.take i).map f).length = 0 by simp; omega, List.drop_eq_getElem_cons h, List.set_cons_zero, ← List.take_append_getElem h, List.map_append, List.append_assoc]
  rfl
theorem getD_el {α : Type} [Inhabited α] {l : List α} {i : Nat} (h : i < l.length) : l.getD i default = l[i] := by rw [List.getD_eq_getElem?_getD, List.getElem?_eq_getElem h]; rfl
theorem RefSame_is {l m : List Vl} (hl : l.length ≤ 4194304) : ref2_Same.impl l m = some (decide (l = m)) := by
  unfold ref2_Same.impl
  by_cases hlen : l.length = m.length
  · rw [ite_nt (by omega)]
    have key : ∀ n (i : Nat), l.length - i < n → i ≤ l.length → ∃ r, loop (ref2_Same.st1 l m) (i : Int) = some r ∧ (match r with | .inl v => some v | .inr v => ref2_Same.k1 v) = some (decide (l.drop i = m.drop i)) := by
      intro n
      induction n with
      | zero => intro i h; omega
      | succ n ih =>
        intro i h hi
        by_cases g : i < l.length
        · have w : IntKind.i64.wrap ((i : Int) + 1) = ((i + 1 : Nat) : Int) := by rw [i64_id (by omega)]; omega
          have e1 : l.drop i = l.getD i default :: l.drop (i + 1) := by rw [List.drop_eq_getElem_cons g, getD_el g]
          have e2 : m.drop i = m.getD i default :: m.drop (i + 1) := by rw [List.drop_eq_getElem_cons (by omega), getD_el (by omega)]
          by_cases q : l.getD i default = m.getD i default
          · have st : ref2_Same.st1 l m (i : Int) = some (.inl ((i + 1 : Nat) : Int)) := by
              unfold ref2_Same.st1
              simp only [Int.toNat_natCast, w]
              rw [ite_dt (by omega), chk_pos (by omega), chk_pos (by omega), ite_nt q]
            obtain ⟨r, r1, r2⟩ := ih (i + 1) (by omega) (by omega)
            refine ⟨r, by rw [loop_more st]; exact r1, ?_⟩
            rw [r2, e1, e2, q]
            simp
          · have st : ref2_Same.st1 l m (i : Int) = some (.inr (.inl false)) := by
              unfold ref2_Same.st1
              simp only [Int.toNat_natCast]
              rw [ite_dt (by omega), chk_pos (by omega), chk_pos (by omega), ite_nf q]
            refine ⟨_, loop_last st, ?_⟩
            rw [e1, e2, decide_eq_false (fun e => q (List.cons.inj e).1)]
        · refine ⟨.inr (), loop_last ?_, ?_⟩
          · unfold ref2_Same.st1
            rw [ite_df (by omega)]
          · rw [List.drop_of_length_le (by omega), List.drop_of_length_le (by omega)]; rfl
    obtain ⟨r, r1, r2⟩ := key _ 0 (Nat.lt_succ_self _) (Nat.zero_le _)
    erw [r1]
    exact r2
  · rw [ite_nf (by omega)]
    have : l ≠ m := fun e => hlen (by rw [e])
    simp [this]
end Go.Proofs.YtdojooblfemmnaaDoor
