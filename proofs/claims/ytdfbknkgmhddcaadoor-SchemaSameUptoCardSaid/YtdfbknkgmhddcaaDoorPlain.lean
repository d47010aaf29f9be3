/- Layer 2's functions in plain terms. -/
import Derived.Test.YtdfbknkgmhddcaaDoorDecode
import Derived.Test.YtdfbknkgmhddcaaDoorKeys
set_option linter.unusedVariables false
set_option linter.unusedSimpArgs false
namespace Go.Proofs.YtdfbknkgmhddcaaDoor
open Go Go.RowKit Go.Lib
theorem Valid_is {l : List UInt8} (hl : l.length ≤ 4194304) : utf8_ValidString.impl l = some (validD l) := by
  unfold utf8_ValidString.impl; rw [chk_pos (by omega)]
/-- How many runes; -1: no valid text. -/
def countR (l : List UInt8) : Int := if validD l = true then ((runesOf l).length : Int) else -1
theorem Runes_is {l : List UInt8} (hl : l.length ≤ 4194304) : keys_Runes.impl l = some (countR l) := by
  unfold keys_Runes.impl countR
  rw [Valid_is hl]
  simp only [Option.bind_some]
  by_cases hv : validD l = true
  · rw [hv]
    simp only [Bool.not_true, Bool.false_eq_true, if_false, if_true]
    have := loop_runes (step := keys_Runes.st1 l) (l := l) (f := fun a _ => IntKind.i64.wrap (a + 1)) (Q := fun a p => 0 ≤ a ∧ a ≤ (p : Int)) (last := fun a => a) (fun a p h hp => by
        have hw := decodeL_width (l.drop p)
        rw [← runeAt_drop] at hw
        rw [i64_id (by omega)]
        refine ⟨by omega, ?_⟩
        unfold keys_Runes.st1
        rw [ite_dt hp, i64_id (by omega)]) (fun a p h hp => by
        unfold keys_Runes.st1
        rw [ite_df hp]) 0 ⟨by omega, by omega⟩
    rw [this]
    simp only [Option.bind_some, keys_Runes.k1]
    have hle := runesOf_le l
    have key : ∀ (rs : List Int) (a : Int), 0 ≤ a → a + rs.length ≤ 4194304 → rs.foldl (fun a _ => IntKind.i64.wrap (a + 1)) a = a + rs.length := by
      intro rs
      induction rs with
      | nil => intro a _ _; simp
      | cons r rs ih =>
        intro a h0 h1
        simp only [List.length_cons] at h1
        rw [List.foldl_cons, i64_id (by omega), ih _ (by omega) (by omega), List.length_cons]; omega
    rw [key _ 0 (by omega) (by omega)]; simp
  · have hv : validD l = false := by simpa using hv
    rw [hv]; rfl
theorem RefRunes_is {l : List UInt8} (hl : l.length ≤ 4194304) : ref2_Runes.impl l = some (countR l) := by
  unfold ref2_Runes.impl countR
  rw [RefDecode_is hl]
  by_cases hv : validD l = true
  · rw [if_pos hv, if_pos hv]; rfl
  · rw [if_neg hv, if_neg hv]; rfl
/-- A value: its kind, its number, its text. -/
abbrev Vl := Int × Int × List UInt8
/-- What is wrong with a value. -/
def rightE (v : Vl) : Int :=
  if v.1 = 0 then (if v.2.1 = 0 ∧ v.2.2 = [] then 0 else 1)
  else if v.1 = 1 then (if v.2.2 = [] then 0 else 1)
  else if v.1 = 2 then (if v.2.1 = 0 then (if validD v.2.2 = true then 0 else 12) else 1)
  else if v.1 = 3 then (if v.2.2 = [] ∧ 0 ≤ v.2.1 ∧ v.2.1 ≤ 1 then 0 else 1)
  else 1
theorem countR_neg (l : List UInt8) : countR l < 0 ↔ validD l = false := by
  unfold countR
  by_cases h : validD l = true
  · rw [if_pos h, h]; simp
  · rw [if_neg h]; simpa using h
theorem RefRight_is {v : Vl} (hl : v.2.2.length ≤ 4194304) : ref2_Right.impl v = some (rightE v) := by
  obtain ⟨k, n, s⟩ := v
  simp only at hl
  unfold ref2_Right.impl rightE
  simp only [RefDecode_is hl, Option.bind_some, ref2_Right.k1, ref2_Right.k2]
  by_cases h0 : k = 0
  · subst h0
    by_cases h1 : n = 0 <;> by_cases h2 : s = [] <;> simp [h1, h2]
  by_cases h1 : k = 1
  · subst h1
    by_cases h2 : s = [] <;> simp [h2]
  by_cases h2 : k = 2
  · subst h2
    by_cases h3 : n = 0 <;> by_cases h4 : validD s = true <;> simp [h3, h4]
  by_cases h3 : k = 3
  · subst h3
    by_cases h4 : s = [] <;> by_cases h5 : n < 0 <;> by_cases h6 : 1 < n <;> simp [h4, h5, h6] <;> omega
  · simp [h0, h1, h2, h3]
theorem Right_is {v : Vl} (hl : v.2.2.length ≤ 4194304) : keys_Right.impl v = some (rightE v) := by
  obtain ⟨k, n, s⟩ := v
  simp only at hl
  have hneg := countR_neg s
  have k5 : keys_Right.k5 (decide (countR s < 0)) = some (if validD s = true then 0 else 12) := by
    unfold keys_Right.k5
    by_cases h : validD s = true
    · rw [h]; rw [h] at hneg; simp at hneg; simp; omega
    · have h : validD s = false := by simpa using h
      rw [decide_eq_true (hneg.2 h), h]; rfl
  have k5f : keys_Right.k5 false = some 0 := rfl
  unfold keys_Right.impl keys_Right.k1 keys_Right.k2 keys_Right.k3 keys_Right.k4 keys_inside.impl rightE
  simp only
  by_cases h0 : k = 0
  · subst h0
    by_cases h1 : n = 0 <;> by_cases h2 : s = [] <;> simp [h1, h2, Dy.isStr, k5f]
  by_cases h1 : k = 1
  · subst h1
    by_cases h2 : s = [] <;> simp [h2, Dy.isStr, k5f]
  by_cases h2 : k = 2
  · subst h2
    by_cases h3 : n = 0 <;> simp [h3, Dy.isStr, Dy.asStr, Runes_is hl, k5]
  by_cases h3 : k = 3
  · subst h3
    by_cases h4 : s = [] <;> by_cases h5 : n = 0 <;> by_cases h6 : n = 1 <;> simp [h4, h5, h6, Dy.isStr, k5f] <;> omega
  · by_cases h4 : k < 0 <;> by_cases h5 : 3 < k <;> simp [h0, h1, h2, h3, h4, h5] <;> omega
/-! ### Runes -/
def OkR (c : Int) : Prop := (0 ≤ c ∧ c < 55296) ∨ (57344 ≤ c ∧ c ≤ 1114111)
def lowR (c : Int) : Int := if (65 ≤ c ∧ c ≤ 90) ∨ (192 ≤ c ∧ c ≤ 222 ∧ c ≠ 215) ∨ (913 ≤ c ∧ c ≤ 937 ∧ c ≠ 930) ∨ (1040 ≤ c ∧ c ≤ 1071) then c + 32 else c
theorem raised_is {c : Int} (h : 0 ≤ c ∧ c ≤ 1114111) : keys_raised.impl c = some (lowR c) := by
  have w : IntKind.i32.wrap (c + 32) = c + 32 := i32_id (by omega)
  have k1t : keys_raised.k1 c true = some (c + 32) := by unfold keys_raised.k1; rw [w]; rfl
  have k1f : keys_raised.k1 c false = some c := rfl
  have k1 : ∀ b : Bool, keys_raised.k1 c b = some (if b = true then c + 32 else c) := fun b => by cases b; exact k1f; exact k1t
  have k4 : ∀ b : Bool, keys_raised.k4 c b = some (if b = true ∨ (1040 ≤ c ∧ c ≤ 1071) then c + 32 else c) := fun b => by
    unfold keys_raised.k4
    cases b with
    | true => simp [k1]
    | false => by_cases g : 1040 ≤ c <;> by_cases g' : c ≤ 1071 <;> simp [k1, g, g']
  have k3 : ∀ b : Bool, keys_raised.k3 c b = some (if b = true ∨ (913 ≤ c ∧ c ≤ 937 ∧ c ≠ 930) ∨ (1040 ≤ c ∧ c ≤ 1071) then c + 32 else c) := fun b => by
    unfold keys_raised.k3
    cases b with
    | true => simp [k1]
    | false => by_cases g : 913 ≤ c <;> by_cases g' : c ≤ 937 <;> simp [k4, g, g']
  have k2 : ∀ b : Bool, keys_raised.k2 c b = some (if b = true ∨ (192 ≤ c ∧ c ≤ 222 ∧ c ≠ 215) ∨ (913 ≤ c ∧ c ≤ 937 ∧ c ≠ 930) ∨ (1040 ≤ c ∧ c ≤ 1071) then c + 32 else c) := fun b => by
    unfold keys_raised.k2
    cases b with
    | true => simp [k1]
    | false => by_cases g : 192 ≤ c <;> by_cases g' : c ≤ 222 <;> simp [k3, g, g']
  unfold keys_raised.impl lowR
  by_cases g : 65 ≤ c <;> by_cases g' : c ≤ 90 <;> simp [k2, g, g']
theorem mask_i32 {n : Nat} (h : n < 2147483648) : bitsOf .and .i32 (n : Int) 63 = ((n % 64 : Nat) : Int) := by
  show IntKind.i32.wrap ((BitVec.ofInt 32 (n : Int) &&& BitVec.ofInt 32 63).toNat : Nat) = _
  rw [BitVec.toNat_and, BitVec.ofInt_natCast, BitVec.toNat_ofNat, Nat.mod_eq_of_lt (by omega), show (BitVec.ofInt 32 63).toNat = 2 ^ 6 - 1 by decide, Nat.and_two_pow_sub_one_eq_mod, i32_id (by omega)]
theorem shr_i32 (n : Nat) (k : Nat) (h : k ≤ 32) : shrI .i32 (n : Int) (k : Int) = ((n >>> k : Nat) : Int) := by
  rw [shr_nat .i32 n (by simpa [IntKind.bits] using h)]; simp
theorem or192 {x : Nat} (h : x < 32) : u8 (bitsOf .or .u8 192 (x : Int)) = UInt8.ofNat (192 + x) := by
  have : ∀ y : Fin 32, u8 (bitsOf .or .u8 192 ((y.val : Nat) : Int)) = UInt8.ofNat (192 + y.val) := by decide +kernel
  exact this ⟨x, h⟩
theorem or224 {x : Nat} (h : x < 16) : u8 (bitsOf .or .u8 224 (x : Int)) = UInt8.ofNat (224 + x) := by
  have : ∀ y : Fin 16, u8 (bitsOf .or .u8 224 ((y.val : Nat) : Int)) = UInt8.ofNat (224 + y.val) := by decide +kernel
  exact this ⟨x, h⟩
theorem or240 {x : Nat} (h : x < 8) : u8 (bitsOf .or .u8 240 (x : Int)) = UInt8.ofNat (240 + x) := by
  have : ∀ y : Fin 8, u8 (bitsOf .or .u8 240 ((y.val : Nat) : Int)) = UInt8.ofNat (240 + y.val) := by decide +kernel
  exact this ⟨x, h⟩
theorem or128 {x : Nat} (h : x < 64) : u8 (bitsOf .or .u8 128 (x : Int)) = UInt8.ofNat (128 + x) := by
  have : ∀ y : Fin 64, u8 (bitsOf .or .u8 128 ((y.val : Nat) : Int)) = UInt8.ofNat (128 + y.val) := by decide +kernel
  exact this ⟨x, h⟩
theorem encode1 {c : Nat} (h : c < 128) : encodeRune (c : Int) = [UInt8.ofNat c] := by
  unfold encodeRune; rw [encodeRuneZ_one (by omega) (by omega)]; simp
theorem encode2 {c : Nat} (h0 : ¬ c < 128) (h : c < 2048) : encodeRune (c : Int) = [UInt8.ofNat (192 + c / 64), UInt8.ofNat (128 + c % 64)] := by
  unfold encodeRune; rw [encodeRuneZ_two (by omega) (by omega)]
  simp only [List.map_cons, List.map_nil]
  rw [u8_of_int (192 + (c : Int) / 64) (192 + c / 64) (by omega), u8_of_int (128 + (c : Int) % 64) (128 + c % 64) (by omega)]
theorem encode3 {c : Nat} (h0 : ¬ c < 2048) (h : c < 65536) (hs : c < 55296 ∨ 57344 ≤ c) : encodeRune (c : Int) = [UInt8.ofNat (224 + c / 4096), UInt8.ofNat (128 + c / 64 % 64), UInt8.ofNat (128 + c % 64)] := by
  unfold encodeRune; rw [encodeRuneZ_three (by omega)]
  simp only [List.map_cons, List.map_nil]
  rw [u8_of_int (224 + (c : Int) / 4096) (224 + c / 4096) (by omega), u8_of_int (128 + (c : Int) / 64 % 64) (128 + c / 64 % 64) (by omega), u8_of_int (128 + (c : Int) % 64) (128 + c % 64) (by omega)]
theorem encode4 {c : Nat} (h0 : ¬ c < 65536) (h : c ≤ 1114111) : encodeRune (c : Int) = [UInt8.ofNat (240 + c / 262144), UInt8.ofNat (128 + c / 4096 % 64), UInt8.ofNat (128 + c / 64 % 64), UInt8.ofNat (128 + c % 64)] := by
  unfold encodeRune; rw [encodeRuneZ_four (by omega) (by omega)]
  simp only [List.map_cons, List.map_nil]
  rw [u8_of_int (240 + (c : Int) / 262144) (240 + c / 262144) (by omega), u8_of_int (128 + (c : Int) / 4096 % 64) (128 + c / 4096 % 64) (by omega), u8_of_int (128 + (c : Int) / 64 % 64) (128 + c / 64 % 64) (by omega), u8_of_int (128 + (c : Int) % 64) (128 + c % 64) (by omega)]
theorem ref_enc1 {l : List Int} {acc : List UInt8} {i c : Nat} (hi : i < l.length) (hl : l.length ≤ 4194304) (ha : acc.length ≤ 16777216) (hc : l.getD i default = (c : Int)) (hok : OkR (c : Int)) :
    ref2_Encode.st1 l (acc, (i : Int)) = some (.inl (acc ++ encodeRune (c : Int), ((i + 1 : Nat) : Int))) := by
  have w : IntKind.i64.wrap ((i : Int) + 1) = ((i + 1 : Nat) : Int) := by rw [i64_id (by omega)]; omega
  have hc2 : c ≤ 1114111 := by unfold OkR at hok; omega
  have s6 : shrI .i32 (c : Int) 6 = ((c / 64 : Nat) : Int) := (shr_i32 c 6 (by decide)).trans (by rw [Nat.shiftRight_eq_div_pow])
  have s12 : shrI .i32 (c : Int) 12 = ((c / 4096 : Nat) : Int) := (shr_i32 c 12 (by decide)).trans (by rw [Nat.shiftRight_eq_div_pow])
  have s18 : shrI .i32 (c : Int) 18 = ((c / 262144 : Nat) : Int) := (shr_i32 c 18 (by decide)).trans (by rw [Nat.shiftRight_eq_div_pow])
  have m0 := mask_i32 (n := c) (by omega)
  have m6 := mask_i32 (n := c / 64) (by omega)
  have m12 := mask_i32 (n := c / 4096) (by omega)
  unfold ref2_Encode.st1 ref2_Encode.k2
  simp only [Int.toNat_natCast, hc, s6, s12, s18, m0, m6, m12, w, List.length_cons, List.length_nil]
  rw [ite_dt (by omega), chk_pos (by omega)]
  have u : ∀ x : Nat, x < 256 → IntKind.u8.wrap (x : Int) = (x : Int) := fun x hx => u8_id (by omega)
  by_cases h1 : c < 128
  · rw [ite_dt (by omega), chk_pos (by omega), encode1 h1, u c (by omega), u8_nat]
  rw [ite_df (by omega)]
  by_cases h2 : c < 2048
  · rw [ite_dt (by omega), chk_pos (by omega), encode2 h1 h2, u _ (by omega), u _ (by omega), or192 (by omega), or128 (by omega)]
  rw [ite_df (by omega)]
  by_cases h3 : c < 65536
  · rw [ite_dt (by omega), chk_pos (by omega), encode3 h2 h3 (by unfold OkR at hok; omega), u _ (by omega), u _ (by omega), u _ (by omega), or224 (by omega), or128 (by omega), or128 (by omega)]
  rw [ite_df (by omega), chk_pos (by omega), encode4 h3 hc2, u _ (by omega), u _ (by omega), u _ (by omega), u _ (by omega), or240 (by omega), or128 (by omega), or128 (by omega), or128 (by omega)]
theorem ofRunes_le (l : List Int) : (ofRunes l).length ≤ 4 * l.length := by
  induction l with
  | nil => simp [ofRunes]
  | cons c l ih =>
    have : (Utf8.encode c).data.toList.length ≤ 4 := by
      have h := encode_size_le c
      rw [Array.length_toList]; exact h
    unfold ofRunes at ih ⊢
    rw [List.flatMap_cons, List.length_append, List.length_cons]; omega
theorem RefEncode_is {l : List Int} (hl : l.length ≤ 4194304) (hok : ∀ c ∈ l, OkR c) : ref2_Encode.impl l = some (ofRunes l) := by
  unfold ref2_Encode.impl
  have := loop_up (step := ref2_Encode.st1 l) (r := ofRunes l) (fun i => (ofRunes (l.take i), (i : Int))) l.length (fun i hi => by
    have hm : l[i] ∈ l := List.getElem_mem hi
    obtain ⟨c, hc⟩ : ∃ c : Nat, l[i] = (c : Int) := ⟨l[i].toNat, by have := hok _ hm; unfold OkR at this; omega⟩
    have hle := ofRunes_le (l.take i)
    rw [List.length_take] at hle
    rw [ref_enc1 (c := c) hi hl (by omega) (by rw [List.getD_eq_getElem?_getD, List.getElem?_eq_getElem hi, hc]; rfl) (hc ▸ hok _ hm), ← List.take_append_getElem hi]
    unfold ofRunes
    rw [List.flatMap_append, List.flatMap_cons, List.flatMap_nil, List.append_nil, encode_is, hc]) (by
    unfold ref2_Encode.st1
    rw [ite_df (by simp), List.take_length])
  erw [this]; rfl
/-- A text with its great letters as small ones. -/
def foldT (l : List UInt8) : List UInt8 := if validD l = true then ofRunes ((runesOf l).map lowR) else []
theorem foldl_snoc {f : Int → Int} : ∀ (rs acc : List Int), rs.foldl (fun a c => a ++ [f c]) acc = acc ++ rs.map f
  | [], acc => by simp
  | r :: rs, acc => by rw [List.foldl_cons, foldl_snoc rs]; simp
theorem Fold_is {l : List UInt8} (hl : l.length ≤ 4194304) : keys_Fold.impl l = some (foldT l) := by
  unfold keys_Fold.impl foldT
  rw [Runes_is hl]
  simp only [Option.bind_some]
  have hneg := countR_neg l
  by_cases hv : validD l = true
  · rw [ite_df (by rw [hneg, hv]; simp), if_pos hv]
    have := loop_runes (step := keys_Fold.st1 l) (l := l) (f := fun a c => a ++ [lowR c]) (Q := fun a p => a.length ≤ p) (last := fun a => a) (fun a p h hp => by
        have hw := decodeL_width (l.drop p)
        have hr := decodeL_rune (l.drop p)
        rw [← runeAt_drop] at hw hr
        refine ⟨by simp; omega, ?_⟩
        unfold keys_Fold.st1
        rw [ite_dt hp, raised_is (by simp only; omega)]
        simp only [Option.bind_some]
        rw [chk_pos (by simp; omega)]) (fun a p h hp => by
        unfold keys_Fold.st1
        rw [ite_df hp]) [] (by simp)
    rw [this, foldl_snoc]
    rfl
  · have hv : validD l = false := by simpa using hv
    rw [ite_dt (hneg.2 hv), hv]; rfl
theorem okR_decode (m : List UInt8) : OkR ((decodeL m).1 : Int) := by
  have hb := byteD_lt m 0
  rw [decodeL_N, refN_is _ _ _ _ _ hb]
  unfold refN OkR
  repeat' split
  all_goals (simp only; omega)
theorem runesOf_ok (l : List UInt8) : ∀ c ∈ runesOf l, OkR c := by
  have key : ∀ n (l : List UInt8), l.length < n → ∀ c ∈ runesOf l, OkR c := by
    intro n
    induction n with
    | zero => intro l h; omega
    | succ n ih =>
      intro l h c hc
      by_cases h0 : l = []
      · rw [h0, runesOf_nil] at hc; cases hc
      · have h1 := decodeL_width l
        have h2 : 0 < l.length := List.length_pos_iff.2 h0
        rw [runesOf_cons h0] at hc
        rcases List.mem_cons.1 hc with rfl | hc
        · exact okR_decode l
        · exact ih _ (by rw [List.length_drop]; omega) c hc
  exact key _ l (Nat.lt_succ_self _)
theorem lowR_ok {c : Int} (h : OkR c) : OkR (lowR c) := by
  unfold lowR OkR at *
  split <;> omega
theorem ref_fold1 {L : List Int} {i : Nat} {c : Int} (hi : i < L.length) (hl : L.length ≤ 4194304) (hc : L.getD i default = c) (hok : OkR c) : ref2_Fold.st1 (L, (i : Int)) = some (.inl (L.set i (lowR c), ((i + 1 : Nat) : Int))) := by
  have w : IntKind.i64.wrap ((i : Int) + 1) = ((i + 1 : Nat) : Int) := by rw [i64_id (by omega)]; omega
  have hb : 0 ≤ c ∧ c ≤ 1114111 := by unfold OkR at hok; omega
  have same : L.set i c = L := by
    have : L[i] = c := by rw [← hc, List.getD_eq_getElem?_getD, List.getElem?_eq_getElem hi]; rfl
    rw [← this]; exact List.set_getElem_self hi
  have k3 : ∀ b : Bool, ref2_Fold.k3 (L, (i : Int)) b = some (.inl (L.set i (if b = true then c + 32 else c), ((i + 1 : Nat) : Int))) := by
    intro b
    unfold ref2_Fold.k3 ref2_Fold.k2
    simp only [Int.toNat_natCast, hc, w]
    rw [i32_id (n := c + 32) (by omega), chk_pos (by omega)]
    cases b with
    | true => rfl
    | false => rw [if_neg (by simp), if_neg (by simp), same]
  unfold ref2_Fold.st1
  simp only [Int.toNat_natCast, hc, k3]
  rw [ite_dt (by omega), chk_pos (by omega)]
  unfold lowR
  by_cases g1 : 65 ≤ c <;> by_cases g2 : c ≤ 90 <;> by_cases g3 : 192 ≤ c <;> by_cases g4 : c ≤ 222 <;> by_cases g5 : c = 215 <;> by_cases g6 : 913 ≤ c <;> by_cases g7 : c ≤ 937 <;> by_cases g8 : c = 930 <;> by_cases g9 : 1040 ≤ c <;> by_cases g10 : c ≤ 1071 <;> first | (exfalso; omega) | (simp [g1, g2, g3, g4, g5, g6, g7, g8, g9, g10]; done) | skip
  all_goals (simp_all)
theorem set_map {f : Int → Int} (rs : List Int) {i : Nat} (h : i < rs.length) : ((rs.take i).map f ++ rs.drop i).set i (f rs[i]) = (rs.take (i + 1)).map f ++ rs.drop (i + 1) := by
  rw [List.set_append_right _ _ (by simp; omega), show i - ((rs.take i).map f).length = 0 by simp; omega, List.drop_eq_getElem_cons h, List.set_cons_zero, ← List.take_append_getElem h, List.map_append, List.append_assoc]
  rfl
theorem RefFold_is {l : List UInt8} (hl : l.length ≤ 4194304) : ref2_Fold.impl l = some (foldT l) := by
  unfold ref2_Fold.impl foldT
  rw [RefDecode_is hl]
  simp only [Option.bind_some]
  by_cases hv : validD l = true
  · rw [if_pos hv, if_pos hv]
    have hle := runesOf_le l
    have hok := runesOf_ok l
    generalize runesOf l = rs at hle hok
    have := loop_up (step := ref2_Fold.st1) (r := rs.map lowR) (fun i => ((rs.take i).map lowR ++ rs.drop i, (i : Int))) rs.length (fun i hi => by
      have hm : rs[i] ∈ rs := List.getElem_mem hi
      rw [ref_fold1 (c := rs[i]) (by simp; omega) (by simp; omega) (by
        rw [List.getD_eq_getElem?_getD, List.getElem?_append_right (by simp; omega), show i - ((rs.take i).map lowR).length = 0 by simp; omega, List.getElem?_drop, Nat.add_zero, List.getElem?_eq_getElem hi]; rfl) (hok _ hm), set_map rs hi]) (by
      unfold ref2_Fold.st1
      rw [ite_df (by simp), List.take_length, List.drop_length, List.append_nil])
    simp only [List.take_zero, List.map_nil, List.nil_append, List.drop_zero] at this
    rw [if_neg (by simp)]
    erw [this]
    simp only [Option.bind_some, ref2_Fold.k1]
    rw [RefEncode_is (by simp; omega) (fun c hc => by
      obtain ⟨d, hd, rfl⟩ := List.mem_map.1 hc
      exact lowR_ok (hok d hd))]
    rfl
  · rw [if_neg hv, if_neg hv]; rfl
theorem getD_el {α : Type} [Inhabited α] {l : List α} {i : Nat} (h : i < l.length) : l.getD i default = l[i] := by rw [List.getD_eq_getElem?_getD, List.getElem?_eq_getElem h]; rfl
theorem RefSame_is {l m : List Vl} (hl : l.length ≤ 4194304) : ref2_Same.impl l m = some (decide (l = m)) := by
  unfold ref2_Same.impl
  by_cases hlen : l.length = m.length
  · rw [ite_nt (by omega)]
    have key : ∀ n (i : Nat), l.length - i < n → i ≤ l.length → ∃ r, loop (ref2_Same.st1 l m) (i : Int) = some r ∧ (match r with | .inl v => some v | .inr v => ref2_Same.k1 v) = some (decide (l.drop i = m.drop i)) := by
      intro n
      induction n with
      | zero => intro i h; omega
      | succ n ih =>
        intro i h hi
        by_cases g : i < l.length
        · have w : IntKind.i64.wrap ((i : Int) + 1) = ((i + 1 : Nat) : Int) := by rw [i64_id (by omega)]; omega
          have e1 : l.drop i = l.getD i default :: l.drop (i + 1) := by rw [List.drop_eq_getElem_cons g, getD_el g]
          have e2 : m.drop i = m.getD i default :: m.drop (i + 1) := by rw [List.drop_eq_getElem_cons (by omega), getD_el (by omega)]
          by_cases q : l.getD i default = m.getD i default
          · have st : ref2_Same.st1 l m (i : Int) = some (.inl ((i + 1 : Nat) : Int)) := by
              unfold ref2_Same.st1
              simp only [Int.toNat_natCast, w]
              rw [ite_dt (by omega), chk_pos (by omega), chk_pos (by omega), ite_nt q]
            obtain ⟨r, r1, r2⟩ := ih (i + 1) (by omega) (by omega)
            refine ⟨r, by rw [loop_more st]; exact r1, ?_⟩
            rw [r2, e1, e2, q]
            simp
          · have st : ref2_Same.st1 l m (i : Int) = some (.inr (.inl false)) := by
              unfold ref2_Same.st1
              simp only [Int.toNat_natCast]
              rw [ite_dt (by omega), chk_pos (by omega), chk_pos (by omega), ite_nf q]
            refine ⟨_, loop_last st, ?_⟩
            rw [e1, e2, decide_eq_false (fun e => q (List.cons.inj e).1)]
        · refine ⟨.inr (), loop_last ?_, ?_⟩
          · unfold ref2_Same.st1
            rw [ite_df (by omega)]
          · rw [List.drop_of_length_le (by omega), List.drop_of_length_le (by omega)]; rfl
    obtain ⟨r, r1, r2⟩ := key _ 0 (Nat.lt_succ_self _) (Nat.zero_le _)
    erw [r1]
    exact r2
  · rw [ite_nf (by omega)]
    have : l ≠ m := fun e => hlen (by rw [e])
    simp [this]
end Go.Proofs.YtdfbknkgmhddcaaDoor
