/- Numbers as bytes: what Uint writes and ReadUint reads, in plain terms. -/
import Derived.Test.YtdojooblfemmnaaDoorNums
import Derived.Test.YtdojooblfemmnaaDoorWire
set_option linter.unusedVariables false
set_option linter.unusedSimpArgs false
namespace Go.Proofs.YtdojooblfemmnaaDoor
open Go Go.RowKit
/-! ### The bytes of a number -/
/-- The groups ahead of the last one. -/
def hi (n : Nat) : List UInt8 := if h : n = 0 then [] else hi (n / 128) ++ [UInt8.ofNat (128 + n % 128)]
termination_by n
decreasing_by omega
def uint (n : Nat) : List UInt8 := hi (n / 128) ++ [UInt8.ofNat (n % 128)]
theorem hi_zero : hi 0 = [] := by rw [hi]; rfl
theorem hi_pos {n : Nat} (h : 0 < n) : hi n = hi (n / 128) ++ [UInt8.ofNat (128 + n % 128)] := by rw [hi, dif_neg (by omega)]
theorem hi_len {n : Nat} (k : Nat) (h : n < 128 ^ k) : (hi n).length ≤ k := by
  induction k generalizing n with
  | zero => rw [show n = 0 by simpa using h, hi_zero]; simp
  | succ k ih =>
    by_cases h0 : n = 0
    · rw [h0, hi_zero]; simp
    · rw [hi_pos (by omega), List.length_append]
      have := ih (n := n / 128) (Nat.div_lt_of_lt_mul (by rw [Nat.pow_succ, Nat.mul_comm] at h; exact h))
      simp; omega
theorem hi_get {n i : Nat} (h : i < (hi n).length) : (hi n)[i] = UInt8.ofNat (128 + n / 128 ^ ((hi n).length - 1 - i) % 128) := by
  induction n using Nat.strongRecOn generalizing i with
  | ind n ih =>
    by_cases h0 : n = 0
    · subst h0; simp [hi_zero] at h
    · have e := hi_pos (n := n) (by omega)
      have hl : (hi n).length = (hi (n / 128)).length + 1 := by rw [e]; simp
      by_cases hi' : i < (hi (n / 128)).length
      · have := ih (n / 128) (by omega) hi'
        rw [hl]
        simp only [e]
        rw [List.getElem_append_left hi', this, Nat.div_div_eq_div_mul, ← Nat.pow_succ']
        congr 5; omega
      · have hii : i = (hi (n / 128)).length := by omega
        rw [hl]
        simp only [e]
        rw [List.getElem_append_right (by omega)]
        simp [hii]
theorem uint_len (n : Nat) : (uint n).length = (hi (n / 128)).length + 1 := by simp [uint]
theorem uint_pos (n : Nat) : 0 < (uint n).length := by rw [uint_len]; omega
theorem uint_le {n : Nat} (h : n < 9223372036854775808) : (uint n).length ≤ 9 := by
  rw [uint_len]
  have := hi_len (n := n / 128) 8 (by omega)
  omega
/-- The byte at i. -/
def dig (g n i : Nat) : UInt8 := if i + 1 < g then UInt8.ofNat (128 + n / 128 ^ (g - 1 - i) % 128) else UInt8.ofNat (n / 128 ^ (g - 1 - i) % 128)
theorem uint_get {n i : Nat} (h : i < (uint n).length) : (uint n)[i] = dig (uint n).length n i := by
  have hl := uint_len n
  unfold dig
  by_cases h1 : i + 1 < (uint n).length
  · rw [if_pos h1]
    have hi' : i < (hi (n / 128)).length := by omega
    simp only [uint]
    rw [List.getElem_append_left hi', hi_get hi', Nat.div_div_eq_div_mul, ← Nat.pow_succ']
    congr 5
    simp only [List.length_append, List.length_cons, List.length_nil]
    omega
  · rw [if_neg h1]
    have hii : i = (hi (n / 128)).length := by omega
    simp only [uint]
    rw [List.getElem_append_right (by omega)]
    simp [hii]
/-! ### What Uint writes -/
theorem fill_set {α : Type} (u : List α) (z : α) {i : Nat} (h : i < u.length) : (u.take i ++ List.replicate (u.length - i) z).set i u[i] = u.take (i + 1) ++ List.replicate (u.length - (i + 1)) z := by
  rw [List.set_append_right _ _ (by simp; omega), show i - (u.take i).length = 0 by simp; omega, show u.length - i = (u.length - (i + 1)) + 1 by omega, List.replicate_succ, List.set_cons_zero, ← List.take_append_getElem h, List.append_assoc]
  rfl
theorem i64_shr (n k : Nat) (h : k ≤ 64) : shrI .i64 (n : Int) (k : Int) = ((n >>> k : Nat) : Int) := by
  rw [shr_nat .i64 n (by simpa [IntKind.bits] using h)]; simp
theorem i64_and127 (n : Nat) : bitsOf .and .i64 (n : Int) 127 = ((n % 128 : Nat) : Int) := by
  rw [i64_mask 7 (by decide) _ 127 (by decide), Int.natCast_emod]; rfl
theorem u8_or128 {x : Nat} (h : x < 128) : bitsOf .or .u8 (x : Int) 128 = ((128 + x : Nat) : Int) := by
  have : ∀ y : Fin 128, bitsOf .or .u8 ((y.val : Nat) : Int) 128 = ((128 + y.val : Nat) : Int) := by decide +kernel
  exact this ⟨x, h⟩
theorem groups (m c : Nat) (h : c + (hi m).length ≤ 9223372036854775807) (hm : m < 9223372036854775808) : loop wire_Uint.st2 ((c : Int), (m : Int)) = some ((c + (hi m).length : Nat) : Int) := by
  induction m using Nat.strongRecOn generalizing c with
  | ind m ih =>
    by_cases h0 : m = 0
    · subst h0; rw [hi_zero]; exact loop_last (by simp [wire_Uint.st2])
    · have e := hi_pos (n := m) (by omega)
      have hl : (hi m).length = (hi (m / 128)).length + 1 := by rw [e]; simp
      rw [loop_more (s' := (((c + 1 : Nat) : Int), ((m / 128 : Nat) : Int))) ?_, ih (m / 128) (by omega) (c + 1) (by omega) (by omega), hl]
      · congr 2; omega
      · unfold wire_Uint.st2
        rw [ite_dt (by simp; omega)]
        simp only [show shrI .i64 (m : Int) 7 = ((m / 128 : Nat) : Int) from by rw [show (7 : Int) = ((7 : Nat) : Int) from rfl, i64_shr m 7 (by decide), Nat.shiftRight_eq_div_pow], i64_nat (n := c + 1) (by omega), show ((c : Int) + 1) = ((c + 1 : Nat) : Int) by omega]
theorem uint_round {g i n : Nat} {l : List UInt8} (hl : l.length = g) (hi : i < g) (hg : g ≤ 9) (hn : n < 9223372036854775808) :
    wire_Uint.st1 (g : Int) (n : Int) (l, (i : Int)) = some (.inl (l.set i (dig g n i), ((i + 1 : Nat) : Int))) := by
  have w1 : IntKind.i64.wrap ((g : Int) - 1) = ((g - 1 : Nat) : Int) := by rw [i64_id (by omega)]; omega
  have w2 : IntKind.i64.wrap (((g - 1 : Nat) : Int) - (i : Int)) = ((g - 1 - i : Nat) : Int) := by rw [i64_id (by omega)]; omega
  have w3 : IntKind.i64.wrap (7 * ((g - 1 - i : Nat) : Int)) = ((7 * (g - 1 - i) : Nat) : Int) := by rw [i64_id (by omega)]; omega
  have w4 : IntKind.i64.wrap ((i : Int) + 1) = ((i + 1 : Nat) : Int) := by rw [i64_id (by omega)]; omega
  have hp : n >>> (7 * (g - 1 - i)) = n / 128 ^ (g - 1 - i) := by rw [Nat.shiftRight_eq_div_pow, Nat.pow_mul]
  have hlt : n / 128 ^ (g - 1 - i) % 128 < 128 := Nat.mod_lt _ (by decide)
  have w5 : u8 (IntKind.u8.wrap (bitsOf .and .i64 (shrI .i64 (n : Int) ((7 * (g - 1 - i) : Nat) : Int)) 127)) = UInt8.ofNat (n / 128 ^ (g - 1 - i) % 128) := by
    rw [i64_shr _ _ (by omega), hp, i64_and127, u8_id (by omega), u8_nat]
  unfold wire_Uint.st1
  simp only [w1, w2, w3, w4, w5]
  rw [ite_dt (by omega), chk_pos (by omega), chk_pos (by omega)]
  by_cases h : i + 1 < g
  · rw [ite_dt (by omega), chk_pos (by simp only [List.length_set]; omega), chk_pos (by simp only [List.length_set]; omega)]
    congr 3
    simp only [Int.toNat_natCast, List.set_set]
    congr 1
    rw [List.getD_eq_getElem?_getD, List.getElem?_set_self (by omega)]
    simp only [Option.getD_some, UInt8.toNat_ofNat']
    rw [Nat.mod_eq_of_lt (by omega), u8_or128 hlt, u8_nat, dig, if_pos h]
  · rw [ite_df (by omega), dig, if_neg h]
    simp
theorem Uint_is {n : Nat} (hn : n < 9223372036854775808) : wire_Uint.impl (n : Int) = some (uint n) := by
  have hg := uint_le hn
  have hl := uint_len n
  have hp := uint_pos n
  unfold wire_Uint.impl
  rw [ite_df (by omega), show shrI .i64 (n : Int) 7 = ((n / 128 : Nat) : Int) from by rw [show (7 : Int) = ((7 : Nat) : Int) from rfl, i64_shr n 7 (by decide), Nat.shiftRight_eq_div_pow],
    show ((1 : Int), ((n / 128 : Nat) : Int)) = (((1 : Nat) : Int), ((n / 128 : Nat) : Int)) from rfl, groups _ _ (by omega) (by omega), show 1 + (hi (n / 128)).length = (uint n).length by omega]
  simp only [Option.bind_some]
  unfold wire_Uint.k1
  rw [chk_pos (by omega)]
  simp only [Int.toNat_natCast]
  have := loop_up (step := wire_Uint.st1 ((uint n).length : Int) (n : Int)) (r := uint n) (fun i => ((uint n).take i ++ List.replicate ((uint n).length - i) (0 : UInt8), (i : Int))) (uint n).length (fun i hi => by
      rw [uint_round (by simp; omega) hi hg hn, ← uint_get hi, fill_set _ _ hi]) (by
      unfold wire_Uint.st1
      rw [ite_df (by simp)]
      simp)
  simp only [List.take_zero, List.nil_append, Nat.sub_zero, Int.ofNat_zero] at this
  erw [this]
  rfl
theorem Uint_neg {n : Int} (h : n < 0) : wire_Uint.impl n = some [] := by unfold wire_Uint.impl; rw [ite_dt h]
theorem Bytes_is {s : List UInt8} (hs : s.length ≤ 140737488355300) : wire_Bytes.impl s = some (uint s.length ++ s) := by
  unfold wire_Bytes.impl
  rw [Uint_is (by omega)]
  have := uint_le (n := s.length) (by omega)
  simp only [Option.bind_some]
  rw [chk_pos (by omega)]
end Go.Proofs.YtdojooblfemmnaaDoor
