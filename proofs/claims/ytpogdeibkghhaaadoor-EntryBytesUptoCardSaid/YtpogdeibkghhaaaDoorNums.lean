/- Whole numbers of the program told in plain terms, and loops told by their rounds. -/
import Derived.Test.YtpogdeibkghhaaaDoorWords
import Derived.Laws.BitsLemmas
set_option linter.unusedVariables false
set_option linter.unusedSimpArgs false
namespace Go.Proofs.YtpogdeibkghhaaaDoor
open Go Go.RowKit
/-! ### Loops -/
section
variable {σ ρ : Type} {step : σ → Option (σ ⊕ ρ)} {r : ρ}
/-- From the k-th round to the n-th. -/
theorem loop_to (S : Nat → σ) {k : Nat} (n : Nat) (hk : k ≤ n) (hs : ∀ i, k ≤ i → i < n → step (S i) = some (.inl (S (i + 1)))) : loop step (S k) = loop step (S n) := by
  induction n with
  | zero => rw [show k = 0 by omega]
  | succ n ih =>
    by_cases h : k = n + 1
    · rw [h]
    · rw [ih (by omega) (fun i h1 h2 => hs i h1 (by omega)), loop_more (hs n (by omega) (by omega))]
/-- A loop of n rounds. -/
theorem loop_up (S : Nat → σ) (n : Nat) (hs : ∀ i, i < n → step (S i) = some (.inl (S (i + 1)))) (he : step (S n) = some (.inr r)) : loop step (S 0) = some r := by
  rw [loop_to S n (Nat.zero_le _) (fun i _ h => hs i h)]; exact loop_last he
end
theorem ite_t {α : Type} {b : Bool} {x y : α} (h : b = true) : (if b = true then x else y) = x := by rw [if_pos h]
theorem ite_f {α : Type} {b : Bool} {x y : α} (h : b = false) : (if b = true then x else y) = y := by rw [h]; rfl
theorem ite_dt {α : Type} {p : Prop} [Decidable p] {x y : α} (h : p) : (if (decide p) = true then x else y) = x := by simp [h]
theorem ite_df {α : Type} {p : Prop} [Decidable p] {x y : α} (h : ¬ p) : (if (decide p) = true then x else y) = y := by simp [h]
theorem ite_nt {α : Type} {p : Prop} [Decidable p] {x y : α} (h : p) : (if (!decide p) = true then x else y) = y := by simp [h]
theorem ite_nf {α : Type} {p : Prop} [Decidable p] {x y : α} (h : ¬ p) : (if (!decide p) = true then x else y) = x := by simp [h]
/-! ### Kinds -/
theorem i64_id {n : Int} (h : -9223372036854775808 ≤ n ∧ n ≤ 9223372036854775807) : IntKind.i64.wrap n = n := by rw [IntKind.wrap_i64]; omega
theorem i64_nat {n : Nat} (h : n ≤ 9223372036854775807) : IntKind.i64.wrap (n : Int) = n := i64_id (by omega)
theorem u8_id {n : Int} (h : 0 ≤ n ∧ n < 256) : IntKind.u8.wrap n = n := by rw [IntKind.wrap_u8]; omega
theorem u64_wrap (n : Int) : IntKind.u64.wrap n = n % 18446744073709551616 := by simp [IntKind.wrap, IntKind.bits, IntKind.signed]
theorem u64_id {n : Int} (h : 0 ≤ n ∧ n < 18446744073709551616) : IntKind.u64.wrap n = n := by rw [u64_wrap]; omega
theorem i64_mask (m : Nat) (hm : m < 63) (n : Int) (q : Int) (hb : (BitVec.ofInt 64 q).toNat = 2 ^ m - 1) : bitsOf .and .i64 n q = n % (2 : Int) ^ m := by
  have key : (BitVec.ofInt 64 n &&& BitVec.ofInt 64 q).toNat = (n % ((2 ^ 64 : Nat) : Int)).toNat % 2 ^ m := by
    rw [BitVec.toNat_and, BitVec.toNat_ofInt, hb, Nat.and_two_pow_sub_one_eq_mod]
  show IntKind.i64.wrap ((BitVec.ofInt 64 n &&& BitVec.ofInt 64 q).toNat : Nat) = _
  rw [key, IntKind.wrap_i64]
  have h64 : (0:Int) ≤ n % ((2 ^ 64 : Nat) : Int) := Int.emod_nonneg _ (by decide)
  have h1 : (((n % ((2 ^ 64 : Nat) : Int)).toNat % 2 ^ m : Nat) : Int) = n % (2 : Int) ^ m := by
    rw [Int.natCast_emod, Int.toNat_of_nonneg h64]
    have : ((2 ^ m : Nat) : Int) = (2 : Int) ^ m := by simp
    rw [this]
    refine Int.emod_emod_of_dvd _ ?_
    have h2 : ((2 ^ 64 : Nat) : Int) = (2 : Int) ^ 64 := by decide
    rw [h2]
    exact ⟨(2 : Int) ^ (64 - m), by rw [← Int.pow_add]; congr 1; omega⟩
  rw [h1]
  have hp : (0 : Int) < (2 : Int) ^ m := Int.pow_pos (by decide)
  have a0 := Int.emod_nonneg n (Int.ne_of_gt hp)
  have a1 := Int.emod_lt_of_pos n hp
  have a2 : (2 : Int) ^ m ≤ (2 : Int) ^ 62 := by
    have := Nat.pow_le_pow_right (n := 2) (by decide) (show m ≤ 62 by omega)
    have h3 : ((2 ^ m : Nat) : Int) ≤ ((2 ^ 62 : Nat) : Int) := by exact_mod_cast this
    simpa using h3
  have a3 : (2 : Int) ^ 62 = 4611686018427387904 := by decide
  omega
theorem shr_nat (k : IntKind) (x : Nat) {y : Int} (h : y.toNat ≤ k.bits) : shrI k (x : Int) y = ((x >>> y.toNat : Nat) : Int) := by
  unfold shrI
  rw [Nat.min_eq_left h, Nat.shiftRight_eq_div_pow, Int.natCast_ediv, Int.fdiv_eq_ediv_of_nonneg _ (by exact Int.pow_nonneg (by decide))]
  simp
/-! ### Words of w bits as whole numbers -/
theorem u8_nat (n : Nat) : u8 (n : Int) = UInt8.ofNat n := rfl
end Go.Proofs.YtpogdeibkghhaaaDoor
