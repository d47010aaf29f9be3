/- Masks. -/
import Derived.Laws.Bits128
namespace Go.Proofs.Ytfdogeebkbaadaa
open Go
theorem i64_mask (m : Nat) (hm : m < 63) (n : Int) (q : Int) (hq : q = (2 : Int) ^ m - 1) (hb : (BitVec.ofInt 64 q).toNat = 2 ^ m - 1) : bits .and .i64 n q = n % (2 : Int) ^ m := by
  have key : (BitVec.ofInt 64 n &&& BitVec.ofInt 64 q).toNat = (n % ((2 ^ 64 : Nat) : Int)).toNat % 2 ^ m := by
    rw [BitVec.toNat_and, BitVec.toNat_ofInt, hb, Nat.and_two_pow_sub_one_eq_mod]
  show IntKind.i64.wrap ((BitVec.ofInt 64 n &&& BitVec.ofInt 64 q).toNat : Nat) = _
  rw [key, IntKind.wrap_i64]
  have h64 : (0:Int) ≤ n % ((2 ^ 64 : Nat) : Int) := Int.emod_nonneg _ (by decide)
  have h1 : (((n % ((2 ^ 64 : Nat) : Int)).toNat % 2 ^ m : Nat) : Int) = n % (2 : Int) ^ m := by
    rw [Int.natCast_emod, Int.toNat_of_nonneg h64]
    have : ((2 ^ m : Nat) : Int) = (2 : Int) ^ m := by simp
    rw [this]
    refine Int.emod_emod_of_dvd _ ?_
    have h2 : ((2 ^ 64 : Nat) : Int) = (2 : Int) ^ 64 := by decide
    rw [h2]
    exact ⟨(2 : Int) ^ (64 - m), by rw [← Int.pow_add]; congr 1; omega⟩
  rw [h1]
  have hp : (0 : Int) < (2 : Int) ^ m := Int.pow_pos (by decide)
  have a0 := Int.emod_nonneg n (Int.ne_of_gt hp)
  have a1 := Int.emod_lt_of_pos n hp
  have a2 : (2 : Int) ^ m ≤ (2 : Int) ^ 62 := by
    have := Nat.pow_le_pow_right (n := 2) (by decide) (show m ≤ 62 by omega)
    have h3 : ((2 ^ m : Nat) : Int) ≤ ((2 ^ 62 : Nat) : Int) := by exact_mod_cast this
    simpa using h3
  have a3 : (2 : Int) ^ 62 = 4611686018427387904 := by decide
  omega
theorem i64_and3 (n : Int) : bits .and .i64 n 3 = n % 4 := i64_mask 2 (by decide) n 3 (by decide) (by decide)
theorem i64_and7 (n : Int) : bits .and .i64 n 7 = n % 8 := i64_mask 3 (by decide) n 7 (by decide) (by decide)
theorem i64_and15 (n : Int) : bits .and .i64 n 15 = n % 16 := i64_mask 4 (by decide) n 15 (by decide) (by decide)
theorem i64_and31 (n : Int) : bits .and .i64 n 31 = n % 32 := i64_mask 5 (by decide) n 31 (by decide) (by decide)
theorem i64_and65535 (n : Int) : bits .and .i64 n 65535 = n % 65536 := i64_mask 16 (by decide) n 65535 (by decide) (by decide)
theorem i64_and1 (n : Int) : bits .and .i64 n 1 = n % 2 := i64_mask 1 (by decide) n 1 (by decide) (by decide)
end Go.Proofs.Ytfdogeebkbaadaa
