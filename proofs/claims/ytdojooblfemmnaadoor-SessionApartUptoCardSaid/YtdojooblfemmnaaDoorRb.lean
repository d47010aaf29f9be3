/- ReadBytes and ReadUint in plain terms. -/
import Derived.Test.YtdojooblfemmnaaDoorRead
set_option linter.unusedVariables false
set_option linter.unusedSimpArgs false
namespace Go.Proofs.YtdojooblfemmnaaDoor
open Go Go.RowKit
/-! ### ReadBytes -/
theorem rb_err {l : List UInt8} {a m : Int} {x p e : Int} (h : wire_ReadUint.impl l a = some (x, p, e)) (he : ¬ e = 0) : wire_ReadBytes.impl l a m = some ([], 0, e) := by
  unfold wire_ReadBytes.impl
  rw [h]; simp only [Option.bind_some]
  rw [ite_nf he]
theorem rb_neg {l : List UInt8} {a m : Int} {x p : Int} (h : wire_ReadUint.impl l a = some (x, p, 0)) (hm : m < 0) : wire_ReadBytes.impl l a m = some ([], 0, 1) := by
  unfold wire_ReadBytes.impl
  rw [h]; simp only [Option.bind_some]
  rw [ite_nt (by trivial), ite_dt hm]
theorem rb_long {l : List UInt8} {a m : Int} {x p : Int} (h : wire_ReadUint.impl l a = some (x, p, 0)) (hm : 0 ≤ m) (hx : m < x) : wire_ReadBytes.impl l a m = some ([], 0, 3) := by
  unfold wire_ReadBytes.impl
  rw [h]; simp only [Option.bind_some]
  rw [ite_nt (by trivial), ite_df (by omega), ite_dt hx]
theorem rb_short {l : List UInt8} {a m : Int} {x p : Nat} (h : wire_ReadUint.impl l a = some ((x : Int), (p : Int), 0)) (hm : (x : Int) ≤ m) (hl : l.length ≤ 9223372036854775807) (hp : p ≤ l.length) (hx : l.length < p + x) : wire_ReadBytes.impl l a m = some ([], 0, 10) := by
  unfold wire_ReadBytes.impl
  rw [h]; simp only [Option.bind_some]
  rw [ite_nt (by trivial), ite_df (by omega), ite_df (by omega), i64_id (by omega), ite_dt (by omega)]
theorem rb_ok {l : List UInt8} {a m : Int} {x p : Nat} (h : wire_ReadUint.impl l a = some ((x : Int), (p : Int), 0)) (hm : (x : Int) ≤ m) (hl : l.length ≤ 9223372036854775807) (hx : p + x ≤ l.length) (hs : x ≤ 140737488355328) : wire_ReadBytes.impl l a m = some ((l.drop p).take x, ((p + x : Nat) : Int), 0) := by
  unfold wire_ReadBytes.impl
  rw [h]; simp only [Option.bind_some]
  have w : IntKind.i64.wrap ((p : Int) + (x : Int)) = ((p + x : Nat) : Int) := by rw [i64_id (by omega)]; omega
  rw [ite_nt (by trivial), ite_df (by omega), ite_df (by omega), i64_id (n := (l.length : Int) - (p : Int)) (by omega), ite_df (by omega)]
  simp only [w]
  have e : subl l (p : Int) ((p + x : Nat) : Int) = (l.drop p).take x := by
    unfold subl
    rw [Int.toNat_natCast, Int.toNat_natCast, List.drop_take, show p + x - p = x by omega]
  rw [chk_pos (by omega), e, chk_pos (by simp only [List.length_nil, List.length_take]; omega)]
  simp
theorem RU_uint {n : Nat} (pre suf : List UInt8) (hn : n < 9223372036854775808) (hl : (pre ++ (uint n ++ suf)).length ≤ 9223372036854775807) : wire_ReadUint.impl (pre ++ (uint n ++ suf)) (pre.length : Int) = some ((n : Int), ((pre.length + (uint n).length : Nat) : Int), 0) := by
  rw [ReadUint_in hl (by simp), List.drop_left, rdu_uint hn]; rfl
theorem RU_short {n j : Nat} (pre : List UInt8) (hn : n < 9223372036854775808) (hj : j < (uint n).length) (hl : (pre ++ (uint n).take j).length ≤ 9223372036854775807) : wire_ReadUint.impl (pre ++ (uint n).take j) (pre.length : Int) = some (0, 0, 10) := by
  rw [ReadUint_in hl (by simp), List.drop_left, rdu_short hn hj]; rfl
end Go.Proofs.YtdojooblfemmnaaDoor
