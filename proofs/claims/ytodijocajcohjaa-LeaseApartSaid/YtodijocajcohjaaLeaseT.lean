/- told and LeaseClocks in plain terms. -/
import Derived.Test.YtodijocajcohjaaLeaseC
import Derived.Test.YtodijocajcohjaaLeaseL
set_option linter.unusedVariables false
set_option linter.unusedSimpArgs false
namespace Go.Proofs.Ytodijocajcohjaa
open Go Go.RowKit
theorem told_is : law19_told.impl = some true := by
  have a := Now_is LInv.nil (by omega)
  obtain ⟨l1, g1, i1⟩ := Grant_is LInv.nil (by omega) (s := 2) (d := 10) (g := 5) (by omega) (by omega) (by omega)
  rw [show mayL (-1, 0, 0) ((2 : Nat) : Int) = true by decide] at g1 i1
  simp only [if_true] at i1
  obtain ⟨l2, g2, i2⟩ := Grant_is i1 (by omega) (s := 1) (d := 10) (g := 6) (by omega) (by omega) (by omega)
  rw [show mayL (((2 : Nat) : Int), ((10 : Nat) : Int), ((5 : Nat) : Int)) ((1 : Nat) : Int) = false by decide] at g2 i2
  simp only [Bool.false_eq_true, if_false] at i2
  have b := Now_is i2 (by omega)
  obtain ⟨l3, e1, i3⟩ := End_is i2 (by omega) 4
  rw [show endsL (((2 : Nat) : Int), ((10 : Nat) : Int), ((5 : Nat) : Int)) 4 = false by decide] at e1 i3
  simp only [Bool.false_eq_true, if_false] at i3
  obtain ⟨l4, e2, i4⟩ := End_is i3 (by omega) 5
  rw [show endsL (((2 : Nat) : Int), ((10 : Nat) : Int), ((5 : Nat) : Int)) 5 = true by decide] at e2 i4
  have s1 : lease_Serves.impl 989 0 1000 10 = some true := by decide
  have s2 : lease_Ended.impl 1010 0 1000 10 = some false := by decide
  have g1 : lease_Grant.impl loc0 tre0 pag0 [] dsk0 [] [] [] [] [] 2 10 5 = some (true, 0, l1) := g1
  have g2 : lease_Grant.impl loc0 tre0 pag0 [] dsk0 [] [] [] [] l1 1 10 6 = some (false, 0, l2) := g2
  have b : lease_Now.impl loc0 tre0 pag0 [] dsk0 [] [] [] [] l2 = some ((2, 10, 5), 0) := b
  unfold law19_told.impl
  rw [New_0]
  simp only [Option.bind_some, loc0, tre0, pag0, dsk0] at a g1 g2 b e1 e2 ⊢
  rw [a]
  simp only [Option.bind_some]
  rw [g1]
  simp only [Option.bind_some]
  rw [g2]
  simp only [Option.bind_some]
  rw [b]
  simp only [Option.bind_some]
  rw [e1]
  simp only [Option.bind_some]
  rw [e2]
  simp [lease_Now_nil0.impl, s1, s2]
theorem clock_is (a : Int) : lease_clock.impl a = some (decide (0 ≤ a) && decide (a ≤ 1099511627776)) := by
  unfold lease_clock.impl
  by_cases h : 0 ≤ a <;> simp [h]
def fineL (n f d r : Int) : Bool := decide ((0 ≤ n ∧ n ≤ 1099511627776) ∧ (0 ≤ f ∧ f ≤ 1099511627776) ∧ (1 ≤ d ∧ d ≤ 1048576) ∧ 0 ≤ r ∧ r ≤ 500)
theorem fine_is (n f d r : Int) : lease_right.impl n f d r = some (fineL n f d r) := by
  unfold lease_right.impl fineL
  simp only [clock_is, Option.bind_some]
  by_cases h1 : 0 ≤ n <;> by_cases h2 : n ≤ 1099511627776 <;> by_cases h3 : 0 ≤ f <;> by_cases h4 : f ≤ 1099511627776 <;> by_cases h5 : 1 ≤ d <;> by_cases h6 : d ≤ 1048576 <;> by_cases h7 : 0 ≤ r <;> simp [h1, h2, h3, h4, h5, h6, h7]
theorem rfine_is (n f d r : Int) : ref19_fine.impl n f d r = some (fineL n f d r) := by
  unfold ref19_fine.impl fineL
  by_cases h1 : 0 ≤ n <;> by_cases h2 : n ≤ 1099511627776 <;> by_cases h3 : 0 ≤ f <;> by_cases h4 : f ≤ 1099511627776 <;> by_cases h5 : 1 ≤ d <;> by_cases h6 : d ≤ 1048576 <;> by_cases h7 : 0 ≤ r <;> simp [h1, h2, h3, h4, h5, h6, h7]
def servesL (n f d r : Int) : Bool := fineL n f d r && decide (f ≤ n) && decide ((n - f) * 1000 < d * (1000 - r))
def endedL (n f d r : Int) : Bool := fineL n f d r && decide (d * (1000 + r) < (n - f) * 1000)
theorem fineL_spec {n f d r : Int} (h : fineL n f d r = true) : (0 ≤ n ∧ n ≤ 1099511627776) ∧ (0 ≤ f ∧ f ≤ 1099511627776) ∧ (1 ≤ d ∧ d ≤ 1048576) ∧ 0 ≤ r ∧ r ≤ 500 := of_decide_eq_true h
theorem mul_b {a b m : Int} (ha : 0 ≤ a ∧ a ≤ 1048576) (hb : 0 ≤ b ∧ b ≤ 1500) : 0 ≤ a * b ∧ a * b ≤ 1572864000 :=
  ⟨Int.mul_nonneg ha.1 hb.1, by have := Int.mul_le_mul ha.2 hb.2 hb.1 (by omega : (0 : Int) ≤ 1048576); omega⟩
theorem Serves_is (n f d r : Int) : lease_Serves.impl n f d r = some (servesL n f d r) ∧ ref19_Serves.impl n f d r = some (servesL n f d r) := by
  unfold lease_Serves.impl ref19_Serves.impl servesL
  rw [fine_is, rfine_is]
  simp only [Option.bind_some]
  cases h : fineL n f d r with
  | false => simp
  | true =>
    obtain ⟨h1, h2, h3, h4⟩ := fineL_spec h
    have hm := mul_b (m := 0) (a := d) (b := 1000 - r) (by omega) (by omega)
    by_cases g : f ≤ n
    · simp only [g, decide_true, if_true, Bool.and_true, Bool.true_and]
      rw [i64_id (n := n - f) (by omega), i64_id (n := (n - f) * 1000) (by omega), i64_id (n := 1000 - r) (by omega), i64_id (n := d * (1000 - r)) (by omega)]
      exact ⟨rfl, rfl⟩
    · simp [g]
theorem Ended_is (n f d r : Int) : lease_Ended.impl n f d r = some (endedL n f d r) ∧ ref19_Ended.impl n f d r = some (endedL n f d r) := by
  unfold lease_Ended.impl ref19_Ended.impl endedL
  rw [fine_is, rfine_is]
  simp only [Option.bind_some]
  cases h : fineL n f d r with
  | false => simp
  | true =>
    obtain ⟨h1, h2, h3, h4⟩ := fineL_spec h
    have hm := mul_b (m := 0) (a := d) (b := 1000 + r) (by omega) (by omega)
    simp only [if_true, Bool.true_and]
    rw [i64_id (n := n - f) (by omega), i64_id (n := (n - f) * 1000) (by omega), i64_id (n := 1000 + r) (by omega), i64_id (n := d * (1000 + r)) (by omega)]
    exact ⟨rfl, rfl⟩
def withinL (l t r : Int) : Bool := decide ((0 ≤ l ∧ l ≤ 1099511627776) ∧ (0 ≤ t ∧ t ≤ 1099511627776) ∧ 0 ≤ r ∧ r ≤ 500) && decide (max (l - t) (t - l) * 1000 ≤ l * r)
theorem Within_is (l t r : Int) : lease_Within.impl l t r = some (withinL l t r) ∧ ref19_Within.impl l t r = some (withinL l t r) := by
  unfold lease_Within.impl ref19_Within.impl withinL lease_Within.k1
  simp only [clock_is, Option.bind_some]
  by_cases h : (0 ≤ l ∧ l ≤ 1099511627776) ∧ (0 ≤ t ∧ t ≤ 1099511627776) ∧ 0 ≤ r ∧ r ≤ 500
  · obtain ⟨⟨h1, h2⟩, ⟨h3, h4⟩, h5, h6⟩ := h
    have hm : 0 ≤ l * r ∧ l * r ≤ 549755813888000 := ⟨Int.mul_nonneg h1 h5, by have := Int.mul_le_mul h2 h6 h5 (by omega : (0 : Int) ≤ 1099511627776); omega⟩
    have w1 : IntKind.i64.wrap (l - t) = l - t := i64_id (by omega)
    have w2 : IntKind.i64.wrap (t - l) = t - l := i64_id (by omega)
    have w3 : IntKind.i64.wrap (max (l - t) (t - l) * 1000) = max (l - t) (t - l) * 1000 := i64_id (by omega)
    have w4 : IntKind.i64.wrap (l * r) = l * r := i64_id (by omega)
    have w5 : max (t - l) (l - t) = max (l - t) (t - l) := Int.max_comm ..
    simp [h1, h2, h3, h4, h5, h6, w1, w2, w3, w4, w5, show ¬ r < 0 by omega, show ¬ 500 < r by omega]
  · by_cases h1 : 0 ≤ l <;> by_cases h2 : l ≤ 1099511627776 <;> by_cases h3 : 0 ≤ t <;> by_cases h4 : t ≤ 1099511627776 <;> by_cases h5 : 0 ≤ r <;> by_cases h6 : r ≤ 500 <;> first | (exfalso; exact h ⟨⟨h1, h2⟩, ⟨h3, h4⟩, h5, h6⟩) | (simp [h1, h2, h3, h4, h5, h6] <;> omega)
theorem clocks_is (a0 a1 a2 a3 a4 : Int) : law19_LeaseClocks.impl a0 a1 a2 a3 a4 = some true := by
  unfold law19_LeaseClocks.impl
  rw [told_is, (Serves_is _ _ _ _).1, (Serves_is _ _ _ _).2, (Ended_is _ _ _ _).1, (Ended_is _ _ _ _).2, (Within_is _ _ _).1, (Within_is _ _ _).2]
  simp
end Go.Proofs.Ytodijocajcohjaa
