/- LeaseOnce in plain terms. -/
import Derived.Test.YtodijocajcohjaaLeaseO
import Derived.Test.YtodijocajcohjaaLeaseT
set_option linter.unusedVariables false
set_option linter.unusedSimpArgs false
namespace Go.Proofs.Ytodijocajcohjaa
open Go Go.RowKit
theorem and16 (n : Int) : ∃ q : Nat, q ≤ 65535 ∧ bitsOf .and .i64 n 65535 = (q : Int) := ⟨(n % 65536).toNat, by omega, by rw [i64_mask 16 (by omega) n 65535 (by decide)]; omega⟩
theorem servesL_iff {n f d r : Int} : servesL n f d r = true ↔ fineL n f d r = true ∧ f ≤ n ∧ (n - f) * 1000 < d * (1000 - r) := by
  unfold servesL; simp [and_assoc]
theorem endedL_iff {n f d r : Int} : endedL n f d r = true ↔ fineL n f d r = true ∧ d * (1000 + r) < (n - f) * 1000 := by
  unfold endedL; simp
theorem fineL_mk {n f d r : Int} (h : (0 ≤ n ∧ n ≤ 1099511627776) ∧ (0 ≤ f ∧ f ≤ 1099511627776) ∧ (1 ≤ d ∧ d ≤ 1048576) ∧ 0 ≤ r ∧ r ≤ 500) : fineL n f d r = true := decide_eq_true h
theorem once_is (l0 : List Int) (a1 a2 a3 a4 : Int) : law19_LeaseOnce.impl l0 a1 a2 a3 a4 = some true := by
  have kt : law19_LeaseOnce.k1 l0 a1 a2 a3 a4 true = some true := by unfold law19_LeaseOnce.k1; simp [told_is]
  unfold law19_LeaseOnce.impl
  by_cases h1 : a1 < 0
  · rw [ite_dt h1, kt]
  rw [ite_df h1]
  by_cases h2 : (549755813888 : Int) < a1
  · rw [ite_dt h2, kt]
  rw [ite_df h2]
  by_cases h3 : a2 < 1
  · rw [ite_dt h3, kt]
  rw [ite_df h3]
  by_cases h4 : (524288 : Int) < a2
  · rw [ite_dt h4, kt]
  rw [ite_df h4]
  by_cases h5 : a3 < 0
  · rw [ite_dt h5, kt]
  rw [ite_df h5]
  by_cases h6 : (499 : Int) < a3
  · rw [decide_eq_true h6, kt]
  rw [decide_eq_false h6]
  unfold law19_LeaseOnce.k1
  simp only [Bool.false_eq_true, if_false]
  let I : (Int × Bool × Bool × Int) → Prop := fun s => ∃ i : Nat, s.2.2.2 = (i : Int) ∧ i ≤ 30 ∧ a1 ≤ s.1 ∧ s.1 ≤ a1 + 65535 * i ∧ (s.2.1 = false → a2 * (1000 - a3) ≤ (s.1 - a1) * 1000) ∧ (s.2.2.1 = true → a2 * (1000 + a3) < (s.1 - a1) * 1000)
  have key := loop_inv (step := law19_LeaseOnce.st1 l0 a1 a2 a3 a4) (I := I) (Q := fun r => r = .inr ()) (fun s => 30 - s.2.2.2.toNat) (by
    rintro ⟨now, served, ended, _⟩ ⟨i, rfl, hi, hn1, hn2, hsv, hen⟩
    simp only at hn1 hn2 hsv hen
    have stop : law19_LeaseOnce.k3 (now, served, ended, (i : Int)) l0 a1 a2 a3 a4 false = some (.inr (.inr ())) := by unfold law19_LeaseOnce.k3; simp
    unfold law19_LeaseOnce.st1
    simp only []
    by_cases g : (i : Int) < l0.length
    · rw [ite_dt g]
      by_cases g2 : (i : Int) < 30
      · right
        obtain ⟨q, hq, hqe⟩ := and16 (l0.getD i default)
        obtain ⟨m, hm, hme⟩ := and16 a4
        have hw : IntKind.i64.wrap (now + (q : Int)) = now + q := i64_id (by omega)
        generalize hN : now + (q : Int) = N at hw
        have fN : ∀ d r, 1 ≤ d → d ≤ 1048576 → 0 ≤ r → r ≤ 500 → fineL N a1 d r = true := fun d r b1 b2 b3 b4 => fineL_mk (by omega)
        refine ⟨(N, servesL N a1 a2 a3, endedL N a1 a2 a3, ((i + 1 : Nat) : Int)), ?_, ⟨i + 1, rfl, by omega, by omega, by omega, ?_, ?_⟩, by simp; omega⟩
        · rw [decide_eq_true g2]
          unfold law19_LeaseOnce.k3
          simp only [if_true, Int.toNat_natCast, hqe, hN, hw]
          rw [chk_true (by omega), (Serves_is _ _ _ _).1]
          simp only [Option.bind_some]
          rw [(Ended_is _ _ _ _).1]
          simp only [Option.bind_some]
          have wd : IntKind.i64.wrap (a2 + (m : Int)) = a2 + m := i64_id (by omega)
          have wm : IntKind.i64.wrap (a2 - (m : Int)) = a2 - m := i64_id (by omega)
          have wr : IntKind.i64.wrap (a3 + 1) = a3 + 1 := i64_id (by omega)
          have hP : 0 ≤ 1000 - a3 := by omega
          have hP2 : 0 ≤ 1000 + a3 := by omega
          have p1 : a2 * (1000 - a3) ≤ (a2 + m) * (1000 - a3) := Int.mul_le_mul_of_nonneg_right (by omega) hP
          have p2 : max (a2 - m) 1 * (1000 + a3) ≤ a2 * (1000 + a3) := Int.mul_le_mul_of_nonneg_right (by omega) hP2
          have p3 : a2 * (1000 - (a3 + 1)) ≤ a2 * (1000 - a3) := Int.mul_le_mul_of_nonneg_left (by omega) (by omega)
          have p4 : a2 * (1000 + a3) ≤ a2 * (1000 + (a3 + 1)) := Int.mul_le_mul_of_nonneg_left (by omega) (by omega)
          have p5 : a2 * (1000 - a3) ≤ a2 * (1000 + a3) := Int.mul_le_mul_of_nonneg_left (by omega) (by omega)
          have c1 : servesL N a1 a2 a3 = true → servesL N a1 (a2 + m) a3 = true := fun h => servesL_iff.2 ⟨fN _ _ (by omega) (by omega) (by omega) (by omega), (servesL_iff.1 h).2.1, by have := (servesL_iff.1 h).2.2; omega⟩
          have c2 : endedL N a1 a2 a3 = true → endedL N a1 (max (a2 - m) 1) a3 = true := fun h => endedL_iff.2 ⟨fN _ _ (by omega) (by omega) (by omega) (by omega), by have := (endedL_iff.1 h).2; omega⟩
          have c3 : servesL N a1 a2 (a3 + 1) = true → servesL N a1 a2 a3 = true := fun h => servesL_iff.2 ⟨fN _ _ (by omega) (by omega) (by omega) (by omega), (servesL_iff.1 h).2.1, by have := (servesL_iff.1 h).2.2; omega⟩
          have c4 : endedL N a1 a2 (a3 + 1) = true → endedL N a1 a2 a3 = true := fun h => endedL_iff.2 ⟨fN _ _ (by omega) (by omega) (by omega) (by omega), by have := (endedL_iff.1 h).2; omega⟩
          have c5 : servesL N a1 a2 a3 = true → endedL N a1 a2 a3 = true → False := fun h h' => by have := (servesL_iff.1 h).2.2; have := (endedL_iff.1 h').2; omega
          have c6 : servesL N a1 a2 a3 = true → served = true := fun h => by
            cases hs : served with
            | true => rfl
            | false => have := (servesL_iff.1 h).2.2; have := hsv hs; omega
          have c7 : ended = true → endedL N a1 a2 a3 = true := fun h => endedL_iff.2 ⟨fN _ _ (by omega) (by omega) (by omega) (by omega), by have := hen h; omega⟩
          have hi1 : IntKind.i64.wrap ((i : Int) + 1) = ((i + 1 : Nat) : Int) := i64_id (by omega)
          have f6 : law19_LeaseOnce.k6 (now, served, ended, (i : Int)) l0 (servesL N a1 a2 a3) (endedL N a1 a2 a3) false = some (.inl (N, servesL N a1 a2 a3, endedL N a1 a2 a3, ((i + 1 : Nat) : Int))) := by
            unfold law19_LeaseOnce.k6
            simp only [Bool.false_eq_true, if_false, Int.toNat_natCast, hqe, hN, hw, hi1]
          have f5 : law19_LeaseOnce.k5 (now, served, ended, (i : Int)) l0 a1 a2 a3 (servesL N a1 a2 a3) (endedL N a1 a2 a3) false = some (.inl (N, servesL N a1 a2 a3, endedL N a1 a2 a3, ((i + 1 : Nat) : Int))) := by
            unfold law19_LeaseOnce.k5
            simp only [Bool.false_eq_true, if_false, Int.toNat_natCast, hqe, hN, hw, wr, (Serves_is _ _ _ _).1, (Ended_is _ _ _ _).1, Option.bind_some]
            cases q1 : servesL N a1 a2 (a3 + 1) with
            | true =>
              rw [c3 q1] at f6 ⊢
              simp only [if_true]
              cases q2 : endedL N a1 a2 (a3 + 1) with
              | true => rw [c4 q2] at f6 ⊢; exact f6
              | false => exact f6
            | false =>
              simp only [Bool.false_eq_true, if_false]
              cases q2 : endedL N a1 a2 (a3 + 1) with
              | true => rw [c4 q2] at f6 ⊢; exact f6
              | false => exact f6
          have f4 : law19_LeaseOnce.k4 (servesL N a1 a2 a3) (now, served, ended, (i : Int)) l0 a1 a2 a4 a3 (endedL N a1 a2 a3) false = some (.inl (N, servesL N a1 a2 a3, endedL N a1 a2 a3, ((i + 1 : Nat) : Int))) := by
            unfold law19_LeaseOnce.k4
            simp only [Bool.false_eq_true, if_false, Int.toNat_natCast, hqe, hme, hN, hw, wd, wm, (Serves_is _ _ _ _).1, (Ended_is _ _ _ _).1, Option.bind_some]
            cases q1 : servesL N a1 a2 a3 with
            | true =>
              rw [q1] at f5
              simp only [if_true, c1 q1]
              cases q2 : endedL N a1 a2 a3 with
              | true => exact (c5 q1 q2).elim
              | false => rw [q2] at f5; exact f5
            | false =>
              rw [q1] at f5
              simp only [Bool.false_eq_true, if_false]
              cases q2 : endedL N a1 a2 a3 with
              | true => rw [q2] at f5; simp only [if_true, c2 q2, Bool.not_true]; exact f5
              | false => rw [q2] at f5; exact f5
          cases q1 : servesL N a1 a2 a3 with
          | true =>
            rw [q1] at f4
            cases q2 : endedL N a1 a2 a3 with
            | true => exact (c5 q1 q2).elim
            | false =>
              rw [q2] at f4
              simp only [if_true, Bool.false_eq_true, if_false, c6 q1]
              cases q3 : ended with
              | true => rw [c7 q3] at q2; cases q2
              | false => rw [c6 q1, q3] at f4; exact f4
          | false =>
            rw [q1] at f4
            simp only [Bool.false_eq_true, if_false]
            cases q2 : endedL N a1 a2 a3 with
            | true => rw [q2] at f4; exact f4
            | false =>
              rw [q2] at f4
              cases q3 : ended with
              | true => rw [c7 q3] at q2; cases q2
              | false => rw [q3] at f4; exact f4
        · intro hf
          simp only at hf
          by_cases hlt : (N - a1) * 1000 < a2 * (1000 - a3)
          · rw [servesL_iff.2 ⟨fN _ _ (by omega) (by omega) (by omega) (by omega), by omega, hlt⟩] at hf; cases hf
          · show a2 * (1000 - a3) ≤ (N - a1) * 1000; omega
        · intro hf; exact (endedL_iff.1 hf).2
      · left; rw [show decide ((i : Int) < 30) = false by simpa using g2]; exact ⟨_, stop, rfl⟩
    · left; rw [ite_df g]; exact ⟨_, stop, rfl⟩)
  obtain ⟨r, e1, rfl⟩ := key (a1, true, false, 0) ⟨0, rfl, by omega, Int.le_refl _, by simp, fun h => (by cases h), fun h => (by cases h)⟩
  rw [e1]
  simp [law19_LeaseOnce.k2, told_is]
end Go.Proofs.Ytodijocajcohjaa
