/- LeaseApart in plain terms. -/
import Derived.Test.YtodijocajcohjaaLeaseA
import Derived.Test.YtodijocajcohjaaLeaseT
set_option linter.unusedVariables false
set_option linter.unusedSimpArgs false
namespace Go.Proofs.Ytodijocajcohjaa
open Go Go.RowKit
theorem servesL_if {n f d r : Int} (h : servesL n f d r = true) : fineL n f d r = true ∧ f ≤ n ∧ (n - f) * 1000 < d * (1000 - r) := by
  unfold servesL at h; simpa [and_assoc] using h
theorem endedL_if {n f d r : Int} (h : endedL n f d r = true) : fineL n f d r = true ∧ d * (1000 + r) < (n - f) * 1000 := by
  unfold endedL at h; simpa using h
theorem withinL_if {l t r : Int} (h : withinL l t r = true) : ((0 ≤ l ∧ l ≤ 1099511627776) ∧ (0 ≤ t ∧ t ≤ 1099511627776) ∧ 0 ≤ r ∧ r ≤ 500) ∧ l * (1000 - r) ≤ t * 1000 ∧ t * 1000 ≤ l * (1000 + r) := by
  unfold withinL at h
  simp only [Bool.and_eq_true, decide_eq_true_eq] at h
  have e1 : l * (1000 - r) = l * 1000 - l * r := by rw [Int.mul_sub]
  have e2 : l * (1000 + r) = l * 1000 + l * r := by rw [Int.mul_add]
  exact ⟨h.1, by rw [e1]; have := h.2; omega, by rw [e2]; have := h.2; omega⟩
theorem mask20 (n : Int) : ∃ q : Nat, q ≤ 1048575 ∧ bitsOf .and .i64 n 1048575 = (q : Int) := ⟨(n % 1048576).toNat, by omega, by rw [i64_mask 20 (by omega) n 1048575 (by decide)]; omega⟩
theorem mask16 (n : Int) : ∃ q : Nat, q ≤ 65535 ∧ bitsOf .and .i64 n 65535 = (q : Int) := ⟨(n % 65536).toNat, by omega, by rw [i64_mask 16 (by omega) n 65535 (by decide)]; omega⟩
/-- What is known at a round's beginning. -/
structure AInv (r fr la : Int) (i : Int) (a b sa sb LA LB : Int) : Prop where
  a0 : 0 ≤ a ∧ a ≤ 1099511627776
  b0 : 0 ≤ b ∧ b ≤ 1099511627776
  sa0 : 0 ≤ sa ∧ sa ≤ 1099511627776
  sb0 : 0 ≤ sb ∧ sb ≤ 1099511627776
  one : fr < i → LA * (1000 - r) ≤ (a - sa) * 1000
  two : la < i → (b - sb) * 1000 ≤ LB * (1000 + r)
  le : 0 ≤ LB ∧ LB ≤ LA
  le0 : i ≤ la → LB = 0
  le1 : i ≤ fr → LA = 0
theorem apart_is (l0 l1 l2 : List Int) (a3 a4 a5 a6 : Int) : law19_LeaseApart.impl l0 l1 l2 a3 a4 a5 a6 = some true := by
  obtain ⟨q, hq, hqe⟩ := mask20 a5
  have hd : IntKind.i64.wrap ((q : Int) + 1) = (q : Int) + 1 := i64_id (by omega)
  have kt : law19_LeaseApart.k1 l0 l1 l2 a3 a4 a6 a5 true = some true := by unfold law19_LeaseApart.k1; simp [told_is]
  unfold law19_LeaseApart.impl
  rw [hqe, hd, ite_df (by omega)]
  by_cases h1 : a6 < 0
  · rw [ite_dt h1, kt]
  rw [ite_df h1]
  by_cases h2 : (500 : Int) < a6
  · rw [decide_eq_true h2, kt]
  rw [decide_eq_false h2]
  unfold law19_LeaseApart.k1
  simp only [Bool.false_eq_true, if_false]
  obtain ⟨m, hm⟩ : ∃ m : Int, min (min (min (l0.length : Int) (l1.length : Int)) (l2.length : Int)) 30 = m := ⟨_, rfl⟩
  obtain ⟨f, hf, hfe⟩ := mask16 a3
  obtain ⟨g, hg, hge⟩ := mask16 a4
  simp only [hm, hfe, hge]
  by_cases hz : m = 0
  · rw [ite_dt hz, told_is]; rfl
  rw [ite_df hz]
  have hF : 0 ≤ Int.tmod (f : Int) m ∧ Int.tmod (f : Int) m < m := ⟨Int.tmod_nonneg _ (by omega), Int.tmod_lt_of_pos _ (by omega)⟩
  obtain ⟨F, hFe⟩ : ∃ F : Int, Int.tmod (f : Int) m = F := ⟨_, rfl⟩
  rw [hFe] at hF
  simp only [hFe]
  have w1 : IntKind.i64.wrap (m - F) = m - F := i64_id (by omega)
  rw [w1, chk_true hz, chk_true (by omega)]
  have hG : 0 ≤ Int.tmod (g : Int) (m - F) ∧ Int.tmod (g : Int) (m - F) < m - F := ⟨Int.tmod_nonneg _ (by omega), Int.tmod_lt_of_pos _ (by omega)⟩
  obtain ⟨W, hWe⟩ : ∃ W : Int, F + Int.tmod (g : Int) (m - F) = W := ⟨_, rfl⟩
  have w2 : IntKind.i64.wrap W = W := i64_id (by omega)
  let I : (Int × Int × Int × Int × Int) → Prop := fun s => ∃ LA LB, ∃ i : Nat, s.2.2.2.2 = (i : Int) ∧ (i : Int) ≤ m ∧ AInv a6 F W i s.1 s.2.1 s.2.2.1 s.2.2.2.1 LA LB
  have key := loop_inv (step := law19_LeaseApart.st1 l0 l1 l2 a3 a4 a6 a5) (I := I) (Q := fun r => r = .inr () ∨ r = .inl true) (fun s => (m - s.2.2.2.2).toNat) (by
    rintro ⟨a, b, sa, sb, _⟩ ⟨LA, LB, i, rfl, hi, H⟩
    simp only at H
    unfold law19_LeaseApart.st1
    simp only [hm, hfe, hFe]
    by_cases hlt : (i : Int) < m
    · rw [ite_dt hlt]
      -- the beginnings as they are now
      obtain ⟨sa', hsa⟩ : ∃ sa', (if (i : Int) = F then a else sa) = sa' := ⟨_, rfl⟩
      obtain ⟨sb', hsb⟩ : ∃ sb', (if (i : Int) = W then b else sb) = sb' := ⟨_, rfl⟩
      have k5t : ∀ x y, law19_LeaseApart.k5 (a, b, sa, sb, (i : Int)) l1 l2 a3 l0 a4 x a5 a6 y true = some (.inr (.inl true)) := fun x y => by
        unfold law19_LeaseApart.k5; simp [told_is]
      have hml : m ≤ l0.length ∧ m ≤ l1.length ∧ m ≤ l2.length ∧ m ≤ 30 := by omega
      obtain ⟨x, hx⟩ : ∃ x, l0.getD i default = x := ⟨_, rfl⟩
      obtain ⟨y, hy⟩ : ∃ y, l1.getD i default = y := ⟨_, rfl⟩
      obtain ⟨z, hz'⟩ : ∃ z, l2.getD i default = z := ⟨_, rfl⟩
      have hs : law19_LeaseApart.k4 (a, b, sa, sb, (i : Int)) l0 l1 a6 l2 a3 a4 sa' a5 sb' = some (.inr (.inl true)) ∨ ∃ LA' LB', law19_LeaseApart.k4 (a, b, sa, sb, (i : Int)) l0 l1 a6 l2 a3 a4 sa' a5 sb' = some (.inl (a + y, b + z, sa', sb', ((i + 1 : Nat) : Int))) ∧ AInv a6 F W ((i + 1 : Nat) : Int) (a + y) (b + z) sa' sb' LA' LB' := by
        unfold law19_LeaseApart.k4
        simp only [Int.toNat_natCast, hx, hy, hz']
        rw [chk_true (by omega), chk_true (by omega), (Within_is _ _ _).1]
        simp only [Option.bind_some]
        cases hw1 : withinL x y a6 with
        | false => left; simp only [Bool.false_eq_true, if_false]; exact k5t _ _
        | true =>
        simp only [if_true]
        rw [chk_true (by omega), chk_true (by omega), (Within_is _ _ _).1]
        simp only [Option.bind_some]
        cases hw2 : withinL x z a6 with
        | false => left; simp only [Bool.false_eq_true, if_false]; exact k5t _ _
        | true =>
        simp only [if_true]
        by_cases c1 : (549755813888 : Int) < a
        · left; rw [ite_dt c1]; exact k5t _ _
        rw [ite_df c1]
        by_cases c2 : (549755813888 : Int) < b
        · left; rw [ite_dt c2]; exact k5t _ _
        rw [ite_df c2, chk_true (by omega)]
        by_cases c3 : (549755813888 : Int) < y
        · left; rw [ite_dt c3]; exact k5t _ _
        rw [ite_df c3, chk_true (by omega)]
        by_cases c4 : (549755813888 : Int) < z
        · left; rw [decide_eq_true c4]; exact k5t _ _
        rw [decide_eq_false c4]
        right
        obtain ⟨⟨hx1, hy1, _⟩, v1, _⟩ := withinL_if hw1
        obtain ⟨⟨_, hz1, _⟩, _, v2⟩ := withinL_if hw2
        have H' : ∃ LA' LB', AInv a6 F W ((i + 1 : Nat) : Int) (a + y) (b + z) sa' sb' LA' LB' := by
          have a0 := H.a0
          have b0 := H.b0
          have s0 := H.sa0
          have s1 := H.sb0
          have le := H.le
          have A1 : ∃ LA', (F < ((i + 1 : Nat) : Int) → LA' * (1000 - a6) ≤ (a + y - sa') * 1000) ∧ (((i + 1 : Nat) : Int) ≤ F → LA' = 0) ∧ (F ≤ (i : Int) → LA' = LA + x) ∧ (0 ≤ LA') := by
            by_cases e : (i : Int) = F
            · rw [if_pos e] at hsa
              have := H.le1 (by omega)
              exact ⟨x, fun _ => by rw [← hsa]; have : (a + y - a) * 1000 = y * 1000 := by omega
                                    omega, fun h => by omega, fun _ => by omega, hx1.1⟩
            · rw [if_neg e] at hsa
              by_cases e2 : F < (i : Int)
              · refine ⟨LA + x, fun _ => ?_, fun h => by omega, fun _ => rfl, by omega⟩
                have := H.one e2
                rw [Int.add_mul, ← hsa]; omega
              · have := H.le1 (by omega)
                exact ⟨0, fun h => by omega, fun _ => rfl, fun h => by omega, by omega⟩
          have B1 : ∃ LB', (W < ((i + 1 : Nat) : Int) → (b + z - sb') * 1000 ≤ LB' * (1000 + a6)) ∧ (((i + 1 : Nat) : Int) ≤ W → LB' = 0) ∧ (W ≤ (i : Int) → LB' = LB + x) ∧ ((i : Int) < W → LB' = 0) := by
            by_cases e : (i : Int) = W
            · rw [if_pos e] at hsb
              have := H.le0 (by omega)
              exact ⟨x, fun _ => by rw [← hsb]; have : (b + z - b) * 1000 = z * 1000 := by omega
                                    omega, fun h => by omega, fun _ => by omega, fun h => by omega⟩
            · rw [if_neg e] at hsb
              by_cases e2 : W < (i : Int)
              · refine ⟨LB + x, fun _ => ?_, fun h => by omega, fun _ => rfl, fun h => by omega⟩
                have := H.two e2
                rw [Int.add_mul, ← hsb]; omega
              · exact ⟨0, fun h => by omega, fun _ => rfl, fun h => by omega, fun _ => rfl⟩
          obtain ⟨LA', p1, p2, p3, p4⟩ := A1
          obtain ⟨LB', q1, q2, q3, q4⟩ := B1
          refine ⟨LA', LB', ⟨by omega, by omega, by rw [← hsa]; split <;> omega, by rw [← hsb]; split <;> omega, p1, q1, ?_, q2, p2⟩⟩
          by_cases e : W ≤ (i : Int)
          · have := q3 e
            have := p3 (by omega)
            omega
          · have := q4 (by omega)
            omega
        obtain ⟨LA', LB', H'⟩ := H'
        refine ⟨LA', LB', ?_, H'⟩
        have wa : IntKind.i64.wrap (a + y) = a + y := i64_id (by have := H'.a0; omega)
        have wb : IntKind.i64.wrap (b + z) = b + z := i64_id (by have := H'.b0; omega)
        have wi : IntKind.i64.wrap ((i : Int) + 1) = ((i + 1 : Nat) : Int) := i64_id (by omega)
        have k6f : law19_LeaseApart.k6 (a, b, sa, sb, (i : Int)) l1 l2 sa' sb' false = some (.inl (a + y, b + z, sa', sb', ((i + 1 : Nat) : Int))) := by
          unfold law19_LeaseApart.k6
          simp only [Bool.false_eq_true, if_false, Int.toNat_natCast, hy, hz', wa, wb, wi]
        unfold law19_LeaseApart.k5
        simp only [Bool.false_eq_true, if_false, Int.toNat_natCast, hm, hfe, hge, hFe, w1, hWe, w2, hy, hz', wa, wb, hqe, hd]
        rw [chk_true (by omega), chk_true (by omega)]
        by_cases hW : W ≤ (i : Int)
        · rw [ite_dt hW, (Serves_is _ _ _ _).1]
          simp only [Option.bind_some]
          cases t1 : servesL (a + y) sa' ((q : Int) + 1) a6 with
          | false => simp only [Bool.false_eq_true, if_false]; exact k6f
          | true =>
            simp only [if_true]
            rw [(Ended_is _ _ _ _).1]
            simp only [Option.bind_some]
            cases t2 : endedL (b + z) sb' ((q : Int) + 1) a6 with
            | false => exact k6f
            | true =>
              exfalso
              have u1 := (servesL_if t1).2.2
              have u2 := (endedL_if t2).2
              have v3 := H'.one (by omega)
              have v4 := H'.two (by omega)
              have v5 := H'.le
              by_cases r1 : (q : Int) + 1 ≤ LA'
              · have := Int.mul_le_mul_of_nonneg_right r1 (show 0 ≤ 1000 - a6 by omega)
                omega
              · have := Int.mul_le_mul_of_nonneg_right (show LB' ≤ (q : Int) + 1 by omega) (show 0 ≤ 1000 + a6 by omega)
                omega
        · rw [ite_df hW]; exact k6f
      have e3 : (if decide ((i : Int) = F) = true then law19_LeaseApart.k3 (a, b, sa, sb, (i : Int)) a3 l0 l1 l2 a4 a6 a5 a else law19_LeaseApart.k3 (a, b, sa, sb, (i : Int)) a3 l0 l1 l2 a4 a6 a5 sa) = law19_LeaseApart.k4 (a, b, sa, sb, (i : Int)) l0 l1 a6 l2 a3 a4 sa' a5 sb' := by
        have e4 : ∀ s4, law19_LeaseApart.k3 (a, b, sa, sb, (i : Int)) a3 l0 l1 l2 a4 a6 a5 s4 = law19_LeaseApart.k4 (a, b, sa, sb, (i : Int)) l0 l1 a6 l2 a3 a4 s4 a5 sb' := fun s4 => by
          unfold law19_LeaseApart.k3
          simp only [hm, hfe, hge, hFe, w1, hWe, w2]
          by_cases e : (i : Int) = W
          · rw [ite_dt e, ← hsb, if_pos e]
          · rw [ite_df e, ← hsb, if_neg e]
        by_cases e : (i : Int) = F
        · rw [ite_dt e, e4, ← hsa, if_pos e]
        · rw [ite_df e, e4, ← hsa, if_neg e]
      rw [e3]
      rcases hs with h | ⟨LA', LB', h, H'⟩
      · exact .inl ⟨_, h, .inr rfl⟩
      · exact .inr ⟨_, h, ⟨LA', LB', i + 1, rfl, by omega, H'⟩, by simp; omega⟩
    · left; rw [ite_df hlt]; exact ⟨_, rfl, .inl rfl⟩)
  obtain ⟨r, e1, e2⟩ := key (0, 0, 0, 0, 0) ⟨0, 0, 0, rfl, by omega, ⟨by simp, by simp, by simp, by simp, by simp, by simp, by simp, by simp, by simp⟩⟩
  rw [e1]
  rcases e2 with rfl | rfl
  · simp [law19_LeaseApart.k2, told_is]
  · rfl
end Go.Proofs.Ytodijocajcohjaa
