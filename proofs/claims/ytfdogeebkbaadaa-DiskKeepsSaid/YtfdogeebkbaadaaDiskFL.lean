/- DiskFlushed in plain terms. -/
import Derived.Test.YtfdogeebkbaadaaDiskF
import Derived.Test.YtfdogeebkbaadaaDiskTL
set_option linter.unusedVariables false
set_option linter.unusedSimpArgs false
namespace Go.Proofs.Ytfdogeebkbaadaa
open Go Go.RowKit
theorem cut40 (B : List UInt8) : subl B 0 (min (B.length : Int) 40) = B.take 40 := by
  unfold subl
  rw [Int.toNat_zero, List.drop_zero, show (min (B.length : Int) 40).toNat = min B.length 40 by omega, List.take_eq_take_iff]
  omega
theorem at3 (n : Int) : ∃ q : Nat, q < 4 ∧ bitsOf .and .i64 n 3 = (q : Int) := ⟨(n % 4).toNat, by omega, by rw [i64_mask 2 (by omega) n 3 (by decide)]; omega⟩
theorem whole_take (b : List UInt8) (hb : b.length ≤ 8192) : (whole b).take b.length = b := by
  unfold whole; rw [List.take_of_length_le hb, List.take_left']; rfl
theorem whole_behind (b : List UInt8) (i : Nat) (h : b.length ≤ i) (hi : i < 8192) : (whole b).getD i default = 0 := by
  unfold whole
  rw [List.take_of_length_le (by omega)]
  simp only [List.getD, List.getElem?_append_right h]
  rw [List.getElem?_replicate_of_lt (by omega)]; rfl
abbrev Act3 := Int × Int × Int × List UInt8 × Ls
theorem fl_st2 {l0 : List Act3} {i q : Nat} (hq : bitsOf .and .i64 (l0.getD i default).2.1 3 = (q : Int)) {kp kp' : List (List UInt8)} (hk : kp.set q ((l0.getD i default).2.2.2.1.take 40) = kp') (h4 : kp'.length = 4)
    (m m0 : KM) (lf lf0 lf1 : Int) {k : Nat} (hk4 : k < 4) (hb : blk m k = whole (kp'.getD k default)) (hl : (kp'.getD k default).length ≤ 40) :
    law3_DiskFlushed.st2 (4, false, lf, 0, 0, 0, 0) ((4, true, lf1, 0, 0, 0, 0), m, []) (4, m0, [], false, lf0, 0, 0, 0, 0, kp, (i : Int)) l0 (k : Int) = some (.inl ((k + 1 : Nat) : Int)) := by
  unfold law3_DiskFlushed.st2
  simp only [Int.toNat_natCast, hq, cut40, Nat.zero_add, Nat.mul_one, hk]
  rw [ite_dt (by omega), Read_is _ (by simp) (by omega)]
  simp only [Option.bind_some, rd_len, rd_nil, hb]
  have hw8 := whole_len (kp'.getD k default)
  simp only [decide_true, if_true]
  rw [ite_df (by omega), chk_true (by omega), chk_true (by omega), chk_true (by omega), chk_true (by omega), chk_true (by omega), chk_true (by omega), chk_true (by omega), chk_true (by omega)]
  have e1 : subl (whole (kp'.getD k default)) 0 ((kp'.getD k default).length : Int) = kp'.getD k default := by
    unfold subl; rw [Int.toNat_natCast, Int.toNat_zero, List.drop_zero, whole_take _ (by omega)]
  have e2 : (whole (kp'.getD k default)).getD (kp'.getD k default).length default = 0 := whole_behind _ _ (Nat.le_refl _) (by omega)
  rw [e1]
  simp only [decide_true, if_true, e2]
  unfold law3_DiskFlushed.k5
  rw [ite_nt (by decide), i64_id (by omega)]; rfl
theorem flushed_is (l0 : List Act3) (hl0 : l0.length ≤ 9223372036854775807) : law3_DiskFlushed.impl l0 = some true := by
  unfold law3_DiskFlushed.impl
  rw [New_is (by omega)]
  simp only [Option.bind_some]
  simp only [decide_true, Bool.not_true, Bool.false_eq_true, if_false]
  let I : (Int × KM × KM × Bool × Int × Int × Int × Int × Int × List (List UInt8) × Int) → Prop := fun s => ∃ m lf kp, ∃ i : Nat, s = (4, m, [], false, lf, 0, 0, 0, 0, kp, (i : Int)) ∧ i ≤ 30 ∧ kp.length = 4 ∧ ∀ k : Nat, k < 4 → (kp.getD k default).length ≤ 40 ∧ blk m k = whole (kp.getD k default)
  have key := loop_inv (step := law3_DiskFlushed.st1 l0) (I := I) (Q := fun r => r = .inr ()) (fun s => 30 - s.2.2.2.2.2.2.2.2.2.2.toNat) (by
    rintro s ⟨m, lf, kp, i, rfl, hi, h4, hk⟩
    have stop : law3_DiskFlushed.k2 (4, m, [], false, lf, 0, 0, 0, 0, kp, (i : Int)) l0 false = some (.inr (.inr ())) := by unfold law3_DiskFlushed.k2; simp
    unfold law3_DiskFlushed.st1
    simp only []
    by_cases g : (i : Int) < l0.length
    · rw [ite_dt g]
      by_cases g2 : (i : Int) < 30
      · right
        obtain ⟨q, hq4, hq⟩ := at3 (l0.getD i default).2.1
        have hB : ((l0.getD i default).2.2.2.1.take 40).length ≤ 40 := by simp; omega
        generalize hkp' : kp.set q ((l0.getD i default).2.2.2.1.take 40) = kp'
        have h4' : kp'.length = 4 := by rw [← hkp']; simp [h4]
        have hnew : ∀ k : Nat, k < 4 → (kp'.getD k default).length ≤ 40 ∧ blk (flushM m ([] ++ [((q : Int), whole ((l0.getD i default).2.2.2.1.take 40))])) (k : Int) = whole (kp'.getD k default) := fun k hk4 => by
          have e1 : flushM m ([] ++ [((q : Int), whole ((l0.getD i default).2.2.2.1.take 40))]) = over m ((q : Int), whole ((l0.getD i default).2.2.2.1.take 40)) 8192 := rfl
          rw [e1, blk_full _ _ (whole_len _), ← hkp']
          by_cases e : k = q
          · subst e
            have : (kp.set k ((l0.getD i default).2.2.2.1.take 40)).getD k default = (l0.getD i default).2.2.2.1.take 40 := by
              rw [List.getD, List.getElem?_set_self (by omega)]; rfl
            rw [this, if_pos rfl]; exact ⟨hB, rfl⟩
          · have : (kp.set q ((l0.getD i default).2.2.2.1.take 40)).getD k default = kp.getD k default := by
              rw [List.getD, List.getElem?_set_ne (by omega)]; rfl
            rw [this, if_neg (by simp only []; omega)]; exact hk k hk4
        refine ⟨(4, flushM m ([] ++ [((q : Int), whole ((l0.getD i default).2.2.2.1.take 40))]), [], false, IntKind.i64.wrap (lf + 1), 0, 0, 0, 0, kp', ((i + 1 : Nat) : Int)), ?_, ?_, by simp; omega⟩
        · unfold law3_DiskFlushed.k2
          rw [ite_dt g2]
          simp only [Int.toNat_natCast, hq, cut40]
          rw [chk_true (by omega), chk_true (by omega), Write_is (by simp) (by omega) (by omega)]
          simp only [Option.bind_some]
          simp only [decide_true, if_true]
          rw [Flush_is (Fulls.nil.add (by simp) _ _)]
          simp only [Option.bind_some]
          unfold law3_DiskFlushed.k4
          simp only [Int.toNat_natCast, hq, cut40, decide_true, Bool.not_true, Bool.false_eq_true, if_false, Nat.zero_add, Nat.mul_one]
          rw [chk_true (by omega), chk_true (by omega), Cut_is Fulls.nil]
          simp only [Option.bind_some, Restart_is, cutM]
          have hlp : loop (law3_DiskFlushed.st2 (4, false, IntKind.i64.wrap (lf + 1), 0, 0, 0, 0) ((4, true, IntKind.i64.wrap (lf + 1), 0, 0, 0, 0), flushM m ([] ++ [((q : Int), whole ((l0.getD i default).2.2.2.1.take 40))]), []) (4, m, [], false, lf, 0, 0, 0, 0, kp, (i : Int)) l0) ((0 : Nat) : Int) = some (.inr (4, flushM m ([] ++ [((q : Int), whole ((l0.getD i default).2.2.2.1.take 40))]), [], false, IntKind.i64.wrap (lf + 1), 0, 0, 0, 0)) := by
            refine loop_up (fun k : Nat => (k : Int)) 4 (fun k hk4 => ?_) (by unfold law3_DiskFlushed.st2; simp)
            refine fl_st2 hq hkp' h4' _ m _ lf _ hk4 ?_ ?_
            · exact (hnew k hk4).2
            · exact (hnew k hk4).1
          rw [show ((0 : Int)) = ((0 : Nat) : Int) from rfl] at hlp ⊢
          rw [hlp]
          simp only [Option.bind_some]
          unfold law3_DiskFlushed.k3
          simp only [Int.toNat_natCast, hq, cut40, Nat.zero_add, Nat.mul_one, hkp']
          rw [i64_id (n := (i : Int) + 1) (by omega)]; rfl
        · exact ⟨_, _, kp', i + 1, rfl, by omega, h4', hnew⟩
      · left; rw [show decide ((i : Int) < 30) = false by simpa using g2]; exact ⟨_, stop, rfl⟩
    · left; rw [ite_df g]; exact ⟨_, stop, rfl⟩)
  obtain ⟨r, h1, rfl⟩ := key (4, [], [], false, 0, 0, 0, 0, 0, List.replicate 4 [], 0) ⟨[], 0, List.replicate 4 [], 0, rfl, by omega, rfl, fun k hk => by
    have : (List.replicate 4 ([] : List UInt8)).getD k default = [] := by
      rcases (by omega : k = 0 ∨ k = 1 ∨ k = 2 ∨ k = 3) with rfl | rfl | rfl | rfl <;> rfl
    rw [this]; exact ⟨by simp, blk_nil _⟩⟩
  rw [h1]
  simp [law3_DiskFlushed.k1, told_is]
end Go.Proofs.Ytfdogeebkbaadaa
