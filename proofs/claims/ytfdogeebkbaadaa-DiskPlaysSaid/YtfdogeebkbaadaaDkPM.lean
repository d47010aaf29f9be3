/- DiskPlays told: always true. -/
import Derived.Test.YtfdogeebkbaadaaDkPL
import Derived.Test.YtfdogeebkbaadaaDiskP
set_option linter.unusedVariables false
set_option linter.unusedSimpArgs false
set_option linter.unusedSectionVars false
namespace Go.Proofs.Ytfdogeebkbaadaa
open Go Go.RowKit
theorem bytes_few (a : Int × Int × Int × List UInt8 × Int × Int × Int × Int) : ∃ l, law3_bytes.impl a = some l ∧ l.length ≤ 8193 := by
  have hs : (subl a.2.2.2.1 0 (min (a.2.2.2.1.length : Int) 40)).length ≤ 40 := by simp [subl]; omega
  have k1 : ∀ s : List UInt8, s.length ≤ 8192 → ∃ l, law3_bytes.k1 a s = some l ∧ l.length ≤ 8193 := fun s h => by
    unfold law3_bytes.k1
    split
    · rw [chk_true (by simp; omega)]; exact ⟨_, rfl, by simp; omega⟩
    · exact ⟨_, rfl, by omega⟩
  unfold law3_bytes.impl
  rw [chk_true (by omega)]
  generalize subl a.2.2.2.1 0 (min (a.2.2.2.1.length : Int) 40) = s at hs ⊢
  rw [chk_true (by simp; omega)]
  simp only [List.nil_append]
  split
  · have hw : IntKind.i64.wrap (8192 - (s.length : Int)) = ((8192 - s.length : Nat) : Int) := by rw [i64_id (by omega)]; omega
    simp only [hw, Int.toNat_natCast]
    rw [chk_true (by omega), chk_true (by simp; omega)]
    exact k1 _ (by simp; omega)
  · exact k1 _ (by omega)
theorem nines {ρ : Type} {step : List UInt8 × Int → Option ((List UInt8 × Int) ⊕ ρ)} {r : ρ} (L : List UInt8) (h1 : ∀ (M : List UInt8) (i : Nat), M.length = L.length → i < L.length → step (M, (i : Int)) = some (.inl (M.set i 9, ((i + 1 : Nat) : Int)))) (h2 : ∀ M : List UInt8, M.length = L.length → step (M, (L.length : Int)) = some (.inr r)) : loop step (L, 0) = some r := by
  let I : (List UInt8 × Int) → Prop := fun s => ∃ M, ∃ i : Nat, s = (M, (i : Int)) ∧ M.length = L.length ∧ i ≤ L.length
  have key := loop_inv (step := step) (I := I) (Q := fun x => x = r) (fun s => L.length - s.2.toNat) (by
    rintro s ⟨M, i, rfl, hM, hi⟩
    by_cases g : i < L.length
    · right
      exact ⟨_, h1 M i hM g, ⟨_, i + 1, rfl, by simpa using hM, g⟩, by simp only []; omega⟩
    · left
      have : i = L.length := by omega
      subst this
      exact ⟨r, h2 M hM, rfl⟩)
  obtain ⟨x, e, rfl⟩ := key (L, 0) ⟨L, 0, rfl, rfl, by omega⟩
  exact e
section
variable {b : Int} {m c : KM} {K : KR} {a0 : Int}
theorem k5_is (h : Inv b m c K) (hb : IntKind.i64.wrap (bitsOf .and .i64 a0 7 + 1) = b) (dn : Bool) (lf af kp tn ct : Int) {b0 : Int} {m0 c0 : KM} {d0 : Bool} {l0 f0 k0 t0 u0 : Int} {K0 : KR} {c1 : KM} {e0 : Bool} {f1 k1 t1 u1 l1 : Int} (i : Nat) (hi : i ≤ 1000) :
    law3_DiskPlays.k5 (b0, m0, c0, d0, l0, f0, k0, t0, u0, K0, c1, e0, f1, k1, t1, u1, l1, (i : Int)) a0 (b, m, c, dn, lf, af, kp, tn, ct, K, c, dn, af, kp, tn, ct, lf) = some (.inl (b, m, c, dn, lf, af, kp, tn, ct, K, c, dn, af, kp, tn, ct, lf, ((i + 1 : Nat) : Int))) := by
  unfold law3_DiskPlays.k5
  simp only [disk_Disk_Down.impl, disk_Disk_Life.impl, disk_Disk_Open.impl, disk_Disk_Blocks.impl, Option.bind_some, hb]
  simp only [decide_true, if_true, Bool.not_true]
  unfold law3_DiskPlays.k6
  rw [if_neg (by simp)]
  unfold law3_DiskPlays.k4
  simp only []
  rw [i64_id (by omega)]; rfl
end
abbrev Acts := List (Int × Int × Int × List UInt8 × (Int × Int × Int × Int))
abbrev PS := Int × KM × KM × Bool × Int × Int × Int × Int × Int × KR × KM × Bool × Int × Int × Int × Int × Int × Int
def PI (b : Int) (s : PS) : Prop := ∃ m c dn lf af kp tn ct K, ∃ i : Nat, s = (b, m, c, dn, lf, af, kp, tn, ct, K, c, dn, af, kp, tn, ct, lf, (i : Int)) ∧ Inv b m c K ∧ c.length ≤ i ∧ i ≤ 60
theorem plays_round {b a0 : Int} (hb : IntKind.i64.wrap (bitsOf .and .i64 a0 7 + 1) = b) (l1 : Acts) {m c : KM} {dn : Bool} {lf af kp tn ct : Int} {K : KR} {i : Nat} (h : Inv b m c K) (hci : c.length ≤ i) (hi : i < 60) (hl : i < l1.length) :
    ∃ s', law3_DiskPlays.k3 (b, m, c, dn, lf, af, kp, tn, ct, K, c, dn, af, kp, tn, ct, lf, (i : Int)) l1 a0 true = some (.inl s') ∧ PI b s' ∧ s'.2.2.2.2.2.2.2.2.2.2.2.2.2.2.2.2.2 = ((i + 1 : Nat) : Int) := by
  have hc : c.length ≤ 1000 := by omega
  unfold law3_DiskPlays.k3
  rw [if_pos rfl]
  simp only [Int.toNat_natCast]
  rw [chk_true (by omega)]
  obtain ⟨a, hA⟩ : ∃ a, l1.getD i default = a := ⟨_, rfl⟩
  obtain ⟨knd, at_, bit, B, x1, x2, x3, x4⟩ := a
  simp only [hA]
  by_cases g0 : knd = 0
  · rw [ite_dt g0]
    obtain ⟨l, e, hle⟩ := bytes_few (knd, at_, bit, B, x1, x2, x3, x4)
    rw [e]
    simp only [Option.bind_some, decide_true, Bool.not_true, Bool.false_eq_true, if_false, if_true]
    obtain ⟨r, dn', lf', af', kp', tn', ct', m', c', K', e1, e2, hI, hl'⟩ := write_both h hc dn lf af kp tn ct at_ l
    rw [e1, e2]
    simp only [Option.bind_some, decide_true, Bool.not_true, Bool.false_eq_true, if_false, if_true]
    rw [nines (r := (b, m', c', dn', lf', af', kp', tn', ct', K', c', dn', af', kp', tn', ct', lf')) l (fun M j hM hj => by
      unfold law3_DiskPlays.st3
      simp only [Int.toNat_natCast]
      rw [ite_dt (by omega), chk_true (by omega), i64_id (by omega)]; rfl) (fun M hM => by
      unfold law3_DiskPlays.st3
      simp only []
      rw [ite_df (by omega)])]
    simp only [Option.bind_some, decide_true, Bool.not_true, Bool.false_eq_true, if_false, if_true]
    rw [k5_is hI hb _ _ _ _ _ _ i (by omega)]
    exact ⟨_, rfl, ⟨m', c', dn', lf', af', kp', tn', ct', K', i + 1, rfl, hI, by omega, by omega⟩, rfl⟩
  rw [ite_df g0]
  by_cases g1 : knd = 1
  · rw [ite_dt g1]
    obtain ⟨r, dn', lf', af', kp', tn', ct', m', c', K', e1, e2, hI, hl'⟩ := flush_both h hc dn lf af kp tn ct
    rw [e1, e2]
    simp only [Option.bind_some, decide_true, Bool.not_true, Bool.false_eq_true, if_false, if_true]
    rw [k5_is hI hb _ _ _ _ _ _ i (by omega)]
    exact ⟨_, rfl, ⟨m', c', dn', lf', af', kp', tn', ct', K', i + 1, rfl, hI, by omega, by omega⟩, rfl⟩
  rw [ite_df g1]
  by_cases g3 : knd = 3
  · rw [ite_dt g3]
    obtain ⟨af', kp', tn', ct', e1, e2⟩ := arm_both h hc dn lf af kp tn ct (x1, x2, x3, x4)
    rw [e1, e2]
    simp only [Option.bind_some, decide_true, Bool.not_true, Bool.false_eq_true, if_false, if_true]
    rw [k5_is h hb _ _ _ _ _ _ i (by omega)]
    exact ⟨_, rfl, ⟨m, c, dn, lf, af', kp', tn', ct', K, i + 1, rfl, h, by omega, by omega⟩, rfl⟩
  rw [ite_df g3]
  by_cases g4 : knd = 4
  · rw [ite_dt g4]
    obtain ⟨dn', lf', af', kp', tn', ct', m', c', K', e1, e2, hI, hl'⟩ := cut_both h hc dn lf af kp tn ct (x1, x2, x3, x4)
    rw [e1, e2]
    simp only [Option.bind_some, decide_true, Bool.not_true, Bool.false_eq_true, if_false, if_true]
    rw [k5_is hI hb _ _ _ _ _ _ i (by omega)]
    exact ⟨_, rfl, ⟨m', c', dn', lf', af', kp', tn', ct', K', i + 1, rfl, hI, by omega, by omega⟩, rfl⟩
  rw [ite_df g4]
  by_cases g5 : knd = 5
  · rw [ite_dt g5, Restart_is]
    simp only [Option.bind_some, decide_true, Bool.not_true, Bool.false_eq_true, if_false, if_true]
    rw [k5_is h hb _ _ _ _ _ _ i (by omega)]
    exact ⟨_, rfl, ⟨m, c, false, lf, af, kp, tn, ct, K, i + 1, rfl, h, by omega, by omega⟩, rfl⟩
  rw [ite_df g5]
  by_cases g6 : knd = 6
  · rw [ite_dt g6]
    obtain ⟨r, m', c', K', e1, e2, hI, hl'⟩ := flip_both h hc dn lf af kp tn ct at_ bit
    rw [e1, e2]
    simp only [Option.bind_some, decide_true, Bool.not_true, Bool.false_eq_true, if_false, if_true]
    rw [k5_is hI hb _ _ _ _ _ _ i (by omega)]
    exact ⟨_, rfl, ⟨m', c', dn, lf, af, kp, tn, ct, K', i + 1, rfl, hI, by omega, by omega⟩, rfl⟩
  rw [ite_df g6]
  obtain ⟨r, e1, e2, hrl⟩ := read_both h hc dn lf af kp tn ct at_
  rw [e1, e2]
  simp only [Option.bind_some, decide_true, Bool.not_true, Bool.false_eq_true, if_false, if_true]
  unfold law3_DiskPlays.k7
  rw [if_neg (by simp), nines (r := (b, m, c, dn, lf, af, kp, tn, ct, K, c, dn, af, kp, tn, ct, lf)) r.1 (fun M j hM hj => by
    unfold law3_DiskPlays.st4
    simp only [Int.toNat_natCast]
    rw [ite_dt (by omega), chk_true (by omega), i64_id (by omega)]; rfl) (fun M hM => by
    unfold law3_DiskPlays.st4
    simp only []
    rw [ite_df (by omega)])]
  simp only [Option.bind_some, decide_true, Bool.not_true, Bool.false_eq_true, if_false, if_true]
  rw [k5_is h hb _ _ _ _ _ _ i (by omega)]
  exact ⟨_, rfl, ⟨m, c, dn, lf, af, kp, tn, ct, K, i + 1, rfl, h, by omega, by omega⟩, rfl⟩
theorem plays_is (a0 : Int) (l1 : Acts) : law3_DiskPlays.impl a0 l1 = some true := by
  have h7 : bitsOf .and .i64 a0 7 = a0 % 8 := i64_mask 3 (by decide) a0 _ (by decide)
  obtain ⟨b, hbn⟩ : ∃ b : Nat, IntKind.i64.wrap (bitsOf .and .i64 a0 7 + 1) = (b : Int) ∧ 1 ≤ b ∧ b ≤ 8 := ⟨(a0 % 8 + 1).toNat, by rw [h7, i64_id (by omega)]; omega, by omega, by omega⟩
  obtain ⟨hb, hb1, hb8⟩ := hbn
  unfold law3_DiskPlays.impl
  rw [hb, New_is (by omega)]
  simp only [Option.bind_some, decide_true, Bool.not_true, Bool.false_eq_true, if_false, if_true]
  unfold ref3_New.impl
  rw [chk_true (by omega)]
  simp only [Option.bind_some, Int.toNat_natCast]
  have key := loop_inv (step := law3_DiskPlays.st2 l1 a0) (I := PI (b : Int)) (Q := fun r => ∃ m c dn lf af kp tn ct K, r = .inr ((b : Int), m, c, dn, lf, af, kp, tn, ct, K, c, dn, af, kp, tn, ct, lf) ∧ Inv (b : Int) m c K ∧ c.length ≤ 60) (fun s => 60 - s.2.2.2.2.2.2.2.2.2.2.2.2.2.2.2.2.2.toNat) (by
    rintro s ⟨m, c, dn, lf, af, kp, tn, ct, K, i, rfl, h, hci, hi⟩
    have stop : law3_DiskPlays.k3 ((b : Int), m, c, dn, lf, af, kp, tn, ct, K, c, dn, af, kp, tn, ct, lf, (i : Int)) l1 a0 false = some (.inr (.inr ((b : Int), m, c, dn, lf, af, kp, tn, ct, K, c, dn, af, kp, tn, ct, lf))) := by unfold law3_DiskPlays.k3; rw [if_neg (by simp)]
    unfold law3_DiskPlays.st2
    simp only []
    by_cases g : (i : Int) < l1.length
    · rw [ite_dt g]
      by_cases g2 : (i : Int) < 60
      · right
        rw [show decide ((i : Int) < 60) = true by simpa using g2]
        obtain ⟨s', e, hI, hn⟩ := plays_round (dn := dn) (lf := lf) (af := af) (kp := kp) (tn := tn) (ct := ct) hb l1 h hci (by omega) (by omega)
        exact ⟨s', e, hI, by rw [hn]; omega⟩
      · left; rw [show decide ((i : Int) < 60) = false by simpa using g2]; exact ⟨_, stop, m, c, dn, lf, af, kp, tn, ct, K, rfl, h, by omega⟩
    · left; rw [ite_df g]; exact ⟨_, stop, m, c, dn, lf, af, kp, tn, ct, K, rfl, h, by omega⟩)
  have h0 : Inv (b : Int) [] [] (List.replicate b []) := ⟨by omega, by simp, by simp, by simp, fun k hk => by
    have : (List.replicate b ([] : List UInt8)).getD k default = [] := by simp at hk; simp [List.getD, hk]
    rw [this]; rfl, fun k hk => by
    have : (List.replicate b ([] : List UInt8)).getD k default = [] := by simp at hk; simp [List.getD, hk]
    rw [this]; simp⟩
  obtain ⟨r, e, m, c, dn, lf, af, kp, tn, ct, K, rfl, h, hc⟩ := key ((b : Int), [], [], false, 0, 0, 0, 0, 0, List.replicate b [], [], false, 0, 0, 0, 0, 0, 0) ⟨[], [], false, 0, 0, 0, 0, 0, List.replicate b [], 0, rfl, h0, by simp, by omega⟩
  rw [e]
  simp only [Option.bind_some, decide_true, Bool.not_true, Bool.false_eq_true, if_false, if_true]
  unfold law3_DiskPlays.k1
  simp only [Restart_is, Option.bind_some]
  have := loop_up (step := law3_DiskPlays.st1 a0 ((b : Int), false, lf, af, kp, tn, ct) ((b : Int), m, c, dn, lf, af, kp, tn, ct, K, c, dn, af, kp, tn, ct, lf)) (fun i : Nat => (i : Int)) b (fun i hi => by
    unfold law3_DiskPlays.st1
    simp only [hb]
    obtain ⟨r, e1, e2, _⟩ := read_both h (by omega) false lf af kp tn ct (i : Int)
    rw [ite_dt (by omega), e1, e2]
    simp only [Option.bind_some, decide_true, Bool.not_true, Bool.false_eq_true, if_false, if_true]
    rw [i64_id (by omega)]; rfl) (r := .inr ()) (by
    unfold law3_DiskPlays.st1
    simp only [hb]
    rw [ite_df (by omega)])
  rw [show ((0 : Int)) = ((0 : Nat) : Int) from rfl, this]
  simp [law3_DiskPlays.k2, told_is]
end Go.Proofs.Ytfdogeebkbaadaa
