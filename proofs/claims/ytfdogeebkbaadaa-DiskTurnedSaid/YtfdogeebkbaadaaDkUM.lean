/- DiskTurned told: always true. -/
import Derived.Test.YtfdogeebkbaadaaDkUL
set_option linter.unusedVariables false
set_option linter.unusedSimpArgs false
set_option linter.unusedSectionVars false
namespace Go.Proofs.Ytfdogeebkbaadaa
open Go Go.RowKit
theorem bytes_is (a : Int × Int × Int × List UInt8 × Int × Int × Int × Int) : ∃ l, law3_bytes.impl a = some l := by
  have hs : (subl a.2.2.2.1 0 (min (a.2.2.2.1.length : Int) 40)).length ≤ 40 := by simp [subl]; omega
  have k1 : ∀ s : List UInt8, s.length ≤ 8192 → ∃ l, law3_bytes.k1 a s = some l := fun s h => by
    unfold law3_bytes.k1
    split
    · rw [chk_true (by simp; omega)]; exact ⟨_, rfl⟩
    · exact ⟨_, rfl⟩
  unfold law3_bytes.impl
  rw [chk_true (by omega)]
  generalize subl a.2.2.2.1 0 (min (a.2.2.2.1.length : Int) 40) = s at hs ⊢
  rw [chk_true (by simp; omega)]
  simp only [List.nil_append]
  split
  · have hw : IntKind.i64.wrap (8192 - (s.length : Int)) = ((8192 - s.length : Nat) : Int) := by rw [i64_id (by omega)]; omega
    simp only [hw, Int.toNat_natCast]
    rw [chk_true (by omega), chk_true (by simp; omega)]
    exact k1 _ (by simp; omega)
  · exact k1 _ (by omega)
theorem Write_long {b q : Int} {l : List UInt8} (hl : 8192 < l.length) (hq : 0 ≤ q ∧ q < b) (lf af kp tn ct : Int) (m c : KM) :
    disk_Disk_Write.impl (b, false, lf, af, kp, tn, ct) m c q l = some (1, (b, false, lf, af, kp, tn, ct), m, c) := by
  unfold disk_Disk_Write.impl
  simp only [Bool.false_eq_true, if_false]
  rw [ite_df (by omega), ite_df (by omega), show decide ((8192 : Int) < (l.length : Int)) = true by simpa using by omega]
  unfold disk_Disk_Write.k1
  rw [if_pos rfl]
abbrev Acts := List (Int × Int × Int × List UInt8 × (Int × Int × Int × Int))
theorem turned_acts (l0 : Acts) : ∃ m c, loop (law3_DiskTurned.st4 l0) (4, [], [], false, 0, 0, 0, 0, 0, 0) = some (4, m, c, false, 0, 0, 0, 0, 0) ∧ Fulls c ∧ c.length ≤ 20 := by
  let I : (Int × KM × KM × Bool × Int × Int × Int × Int × Int × Int) → Prop := fun s => ∃ m c, ∃ i : Nat, s = (4, m, c, false, 0, 0, 0, 0, 0, (i : Int)) ∧ Fulls c ∧ c.length ≤ i ∧ i ≤ 20
  have key := loop_inv (step := law3_DiskTurned.st4 l0) (I := I) (Q := fun r => ∃ m c, r = (4, m, c, false, 0, 0, 0, 0, 0) ∧ Fulls c ∧ c.length ≤ 20) (fun s => 20 - s.2.2.2.2.2.2.2.2.2.toNat) (by
    rintro s ⟨m, c, i, rfl, hc, hci, hi⟩
    have stop : law3_DiskTurned.k7 (4, m, c, false, 0, 0, 0, 0, 0, (i : Int)) l0 false = some (.inr (4, m, c, false, 0, 0, 0, 0, 0)) := by unfold law3_DiskTurned.k7; simp
    have goal : ∀ m' c', Fulls c' → c'.length ≤ i + 1 → i < 20 → ∃ s', law3_DiskTurned.k8 (4, m, c, false, 0, 0, 0, 0, 0, (i : Int)) (4, m', c', false, 0, 0, 0, 0, 0) = some (.inl s') ∧ I s' ∧ 20 - s'.2.2.2.2.2.2.2.2.2.toNat < 20 - ((i : Int)).toNat := fun m' c' h1 h2 h3 => by
      refine ⟨_, rfl, ⟨m', c', i + 1, ?_, h1, h2, by omega⟩, ?_⟩
      · simp only []; rw [i64_id (by omega)]; rfl
      · simp only []; rw [i64_id (by omega)]; omega
    unfold law3_DiskTurned.st4
    simp only []
    by_cases g : (i : Int) < l0.length
    · rw [ite_dt g]
      by_cases g2 : (i : Int) < 20
      · right
        unfold law3_DiskTurned.k7
        rw [ite_dt g2]
        simp only [Int.toNat_natCast]
        rw [chk_true (by omega)]
        by_cases hk : (l0.getD i default).1 = 1
        · rw [ite_dt hk, Flush_is hc]
          simp only [Option.bind_some]
          exact goal _ _ Fulls.nil (by simp) (by omega)
        · rw [ite_df hk, chk_true (by omega), chk_true (by omega)]
          obtain ⟨l, hl⟩ := bytes_is (l0.getD i default)
          rw [hl]
          obtain ⟨q, hq4, hq⟩ := at3 (l0.getD i default).2.1
          simp only [Option.bind_some, hq]
          by_cases hl2 : l.length ≤ 8192
          · rw [Write_is (by omega) (by omega) hl2]
            simp only [Option.bind_some]
            exact goal _ _ (hc.add (by omega) _ _) (by simp; omega) (by omega)
          · rw [Write_long (by omega) (by omega)]
            simp only [Option.bind_some]
            exact goal _ _ hc (by omega) (by omega)
      · left; rw [show decide ((i : Int) < 20) = false by simpa using g2]; exact ⟨_, stop, m, c, rfl, hc, by omega⟩
    · left; rw [ite_df g]; exact ⟨_, stop, m, c, rfl, hc, by omega⟩)
  obtain ⟨r, h1, m, c, rfl, hc, hl⟩ := key (4, [], [], false, 0, 0, 0, 0, 0, 0) ⟨[], [], 0, rfl, Fulls.nil, by simp, by omega⟩
  exact ⟨m, c, h1, hc, hl⟩
section
variable {m c : KM} (hc : Fulls c) (hl : c.length ≤ 20)
include hc hl
theorem turned_was : loop (law3_DiskTurned.st3 (4, m, c, false, 0, 0, 0, 0, 0)) (List.replicate 4 [], 0) = some [rd m c 0, rd m c 1, rd m c 2, rd m c 3] := by
  have step : ∀ (L : List (List UInt8)) (i : Nat), i < 4 → L.length = 4 → law3_DiskTurned.st3 (4, m, c, false, 0, 0, 0, 0, 0) (L, (i : Int)) = some (.inl (L.set i (rd m c (i : Int)), ((i + 1 : Nat) : Int))) := fun L i hi hL => by
    unfold law3_DiskTurned.st3
    simp only [Int.toNat_natCast, Nat.zero_add, Nat.mul_one]
    rw [ite_dt (by omega), Read_is c (by omega) (by omega)]
    simp only [Option.bind_some]
    rw [chk_true (by omega), chk_true (by omega), i64_id (by omega)]; rfl
  refine (loop_more (step _ 0 (by omega) rfl)).trans ((loop_more (step _ 1 (by omega) rfl)).trans ((loop_more (step _ 2 (by omega) rfl)).trans ((loop_more (step _ 3 (by omega) rfl)).trans ?_)))
  exact loop_last (by unfold law3_DiskTurned.st3; simp)
theorem turned_get (k : Nat) (hk : k < 4) : [rd m c 0, rd m c 1, rd m c 2, rd m c 3].getD k default = rd m c (k : Int) := by
  rcases (by omega : k = 0 ∨ k = 1 ∨ k = 2 ∨ k = 3) with rfl | rfl | rfl | rfl <;> rfl
theorem turned_bits {q p : Nat} (hq : q < 4) (hp : p < 65536) {a1 a2 : Int} (h1 : bitsOf .and .i64 a1 3 = (q : Int)) (h2 : bitsOf .and .i64 a2 65535 = (p : Int)) {s2 : List (List UInt8)} (hs : s2 = [rd m c 0, rd m c 1, rd m c 2, rd m c 3]) :
    loop (law3_DiskTurned.st2 (flipB (rd m c q) p, 0) a1 s2 a2) 0 = some (.inr ()) := by
  have hlen : (rd m c q).length = 8192 := rd_len m c q
  have hg : s2.getD q default = rd m c (q : Int) := by rw [hs]; exact turned_get hc hl q hq
  have h4 : s2.length = 4 := by rw [hs]; rfl
  have step : ∀ i : Nat, i < 8192 → law3_DiskTurned.st2 (flipB (rd m c q) p, 0) a1 s2 a2 (i : Int) = some (.inl ((i + 1 : Nat) : Int)) := fun i hi => by
    have k6 : law3_DiskTurned.k6 (i : Int) false = some (.inl ((i + 1 : Nat) : Int)) := by
      unfold law3_DiskTurned.k6
      rw [if_neg (by simp), i64_id (by omega)]; rfl
    unfold law3_DiskTurned.st2
    simp only [h1, h2, Int.toNat_natCast, Nat.zero_add, Nat.mul_one, hg, div8 p (by omega), mod8, one_bit, xx, flipB_len]
    rw [ite_dt (by omega), chk_true (by omega), chk_true (by omega), chk_true (by omega), chk_true (by omega), flipB_get _ _ _ (by omega)]
    by_cases e : i = p / 8
    · rw [ite_dt (by omega), if_pos e]
      have : (rd m c (q : Int)).getD i default ^^^ bit8 p ^^^ (rd m c (q : Int)).getD i default = bit8 p := by
        rw [UInt8.xor_comm ((rd m c (q : Int)).getD i default) (bit8 p), xor_xor]
      rw [this, ite_dt rfl]; exact k6
    · rw [ite_df (by omega), if_neg e, UInt8.xor_self]
      exact k6
  exact loop_up (fun i : Nat => (i : Int)) 8192 step (by unfold law3_DiskTurned.st2; simp)
end
theorem turned_again {m c : KM} (hc : Fulls c) (hl : c.length ≤ 20) {r4 : Int × KM × KM} (h4 : ∀ k : Nat, k < 4 → rd r4.2.1 r4.2.2 k = rd m c k) (hcl : r4.2.2.length ≤ 20) {s1 : Int × KM × KM × Bool × Int × Int × Int × Int × Int} (hs1 : s1 = (4, m, c, false, 0, 0, 0, 0, 0)) {s2 : List (List UInt8)} (hs : s2 = [rd m c 0, rd m c 1, rd m c 2, rd m c 3]) :
    loop (law3_DiskTurned.st1 s1 r4 s2) 0 = some (.inr ()) := by
  have hg : ∀ q : Nat, q < 4 → s2.getD q default = rd m c (q : Int) := fun q hq => by rw [hs]; exact turned_get hc hl q hq
  have h4' : s2.length = 4 := by rw [hs]; rfl
  subst hs1
  have step : ∀ i : Nat, i < 4 → law3_DiskTurned.st1 (4, m, c, false, 0, 0, 0, 0, 0) r4 s2 (i : Int) = some (.inl ((i + 1 : Nat) : Int)) := fun i hi => by
    unfold law3_DiskTurned.st1
    simp only [Int.toNat_natCast, Nat.zero_add, Nat.mul_one]
    rw [ite_dt (by omega), Read_is r4.2.2 (by omega) (by omega)]
    simp only [Option.bind_some]
    rw [chk_true (by omega), chk_true (by omega), hg i hi, h4 i hi, ite_nt rfl, i64_id (by omega)]; rfl
  exact loop_up (fun i : Nat => (i : Int)) 4 step (by unfold law3_DiskTurned.st1; simp)
theorem turned_is (l0 : Acts) (a1 a2 : Int) : law3_DiskTurned.impl l0 a1 a2 = some true := by
  unfold law3_DiskTurned.impl
  rw [New_is (by omega)]
  simp only [Option.bind_some]
  obtain ⟨m, c, h1, hc, hl⟩ := turned_acts l0
  rw [h1]
  simp only [Option.bind_some]
  unfold law3_DiskTurned.k1
  rw [turned_was hc hl]
  simp only [Option.bind_some]
  obtain ⟨q, hq, eq⟩ := at3 a1
  obtain ⟨p, hp, ep⟩ := at16 a2
  have hg := turned_get (m := m) hc hl q hq
  have hf := flipC_fulls hc (q : Int) p
  have hfl : (flipC c (q : Int) p).length ≤ 20 := by simpa [flipC] using hl
  generalize hs2 : [rd m c 0, rd m c 1, rd m c 2, rd m c 3] = s2 at hg ⊢
  have hlen : s2.length = 4 := by rw [← hs2]; rfl
  have hr : rd (mset m (q : Int) (flipB (blk m (q : Int)) p)) (flipC c (q : Int) p) (q : Int) = flipB (rd m c (q : Int)) p := by rw [rd_flip hc, if_pos rfl]
  unfold law3_DiskTurned.k2
  simp only [eq, ep]
  rw [Flip_is hc (by omega) hp]
  simp only [Option.bind_some, decide_true, Bool.not_true, Bool.false_eq_true, if_false]
  rw [Read_is _ (by omega) (by omega), hr]
  simp only [Option.bind_some, decide_true, if_true, Int.toNat_natCast, Nat.zero_add, Nat.mul_one, flipB_len, rd_len, hg]
  rw [ite_dt (by omega), chk_true (by omega), chk_true (by omega), show (!decide (((8192 : Nat) : Int) = 8192)) = false by decide]
  unfold law3_DiskTurned.k3
  rw [if_neg (by simp), turned_bits hc hl hq hp eq ep hs2.symm]
  simp only [Option.bind_some]
  unfold law3_DiskTurned.k4
  simp only [eq, ep]
  rw [Flip_is hf (by omega) hp]
  simp only [Option.bind_some]
  rw [turned_again hc hl (fun k hk => ?_) (by simpa [flipC] using hl) rfl hs2.symm]
  · simp [law3_DiskTurned.k5, told_is]
  · simp only []
    rw [rd_flip hf, rd_flip hc, rd_flip hc]
    by_cases e : (k : Int) = (q : Int)
    · rw [if_pos e, if_pos rfl, flipB_flipB, e]
    · rw [if_neg e, if_neg e]
end Go.Proofs.Ytfdogeebkbaadaa
