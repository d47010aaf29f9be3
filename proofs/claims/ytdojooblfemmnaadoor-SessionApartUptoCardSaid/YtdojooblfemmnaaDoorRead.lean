/- What ReadUint and ReadBytes read, in plain terms. -/
import Derived.Test.YtdojooblfemmnaaDoorUint
set_option linter.unusedVariables false
set_option linter.unusedSimpArgs false
namespace Go.Proofs.YtdojooblfemmnaaDoor
open Go Go.RowKit
/-- At most so many groups are read: the number, how many bytes, what is wrong. -/
def rdu : Nat → Nat → Nat → List UInt8 → Nat × Nat × Nat
  | 0, _, _, _ => (0, 0, 11)
  | _ + 1, _, _, [] => (0, 0, 10)
  | k + 1, v, i, c :: l => if i = 0 ∧ c.toNat = 128 then (0, 0, 11) else if c.toNat < 128 then (v * 128 + c.toNat, i + 1, 0) else rdu k (v * 128 + c.toNat % 128) (i + 1) l
def rdTo (at_ : Nat) (t : Nat × Nat × Nat) : Int × Int × Int := ((t.1 : Int), if t.2.2 = 0 then ((at_ + t.2.1 : Nat) : Int) else 0, (t.2.2 : Int))
theorem hi_lt (n : Nat) : n < 128 ^ (hi n).length := by
  induction n using Nat.strongRecOn with
  | ind n ih =>
    by_cases h0 : n = 0
    · subst h0; rw [hi_zero]; simp
    · rw [hi_pos (by omega), List.length_append, List.length_singleton, Nat.pow_succ]
      have := ih (n / 128) (by omega)
      omega
theorem ofNat_toNat {x : Nat} (h : x < 256) : (UInt8.ofNat x).toNat = x := by simp only [UInt8.toNat_ofNat']; omega
theorem rdu_hi {k m : Nat} {l : List UInt8} (h : (hi m).length ≤ k) : rdu k 0 0 (hi m ++ l) = rdu (k - (hi m).length) m (hi m).length l := by
  induction m using Nat.strongRecOn generalizing l with
  | ind m ih =>
    by_cases h0 : m = 0
    · subst h0; rw [hi_zero]; simp
    · have e := hi_pos (n := m) (by omega)
      have hl : (hi m).length = (hi (m / 128)).length + 1 := by rw [e]; simp
      rw [e, List.append_assoc, ih (m / 128) (by omega) (by omega)]
      have hc := ofNat_toNat (x := 128 + m % 128) (by omega)
      rw [show k - (hi (m / 128)).length = (k - (hi m).length) + 1 by omega]
      simp only [List.cons_append, List.nil_append, rdu, List.length_append, List.length_singleton]
      rw [hc, if_neg, if_neg (by omega)]
      · congr 1 <;> omega
      · rintro ⟨h1, h2⟩
        have : m / 128 = 0 := by
          by_cases hz : m / 128 = 0
          · exact hz
          · rw [hi_pos (by omega)] at h1; simp at h1
        omega
theorem rdu_uint {n : Nat} (hn : n < 9223372036854775808) (l : List UInt8) : rdu 9 0 0 (uint n ++ l) = (n, (uint n).length, 0) := by
  have := uint_le hn
  have hl := uint_len n
  have hc := ofNat_toNat (x := n % 128) (by omega)
  unfold uint
  rw [List.append_assoc, rdu_hi (by omega), show 9 - (hi (n / 128)).length = (8 - (hi (n / 128)).length) + 1 by omega]
  simp only [List.cons_append, List.nil_append, rdu, List.length_append, List.length_singleton]
  rw [hc, if_neg (by omega), if_pos (by omega)]
  congr 1; omega
theorem hi_take (m j : Nat) (h : j ≤ (hi m).length) : ∃ m', (hi m).take j = hi m' := by
  induction m using Nat.strongRecOn generalizing j with
  | ind m ih =>
    by_cases h0 : j = (hi m).length
    · exact ⟨m, by rw [h0, List.take_length]⟩
    · have hp : 0 < m := by
        by_cases hz : m = 0
        · subst hz; rw [hi_zero] at h h0; simp at h h0; omega
        · omega
      have e := hi_pos hp
      have hl : (hi m).length = (hi (m / 128)).length + 1 := by rw [e]; simp
      obtain ⟨m', hm⟩ := ih (m / 128) (by omega) j (by omega)
      exact ⟨m', by rw [e, List.take_append_of_le_length (by omega), hm]⟩
theorem rdu_short {n j : Nat} (hn : n < 9223372036854775808) (hj : j < (uint n).length) : rdu 9 0 0 ((uint n).take j) = (0, 0, 10) := by
  have := uint_le hn
  have hl := uint_len n
  obtain ⟨m, hm⟩ := hi_take (n / 128) j (by omega)
  have hml : (hi m).length ≤ 8 := by rw [← hm, List.length_take]; omega
  unfold uint
  rw [List.take_append_of_le_length (by omega), hm, show hi m = hi m ++ [] by simp, rdu_hi (by omega), show 9 - (hi m).length = (8 - (hi m).length) + 1 by omega]
  simp only [rdu]
theorem rdu_is {k v : Nat} {l : List UInt8} {x p : Nat} (hk : k + (hi v).length = 9) (h : rdu k v (hi v).length l = (x, p, 0)) : ∃ t, p = (hi v).length + t ∧ 0 < t ∧ t ≤ l.length ∧ hi v ++ l.take t = uint x ∧ x < 9223372036854775808 := by
  induction k generalizing v l with
  | zero => simp [rdu] at h
  | succ k ih =>
    cases l with
    | nil => simp [rdu] at h
    | cons c l =>
      have hc : c.toNat < 256 := c.toNat_lt
      simp only [rdu] at h
      split at h
      · simp at h
      · rename_i h1
        split at h
        · rename_i h2
          simp only [Prod.mk.injEq, and_true] at h
          obtain ⟨rfl, rfl⟩ := h
          refine ⟨1, rfl, by omega, by simp, ?_, ?_⟩
          · unfold uint
            rw [show (v * 128 + c.toNat) / 128 = v by omega, show (v * 128 + c.toNat) % 128 = c.toNat by omega]
            simp
          · have h3 := hi_lt v
            have : 128 ^ (hi v).length ≤ 128 ^ 8 := Nat.pow_le_pow_right (by decide) (by omega)
            omega
        · rename_i h2
          have hpos : 0 < v * 128 + c.toNat % 128 := by
            by_cases hv : v = 0
            · subst hv
              have : ¬ c.toNat = 128 := fun hh => h1 ⟨by rw [hi_zero]; rfl, hh⟩
              omega
            · omega
          have e := hi_pos hpos
          rw [show (v * 128 + c.toNat % 128) / 128 = v by omega, show 128 + (v * 128 + c.toNat % 128) % 128 = c.toNat by omega, UInt8.ofNat_toNat] at e
          have hl : (hi (v * 128 + c.toNat % 128)).length = (hi v).length + 1 := by rw [e]; simp
          rw [← hl] at h
          obtain ⟨t, h3, h4, h5, h6, h7⟩ := ih (by omega) h
          refine ⟨t + 1, by omega, by omega, by simp; omega, ?_, h7⟩
          rw [← h6, e]; simp
/-! ### ReadUint -/
theorem or7 {v c : Nat} (hv : v < 72057594037927936) (hc : c < 128) : bitsOf .or .i64 (shlI .i64 (v : Int) 7) (c : Int) = ((v * 128 + c : Nat) : Int) := by
  have h1 : shlI .i64 (v : Int) 7 = ((v * 128 : Nat) : Int) := by
    unfold shlI
    rw [show min (7 : Int).toNat IntKind.i64.bits = 7 from rfl, i64_id (by omega)]; omega
  have h2 : (v <<< 7 ||| c) = v * 128 + c := by rw [← Nat.shiftLeft_add_eq_or_of_lt (by omega), Nat.shiftLeft_eq]
  rw [h1]
  show IntKind.i64.wrap ((BitVec.ofInt 64 ((v * 128 : Nat) : Int) ||| BitVec.ofInt 64 (c : Int)).toNat : Nat) = _
  rw [BitVec.ofInt_natCast, BitVec.ofInt_natCast, BitVec.toNat_or, BitVec.toNat_ofNat, BitVec.toNat_ofNat, Nat.mod_eq_of_lt (by omega), Nat.mod_eq_of_lt (by omega), show v * 128 = v <<< 7 by rw [Nat.shiftLeft_eq], h2, i64_id (by omega), Nat.shiftLeft_eq]
theorem u8_and127 {x : Nat} (h : x < 256) : IntKind.i64.wrap (bitsOf .and .u8 (x : Int) 127) = ((x % 128 : Nat) : Int) := by
  have : ∀ y : Fin 256, IntKind.i64.wrap (bitsOf .and .u8 ((y.val : Nat) : Int) 127) = ((y.val % 128 : Nat) : Int) := by decide +kernel
  exact this ⟨x, h⟩
theorem rd_loop {l : List UInt8} {at_ : Nat} (hl : l.length ≤ 9223372036854775807) (ha : at_ ≤ l.length) : ∀ (k v i : Nat), k + i = 9 → at_ + i ≤ l.length → v < 128 ^ i →
    ∃ r, loop (wire_ReadUint.st1 l (at_ : Int)) ((v : Int), (i : Int)) = some r ∧ (match r with | .inl t => t | .inr _ => (0, 0, 11)) = rdTo at_ (rdu k v i (l.drop (at_ + i))) := by
  intro k
  induction k with
  | zero =>
    intro v i hi hai hv
    refine ⟨.inr (), loop_last ?_, ?_⟩
    · unfold wire_ReadUint.st1
      rw [ite_df (by simp only; omega)]
    · simp [rdu, rdTo]
  | succ k ih =>
    intro v i hi hai hv
    have w1 : IntKind.i64.wrap ((at_ : Int) + (i : Int)) = ((at_ + i : Nat) : Int) := by rw [i64_id (by omega)]; omega
    by_cases hs : at_ + i < l.length
    · have hd : l.drop (at_ + i) = l[at_ + i] :: l.drop (at_ + (i + 1)) := by rw [List.drop_eq_getElem_cons hs]; rfl
      have hg : l.getD (at_ + i) default = l[at_ + i] := by rw [List.getD_eq_getElem?_getD, List.getElem?_eq_getElem hs]; rfl
      have w2 : IntKind.i64.wrap (((at_ + i : Nat) : Int) + 1) = ((at_ + (i + 1) : Nat) : Int) := by rw [i64_id (by omega)]; omega
      have w3 : IntKind.i64.wrap ((i : Int) + 1) = ((i + 1 : Nat) : Int) := by rw [i64_id (by omega)]; omega
      have hc : (l[at_ + i]).toNat < 256 := (l[at_ + i]).toNat_lt
      have hp : 128 ^ i ≤ 128 ^ 8 := Nat.pow_le_pow_right (by decide) (by omega)
      have w4 : bitsOf .or .i64 (shlI .i64 (v : Int) 7) (IntKind.i64.wrap (bitsOf .and .u8 (((l[at_ + i]).toNat : Nat) : Int) 127)) = ((v * 128 + (l[at_ + i]).toNat % 128 : Nat) : Int) := by
        rw [u8_and127 hc, or7 (by omega) (by omega)]
      have main : wire_ReadUint.st1 l (at_ : Int) ((v : Int), (i : Int)) = wire_ReadUint.k3 l (at_ : Int) ((v : Int), (i : Int)) (decide (i = 0 ∧ (l[at_ + i]).toNat = 128)) := by
        unfold wire_ReadUint.st1
        simp only [w1]
        rw [ite_dt (by omega), ite_df (by omega), chk_pos (by omega)]
        by_cases h0 : i = 0
        · rw [ite_dt (by omega)]
          simp only [Int.toNat_natCast, hg]
          congr 1
          exact decide_eq_decide.2 ⟨fun h => ⟨h0, by omega⟩, fun h => by have := h.2; omega⟩
        · rw [ite_df (by omega)]
          simp [h0]
      rw [hd]
      by_cases h1 : i = 0 ∧ (l[at_ + i]).toNat = 128
      · refine ⟨.inl (0, 0, 11), loop_last ?_, ?_⟩
        · rw [main, wire_ReadUint.k3, ite_t (by simp only [decide_eq_true_eq]; exact h1)]
        · simp only [rdu, if_pos h1]; rfl
      · have h1' : decide (i = 0 ∧ (l[at_ + i]).toNat = 128) = false := by simp only [decide_eq_false_iff_not]; exact h1
        by_cases h2 : (l[at_ + i]).toNat < 128
        · refine ⟨.inl (((v * 128 + (l[at_ + i]).toNat : Nat) : Int), ((at_ + (i + 1) : Nat) : Int), 0), loop_last ?_, ?_⟩
          · rw [main, wire_ReadUint.k3, ite_f h1']
            simp only [w1, w2, w3, Int.toNat_natCast, hg, w4]
            rw [ite_dt (by omega), show (l[at_ + i]).toNat % 128 = (l[at_ + i]).toNat by omega]
          · simp only [rdu, if_neg h1, if_pos h2]; rfl
        · obtain ⟨r, hr, hr2⟩ := ih (v * 128 + (l[at_ + i]).toNat % 128) (i + 1) (by omega) (by omega) (by rw [Nat.pow_succ]; omega)
          refine ⟨r, ?_, ?_⟩
          · rw [← hr]
            refine loop_more ?_
            rw [main, wire_ReadUint.k3, ite_f h1']
            simp only [w1, w2, w3, Int.toNat_natCast, hg, w4]
            rw [ite_df (by omega)]
          · rw [hr2]; simp only [rdu, if_neg h1, if_neg h2]
    · refine ⟨.inl (0, 0, 10), loop_last ?_, ?_⟩
      · unfold wire_ReadUint.st1
        simp only [w1]
        rw [ite_dt (by omega), ite_dt (by omega)]
      · rw [List.drop_of_length_le (by omega)]; simp [rdu, rdTo]
theorem ReadUint_in {l : List UInt8} {at_ : Nat} (hl : l.length ≤ 9223372036854775807) (ha : at_ ≤ l.length) : wire_ReadUint.impl l (at_ : Int) = some (rdTo at_ (rdu 9 0 0 (l.drop at_))) := by
  obtain ⟨r, h1, h2⟩ := rd_loop hl ha 9 0 0 rfl (by omega) (by decide)
  unfold wire_ReadUint.impl
  rw [ite_df (by omega), show decide ((l.length : Int) < (at_ : Int)) = false by simp; omega]
  unfold wire_ReadUint.k1
  rw [ite_f rfl]
  rw [show ((0 : Int), (0 : Int)) = (((0 : Nat) : Int), ((0 : Nat) : Int)) from rfl, h1]
  simp only [Nat.add_zero] at h2
  cases r with
  | inl t => simp only [Option.bind_some]; rw [← h2]
  | inr t => simp only [Option.bind_some, wire_ReadUint.k2]; rw [← h2]
theorem ReadUint_out {l : List UInt8} {a : Int} (ha : a < 0 ∨ (l.length : Int) < a) : wire_ReadUint.impl l a = some (0, 0, 1) := by
  unfold wire_ReadUint.impl
  by_cases h : a < 0
  · rw [ite_dt h]; unfold wire_ReadUint.k1; rw [ite_t rfl]
  · rw [ite_df h, show decide ((l.length : Int) < a) = true by simp; omega]; unfold wire_ReadUint.k1; rw [ite_t rfl]
end Go.Proofs.YtdojooblfemmnaaDoor
