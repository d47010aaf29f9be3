/- Numbers as bytes: what Uint writes and ReadUint reads, in plain terms. What ReadUint and ReadBytes read, in plain terms. ReadBytes and ReadUint in plain terms. -/
import Derived.Test.YtpogdeibkghhaaaDoorNums
import Derived.Test.YtpogdeibkghhaaaDoorWire
set_option linter.unusedVariables false
set_option linter.unusedSimpArgs false
namespace Go.Proofs.YtpogdeibkghhaaaDoor
open Go Go.RowKit
/-! ### The bytes of a number -/
/-- The groups ahead of the last one. -/
def hi (n : Nat) : List UInt8 := if h : n = 0 then [] else hi (n / 128) ++ [UInt8.ofNat (128 + n % 128)]
termination_by n
decreasing_by omega
def uint (n : Nat) : List UInt8 := hi (n / 128) ++ [UInt8.ofNat (n % 128)]
theorem hi_zero : hi 0 = [] := by rw [hi]; rfl
theorem hi_pos {n : Nat} (h : 0 < n) : hi n = hi (n / 128) ++ [UInt8.ofNat (128 + n % 128)] := by rw [hi, dif_neg (by omega)]
theorem hi_len {n : Nat} (k : Nat) (h : n < 128 ^ k) : (hi n).length ≤ k := by
  induction k generalizing n with
  | zero => rw [show n = 0 by simpa using h, hi_zero]; simp
  | succ k ih =>
    by_cases h0 : n = 0
    · rw [h0, hi_zero]; simp
    · rw [hi_pos (by omega), List.length_append]
      have := ih (n := n / 128) (Nat.div_lt_of_lt_mul (by rw [Nat.pow_succ, Nat.mul_comm] at h; exact h))
      simp; omega
theorem hi_get {n i : Nat} (h : i < (hi n).length) : (hi n)[i] = UInt8.ofNat (128 + n / 128 ^ ((hi n).length - 1 - i) % 128) := by
  induction n using Nat.strongRecOn generalizing i with
  | ind n ih =>
    by_cases h0 : n = 0
    · subst h0; simp [hi_zero] at h
    · have e := hi_pos (n := n) (by omega)
      have hl : (hi n).length = (hi (n / 128)).length + 1 := by rw [e]; simp
      by_cases hi' : i < (hi (n / 128)).length
      · have := ih (n / 128) (by omega) hi'
        rw [hl]
        simp only [e]
        rw [List.getElem_append_left hi', this, Nat.div_div_eq_div_mul, ← Nat.pow_succ']
        congr 5; omega
      · have hii : i = (hi (n / 128)).length := by omega
        rw [hl]
        simp only [e]
        rw [List.getElem_append_right (by omega)]
        simp [hii]
theorem uint_len (n : Nat) : (uint n).length = (hi (n / 128)).length + 1 := by simp [uint]
theorem uint_pos (n : Nat) : 0 < (uint n).length := by rw [uint_len]; omega
theorem uint_le {n : Nat} (h : n < 9223372036854775808) : (uint n).length ≤ 9 := by
  rw [uint_len]
  have := hi_len (n := n / 128) 8 (by omega)
  omega
/-- The byte at i. -/
def dig (g n i : Nat) : UInt8 := if i + 1 < g then UInt8.ofNat (128 + n / 128 ^ (g - 1 - i) % 128) else UInt8.ofNat (n / 128 ^ (g - 1 - i) % 128)
theorem uint_get {n i : Nat} (h : i < (uint n).length) : (uint n)[i] = dig (uint n).length n i := by
  have hl := uint_len n
  unfold dig
  by_cases h1 : i + 1 < (uint n).length
  · rw [if_pos h1]
    have hi' : i < (hi (n / 128)).length := by omega
    simp only [uint]
    rw [List.getElem_append_left hi', hi_get hi', Nat.div_div_eq_div_mul, ← Nat.pow_succ']
    congr 5
    simp only [List.length_append, List.length_cons, List.length_nil]
    omega
  · rw [if_neg h1]
    have hii : i = (hi (n / 128)).length := by omega
    simp only [uint]
    rw [List.getElem_append_right (by omega)]
    simp [hii]
/-! ### What Uint writes -/
theorem fill_set {α : Type} (u : List α) (z : α) {i : Nat} (h : i < u.length) : (u.take i ++ List.replicate (u.length - i) z).set i u[i] = u.take (i + 1) ++ List.replicate (u.length - (i + 1)) z := by
  rw [List.set_append_right _ _ (by simp; omega), show i - (u.take i).length = 0 by simp; omega, show u.length - i = (u.length - (i + 1)) + 1 by omega, List.replicate_succ, List.set_cons_zero, ← List.take_append_getElem h, List.append_assoc]
  rfl
theorem i64_shr (n k : Nat) (h : k ≤ 64) : shrI .i64 (n : Int) (k : Int) = ((n >>> k : Nat) : Int) := by
  rw [shr_nat .i64 n (by simpa [IntKind.bits] using h)]; simp
theorem i64_and127 (n : Nat) : bitsOf .and .i64 (n : Int) 127 = ((n % 128 : Nat) : Int) := by
  rw [i64_mask 7 (by decide) _ 127 (by decide), Int.natCast_emod]; rfl
theorem u8_or128 {x : Nat} (h : x < 128) : bitsOf .or .u8 (x : Int) 128 = ((128 + x : Nat) : Int) := by
  have : ∀ y : Fin 128, bitsOf .or .u8 ((y.val : Nat) : Int) 128 = ((128 + y.val : Nat) : Int) := by decide +kernel
  exact this ⟨x, h⟩
theorem groups (m c : Nat) (h : c + (hi m).length ≤ 9223372036854775807) (hm : m < 9223372036854775808) : loop wire_Uint.st2 ((c : Int), (m : Int)) = some ((c + (hi m).length : Nat) : Int) := by
  induction m using Nat.strongRecOn generalizing c with
  | ind m ih =>
    by_cases h0 : m = 0
    · subst h0; rw [hi_zero]; exact loop_last (by simp [wire_Uint.st2])
    · have e := hi_pos (n := m) (by omega)
      have hl : (hi m).length = (hi (m / 128)).length + 1 := by rw [e]; simp
      rw [loop_more (s' := (((c + 1 : Nat) : Int), ((m / 128 : Nat) : Int))) ?_, ih (m / 128) (by omega) (c + 1) (by omega) (by omega), hl]
      · congr 2; omega
      · unfold wire_Uint.st2
        rw [ite_dt (by simp; omega)]
        simp only [show shrI .i64 (m : Int) 7 = ((m / 128 : Nat) : Int) from by rw [show (7 : Int) = ((7 : Nat) : Int) from rfl, i64_shr m 7 (by decide), Nat.shiftRight_eq_div_pow], i64_nat (n := c + 1) (by omega), show ((c : Int) + 1) = ((c + 1 : Nat) : Int) by omega]
theorem uint_round {g i n : Nat} {l : List UInt8} (hl : l.length = g) (hi : i < g) (hg : g ≤ 9) (hn : n < 9223372036854775808) :
    wire_Uint.st1 (g : Int) (n : Int) (l, (i : Int)) = some (.inl (l.set i (dig g n i), ((i + 1 : Nat) : Int))) := by
  have w1 : IntKind.i64.wrap ((g : Int) - 1) = ((g - 1 : Nat) : Int) := by rw [i64_id (by omega)]; omega
  have w2 : IntKind.i64.wrap (((g - 1 : Nat) : Int) - (i : Int)) = ((g - 1 - i : Nat) : Int) := by rw [i64_id (by omega)]; omega
  have w3 : IntKind.i64.wrap (7 * ((g - 1 - i : Nat) : Int)) = ((7 * (g - 1 - i) : Nat) : Int) := by rw [i64_id (by omega)]; omega
  have w4 : IntKind.i64.wrap ((i : Int) + 1) = ((i + 1 : Nat) : Int) := by rw [i64_id (by omega)]; omega
  have hp : n >>> (7 * (g - 1 - i)) = n / 128 ^ (g - 1 - i) := by rw [Nat.shiftRight_eq_div_pow, Nat.pow_mul]
  have hlt : n / 128 ^ (g - 1 - i) % 128 < 128 := Nat.mod_lt _ (by decide)
  have w5 : u8 (IntKind.u8.wrap (bitsOf .and .i64 (shrI .i64 (n : Int) ((7 * (g - 1 - i) : Nat) : Int)) 127)) = UInt8.ofNat (n / 128 ^ (g - 1 - i) % 128) := by
    rw [i64_shr _ _ (by omega), hp, i64_and127, u8_id (by omega), u8_nat]
  unfold wire_Uint.st1
  simp only [w1, w2, w3, w4, w5]
  rw [ite_dt (by omega), chk_pos (by omega), chk_pos (by omega)]
  by_cases h : i + 1 < g
  · rw [ite_dt (by omega), chk_pos (by simp only [List.length_set]; omega), chk_pos (by simp only [List.length_set]; omega)]
    congr 3
    simp only [Int.toNat_natCast, List.set_set]
    congr 1
    rw [List.getD_eq_getElem?_getD, List.getElem?_set_self (by omega)]
    simp only [Option.getD_some, UInt8.toNat_ofNat']
    rw [Nat.mod_eq_of_lt (by omega), u8_or128 hlt, u8_nat, dig, if_pos h]
  · rw [ite_df (by omega), dig, if_neg h]
    simp
theorem Uint_is {n : Nat} (hn : n < 9223372036854775808) : wire_Uint.impl (n : Int) = some (uint n) := by
  have hg := uint_le hn
  have hl := uint_len n
  have hp := uint_pos n
  unfold wire_Uint.impl
  rw [ite_df (by omega), show shrI .i64 (n : Int) 7 = ((n / 128 : Nat) : Int) from by rw [show (7 : Int) = ((7 : Nat) : Int) from rfl, i64_shr n 7 (by decide), Nat.shiftRight_eq_div_pow],
    show ((1 : Int), ((n / 128 : Nat) : Int)) = (((1 : Nat) : Int), ((n / 128 : Nat) : Int)) from rfl, groups _ _ (by omega) (by omega), show 1 + (hi (n / 128)).length = (uint n).length by omega]
  simp only [Option.bind_some]
  unfold wire_Uint.k1
  rw [chk_pos (by omega)]
  simp only [Int.toNat_natCast]
  have := loop_up (step := wire_Uint.st1 ((uint n).length : Int) (n : Int)) (r := uint n) (fun i => ((uint n).take i ++ List.replicate ((uint n).length - i) (0 : UInt8), (i : Int))) (uint n).length (fun i hi => by
      rw [uint_round (by simp; omega) hi hg hn, ← uint_get hi, fill_set _ _ hi]) (by
      unfold wire_Uint.st1
      rw [ite_df (by simp)]
      simp)
  simp only [List.take_zero, List.nil_append, Nat.sub_zero, Int.ofNat_zero] at this
  erw [this]
  rfl
theorem Bytes_is {s : List UInt8} (hs : s.length ≤ 140737488355300) : wire_Bytes.impl s = some (uint s.length ++ s) := by
  unfold wire_Bytes.impl
  rw [Uint_is (by omega)]
  have := uint_le (n := s.length) (by omega)
  simp only [Option.bind_some]
  rw [chk_pos (by omega)]
end Go.Proofs.YtpogdeibkghhaaaDoor

set_option linter.unusedVariables false
set_option linter.unusedSimpArgs false
namespace Go.Proofs.YtpogdeibkghhaaaDoor
open Go Go.RowKit
/-- At most so many groups are read: the number, how many bytes, what is wrong. -/
def rdu : Nat → Nat → Nat → List UInt8 → Nat × Nat × Nat
  | 0, _, _, _ => (0, 0, 11)
  | _ + 1, _, _, [] => (0, 0, 10)
  | k + 1, v, i, c :: l => if i = 0 ∧ c.toNat = 128 then (0, 0, 11) else if c.toNat < 128 then (v * 128 + c.toNat, i + 1, 0) else rdu k (v * 128 + c.toNat % 128) (i + 1) l
def rdTo (at_ : Nat) (t : Nat × Nat × Nat) : Int × Int × Int := ((t.1 : Int), if t.2.2 = 0 then ((at_ + t.2.1 : Nat) : Int) else 0, (t.2.2 : Int))
theorem ofNat_toNat {x : Nat} (h : x < 256) : (UInt8.ofNat x).toNat = x := by simp only [UInt8.toNat_ofNat']; omega
theorem rdu_hi {k m : Nat} {l : List UInt8} (h : (hi m).length ≤ k) : rdu k 0 0 (hi m ++ l) = rdu (k - (hi m).length) m (hi m).length l := by
  induction m using Nat.strongRecOn generalizing l with
  | ind m ih =>
    by_cases h0 : m = 0
    · subst h0; rw [hi_zero]; simp
    · have e := hi_pos (n := m) (by omega)
      have hl : (hi m).length = (hi (m / 128)).length + 1 := by rw [e]; simp
      rw [e, List.append_assoc, ih (m / 128) (by omega) (by omega)]
      have hc := ofNat_toNat (x := 128 + m % 128) (by omega)
      rw [show k - (hi (m / 128)).length = (k - (hi m).length) + 1 by omega]
      simp only [List.cons_append, List.nil_append, rdu, List.length_append, List.length_singleton]
      rw [hc, if_neg, if_neg (by omega)]
      · congr 1 <;> omega
      · rintro ⟨h1, h2⟩
        have : m / 128 = 0 := by
          by_cases hz : m / 128 = 0
          · exact hz
          · rw [hi_pos (by omega)] at h1; simp at h1
        omega
theorem rdu_uint {n : Nat} (hn : n < 9223372036854775808) (l : List UInt8) : rdu 9 0 0 (uint n ++ l) = (n, (uint n).length, 0) := by
  have := uint_le hn
  have hl := uint_len n
  have hc := ofNat_toNat (x := n % 128) (by omega)
  unfold uint
  rw [List.append_assoc, rdu_hi (by omega), show 9 - (hi (n / 128)).length = (8 - (hi (n / 128)).length) + 1 by omega]
  simp only [List.cons_append, List.nil_append, rdu, List.length_append, List.length_singleton]
  rw [hc, if_neg (by omega), if_pos (by omega)]
  congr 1; omega
/-! ### ReadUint -/
theorem or7 {v c : Nat} (hv : v < 72057594037927936) (hc : c < 128) : bitsOf .or .i64 (shlI .i64 (v : Int) 7) (c : Int) = ((v * 128 + c : Nat) : Int) := by
  have h1 : shlI .i64 (v : Int) 7 = ((v * 128 : Nat) : Int) := by
    unfold shlI
    rw [show min (7 : Int).toNat IntKind.i64.bits = 7 from rfl, i64_id (by omega)]; omega
  have h2 : (v <<< 7 ||| c) = v * 128 + c := by rw [← Nat.shiftLeft_add_eq_or_of_lt (by omega), Nat.shiftLeft_eq]
  rw [h1]
  show IntKind.i64.wrap ((BitVec.ofInt 64 ((v * 128 : Nat) : Int) ||| BitVec.ofInt 64 (c : Int)).toNat : Nat) = _
  rw [BitVec.ofInt_natCast, BitVec.ofInt_natCast, BitVec.toNat_or, BitVec.toNat_ofNat, BitVec.toNat_ofNat, Nat.mod_eq_of_lt (by omega), Nat.mod_eq_of_lt (by omega), show v * 128 = v <<< 7 by rw [Nat.shiftLeft_eq], h2, i64_id (by omega), Nat.shiftLeft_eq]
theorem u8_and127 {x : Nat} (h : x < 256) : IntKind.i64.wrap (bitsOf .and .u8 (x : Int) 127) = ((x % 128 : Nat) : Int) := by
  have : ∀ y : Fin 256, IntKind.i64.wrap (bitsOf .and .u8 ((y.val : Nat) : Int) 127) = ((y.val % 128 : Nat) : Int) := by decide +kernel
  exact this ⟨x, h⟩
theorem rd_loop {l : List UInt8} {at_ : Nat} (hl : l.length ≤ 9223372036854775807) (ha : at_ ≤ l.length) : ∀ (k v i : Nat), k + i = 9 → at_ + i ≤ l.length → v < 128 ^ i →
    ∃ r, loop (wire_ReadUint.st1 l (at_ : Int)) ((v : Int), (i : Int)) = some r ∧ (match r with | .inl t => t | .inr _ => (0, 0, 11)) = rdTo at_ (rdu k v i (l.drop (at_ + i))) := by
  intro k
  induction k with
  | zero =>
    intro v i hi hai hv
    refine ⟨.inr (), loop_last ?_, ?_⟩
    · unfold wire_ReadUint.st1
      rw [ite_df (by simp only; omega)]
    · simp [rdu, rdTo]
  | succ k ih =>
    intro v i hi hai hv
    have w1 : IntKind.i64.wrap ((at_ : Int) + (i : Int)) = ((at_ + i : Nat) : Int) := by rw [i64_id (by omega)]; omega
    by_cases hs : at_ + i < l.length
    · have hd : l.drop (at_ + i) = l[at_ + i] :: l.drop (at_ + (i + 1)) := by rw [List.drop_eq_getElem_cons hs]; rfl
      have hg : l.getD (at_ + i) default = l[at_ + i] := by rw [List.getD_eq_getElem?_getD, List.getElem?_eq_getElem hs]; rfl
      have w2 : IntKind.i64.wrap (((at_ + i : Nat) : Int) + 1) = ((at_ + (i + 1) : Nat) : Int) := by rw [i64_id (by omega)]; omega
      have w3 : IntKind.i64.wrap ((i : Int) + 1) = ((i + 1 : Nat) : Int) := by rw [i64_id (by omega)]; omega
      have hc : (l[at_ + i]).toNat < 256 := (l[at_ + i]).toNat_lt
      have hp : 128 ^ i ≤ 128 ^ 8 := Nat.pow_le_pow_right (by decide) (by omega)
      have w4 : bitsOf .or .i64 (shlI .i64 (v : Int) 7) (IntKind.i64.wrap (bitsOf .and .u8 (((l[at_ + i]).toNat : Nat) : Int) 127)) = ((v * 128 + (l[at_ + i]).toNat % 128 : Nat) : Int) := by
        rw [u8_and127 hc, or7 (by omega) (by omega)]
      have main : wire_ReadUint.st1 l (at_ : Int) ((v : Int), (i : Int)) = wire_ReadUint.k3 l (at_ : Int) ((v : Int), (i : Int)) (decide (i = 0 ∧ (l[at_ + i]).toNat = 128)) := by
        unfold wire_ReadUint.st1
        simp only [w1]
        rw [ite_dt (by omega), ite_df (by omega), chk_pos (by omega)]
        by_cases h0 : i = 0
        · rw [ite_dt (by omega)]
          simp only [Int.toNat_natCast, hg]
          congr 1
          exact decide_eq_decide.2 ⟨fun h => ⟨h0, by omega⟩, fun h => by have := h.2; omega⟩
        · rw [ite_df (by omega)]
          simp [h0]
      rw [hd]
      by_cases h1 : i = 0 ∧ (l[at_ + i]).toNat = 128
      · refine ⟨.inl (0, 0, 11), loop_last ?_, ?_⟩
        · rw [main, wire_ReadUint.k3, ite_t (by simp only [decide_eq_true_eq]; exact h1)]
        · simp only [rdu, if_pos h1]; rfl
      · have h1' : decide (i = 0 ∧ (l[at_ + i]).toNat = 128) = false := by simp only [decide_eq_false_iff_not]; exact h1
        by_cases h2 : (l[at_ + i]).toNat < 128
        · refine ⟨.inl (((v * 128 + (l[at_ + i]).toNat : Nat) : Int), ((at_ + (i + 1) : Nat) : Int), 0), loop_last ?_, ?_⟩
          · rw [main, wire_ReadUint.k3, ite_f h1']
            simp only [w1, w2, w3, Int.toNat_natCast, hg, w4]
            rw [ite_dt (by omega), show (l[at_ + i]).toNat % 128 = (l[at_ + i]).toNat by omega]
          · simp only [rdu, if_neg h1, if_pos h2]; rfl
        · obtain ⟨r, hr, hr2⟩ := ih (v * 128 + (l[at_ + i]).toNat % 128) (i + 1) (by omega) (by omega) (by rw [Nat.pow_succ]; omega)
          refine ⟨r, ?_, ?_⟩
          · rw [← hr]
            refine loop_more ?_
            rw [main, wire_ReadUint.k3, ite_f h1']
            simp only [w1, w2, w3, Int.toNat_natCast, hg, w4]
            rw [ite_df (by omega)]
          · rw [hr2]; simp only [rdu, if_neg h1, if_neg h2]
    · refine ⟨.inl (0, 0, 10), loop_last ?_, ?_⟩
      · unfold wire_ReadUint.st1
        simp only [w1]
        rw [ite_dt (by omega), ite_dt (by omega)]
      · rw [List.drop_of_length_le (by omega)]; simp [rdu, rdTo]
theorem ReadUint_in {l : List UInt8} {at_ : Nat} (hl : l.length ≤ 9223372036854775807) (ha : at_ ≤ l.length) : wire_ReadUint.impl l (at_ : Int) = some (rdTo at_ (rdu 9 0 0 (l.drop at_))) := by
  obtain ⟨r, h1, h2⟩ := rd_loop hl ha 9 0 0 rfl (by omega) (by decide)
  unfold wire_ReadUint.impl
  rw [ite_df (by omega), show decide ((l.length : Int) < (at_ : Int)) = false by simp; omega]
  unfold wire_ReadUint.k1
  rw [ite_f rfl]
  rw [show ((0 : Int), (0 : Int)) = (((0 : Nat) : Int), ((0 : Nat) : Int)) from rfl, h1]
  simp only [Nat.add_zero] at h2
  cases r with
  | inl t => simp only [Option.bind_some]; rw [← h2]
  | inr t => simp only [Option.bind_some, wire_ReadUint.k2]; rw [← h2]
end Go.Proofs.YtpogdeibkghhaaaDoor

set_option linter.unusedVariables false
set_option linter.unusedSimpArgs false
namespace Go.Proofs.YtpogdeibkghhaaaDoor
open Go Go.RowKit
/-! ### ReadBytes -/
theorem rb_err {l : List UInt8} {a m : Int} {x p e : Int} (h : wire_ReadUint.impl l a = some (x, p, e)) (he : ¬ e = 0) : wire_ReadBytes.impl l a m = some ([], 0, e) := by
  unfold wire_ReadBytes.impl
  rw [h]; simp only [Option.bind_some]
  rw [ite_nf he]
theorem rb_long {l : List UInt8} {a m : Int} {x p : Int} (h : wire_ReadUint.impl l a = some (x, p, 0)) (hm : 0 ≤ m) (hx : m < x) : wire_ReadBytes.impl l a m = some ([], 0, 3) := by
  unfold wire_ReadBytes.impl
  rw [h]; simp only [Option.bind_some]
  rw [ite_nt (by trivial), ite_df (by omega), ite_dt hx]
theorem rb_short {l : List UInt8} {a m : Int} {x p : Nat} (h : wire_ReadUint.impl l a = some ((x : Int), (p : Int), 0)) (hm : (x : Int) ≤ m) (hl : l.length ≤ 9223372036854775807) (hp : p ≤ l.length) (hx : l.length < p + x) : wire_ReadBytes.impl l a m = some ([], 0, 10) := by
  unfold wire_ReadBytes.impl
  rw [h]; simp only [Option.bind_some]
  rw [ite_nt (by trivial), ite_df (by omega), ite_df (by omega), i64_id (by omega), ite_dt (by omega)]
theorem rb_ok {l : List UInt8} {a m : Int} {x p : Nat} (h : wire_ReadUint.impl l a = some ((x : Int), (p : Int), 0)) (hm : (x : Int) ≤ m) (hl : l.length ≤ 9223372036854775807) (hx : p + x ≤ l.length) (hs : x ≤ 140737488355328) : wire_ReadBytes.impl l a m = some ((l.drop p).take x, ((p + x : Nat) : Int), 0) := by
  unfold wire_ReadBytes.impl
  rw [h]; simp only [Option.bind_some]
  have w : IntKind.i64.wrap ((p : Int) + (x : Int)) = ((p + x : Nat) : Int) := by rw [i64_id (by omega)]; omega
  rw [ite_nt (by trivial), ite_df (by omega), ite_df (by omega), i64_id (n := (l.length : Int) - (p : Int)) (by omega), ite_df (by omega)]
  simp only [w]
  have e : subl l (p : Int) ((p + x : Nat) : Int) = (l.drop p).take x := by
    unfold subl
    rw [Int.toNat_natCast, Int.toNat_natCast, List.drop_take, show p + x - p = x by omega]
  rw [chk_pos (by omega), e, chk_pos (by simp only [List.length_nil, List.length_take]; omega)]
  simp
theorem RU_uint {n : Nat} (pre suf : List UInt8) (hn : n < 9223372036854775808) (hl : (pre ++ (uint n ++ suf)).length ≤ 9223372036854775807) : wire_ReadUint.impl (pre ++ (uint n ++ suf)) (pre.length : Int) = some ((n : Int), ((pre.length + (uint n).length : Nat) : Int), 0) := by
  rw [ReadUint_in hl (by simp), List.drop_left, rdu_uint hn]; rfl
end Go.Proofs.YtpogdeibkghhaaaDoor
