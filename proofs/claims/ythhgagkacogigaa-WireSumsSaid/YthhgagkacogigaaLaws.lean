/- Layer 1: what the laws say, in plain terms. -/
import Derived.Test.YthhgagkacogigaaRead
import Derived.Test.YthhgagkacogigaaWireL
import Derived.Test.YthhgagkacogigaaSum
set_option linter.unusedVariables false
set_option linter.unusedSimpArgs false
namespace Go.Proofs.Ythhgagkacogigaa
open Go Go.RowKit
/-! ### ReadBytes -/
theorem rb_err {l : List UInt8} {a m : Int} {x p e : Int} (h : wire_ReadUint.impl l a = some (x, p, e)) (he : ¬ e = 0) : wire_ReadBytes.impl l a m = some ([], 0, e) := by
  unfold wire_ReadBytes.impl
  rw [h]; simp only [Option.bind_some]
  rw [ite_nf he]
theorem rb_neg {l : List UInt8} {a m : Int} {x p : Int} (h : wire_ReadUint.impl l a = some (x, p, 0)) (hm : m < 0) : wire_ReadBytes.impl l a m = some ([], 0, 1) := by
  unfold wire_ReadBytes.impl
  rw [h]; simp only [Option.bind_some]
  rw [ite_nt (by trivial), ite_dt hm]
theorem rb_long {l : List UInt8} {a m : Int} {x p : Int} (h : wire_ReadUint.impl l a = some (x, p, 0)) (hm : 0 ≤ m) (hx : m < x) : wire_ReadBytes.impl l a m = some ([], 0, 3) := by
  unfold wire_ReadBytes.impl
  rw [h]; simp only [Option.bind_some]
  rw [ite_nt (by trivial), ite_df (by omega), ite_dt hx]
theorem rb_short {l : List UInt8} {a m : Int} {x p : Nat} (h : wire_ReadUint.impl l a = some ((x : Int), (p : Int), 0)) (hm : (x : Int) ≤ m) (hl : l.length ≤ 9223372036854775807) (hp : p ≤ l.length) (hx : l.length < p + x) : wire_ReadBytes.impl l a m = some ([], 0, 10) := by
  unfold wire_ReadBytes.impl
  rw [h]; simp only [Option.bind_some]
  rw [ite_nt (by trivial), ite_df (by omega), ite_df (by omega), i64_id (by omega), ite_dt (by omega)]
theorem rb_ok {l : List UInt8} {a m : Int} {x p : Nat} (h : wire_ReadUint.impl l a = some ((x : Int), (p : Int), 0)) (hm : (x : Int) ≤ m) (hl : l.length ≤ 9223372036854775807) (hx : p + x ≤ l.length) (hs : x ≤ 140737488355328) : wire_ReadBytes.impl l a m = some ((l.drop p).take x, ((p + x : Nat) : Int), 0) := by
  unfold wire_ReadBytes.impl
  rw [h]; simp only [Option.bind_some]
  have w : IntKind.i64.wrap ((p : Int) + (x : Int)) = ((p + x : Nat) : Int) := by rw [i64_id (by omega)]; omega
  rw [ite_nt (by trivial), ite_df (by omega), ite_df (by omega), i64_id (n := (l.length : Int) - (p : Int)) (by omega), ite_df (by omega)]
  simp only [w]
  have e : subl l (p : Int) ((p + x : Nat) : Int) = (l.drop p).take x := by
    unfold subl
    rw [Int.toNat_natCast, Int.toNat_natCast, List.drop_take, show p + x - p = x by omega]
  rw [chk_pos (by omega), e, chk_pos (by simp only [List.length_nil, List.length_take]; omega)]
  simp
theorem RU_uint {n : Nat} (pre suf : List UInt8) (hn : n < 9223372036854775808) (hl : (pre ++ (uint n ++ suf)).length ≤ 9223372036854775807) : wire_ReadUint.impl (pre ++ (uint n ++ suf)) (pre.length : Int) = some ((n : Int), ((pre.length + (uint n).length : Nat) : Int), 0) := by
  rw [ReadUint_in hl (by simp), List.drop_left, rdu_uint hn]; rfl
theorem RU_short {n j : Nat} (pre : List UInt8) (hn : n < 9223372036854775808) (hj : j < (uint n).length) (hl : (pre ++ (uint n).take j).length ≤ 9223372036854775807) : wire_ReadUint.impl (pre ++ (uint n).take j) (pre.length : Int) = some (0, 0, 10) := by
  rw [ReadUint_in hl (by simp), List.drop_left, rdu_short hn hj]; rfl
/-! ### told -/
theorem told_is : law1_told.impl = some true := by
  have h1 : wire_ReadUint.impl ([9, 130, 44] : List UInt8) 1 = some (300, 3, 0) := (ReadUint_in (at_ := 1) (by decide) (by decide)).trans (by decide)
  have h2 : wire_ReadUint.impl ([128, 1] : List UInt8) 0 = some (0, 0, 11) := (ReadUint_in (at_ := 0) (by decide) (by decide)).trans (by decide)
  have h3 : wire_ReadUint.impl ([2, 7, 8, 9] : List UInt8) 0 = some (((2 : Nat) : Int), ((1 : Nat) : Int), (0 : Int)) := (ReadUint_in (at_ := 0) (by decide) (by decide)).trans (by decide)
  have h4 : wire_ReadBytes.impl ([2, 7, 8, 9] : List UInt8) 0 5 = some ([7, 8], 3, 0) := (rb_ok h3 (by decide) (by decide) (by decide) (by decide)).trans (by decide)
  have h5 : wire_Sum.impl ([104, 101, 97, 100, 108, 97, 110, 100] : List UInt8) = some 1543401768 := (Sum_is (by decide)).trans (congrArg (fun n : Nat => some (n : Int)) (by decide +kernel : (crc [104, 101, 97, 100, 108, 97, 110, 100]).toNat = 1543401768))
  unfold law1_told.impl
  rw [h1, h2, h4, h5]
  rfl
/-! ### The laws -/
theorem roomy_is {l : List UInt8} (hl : l.length ≤ 140737488355326) : law1_roomy.impl l = some (l, l ++ [77, 78]) := by
  unfold law1_roomy.impl
  have e : subl (([] ++ l) ++ [77, 78]) 0 (l.length : Int) = l := by simp [subl]
  rw [chk_pos (by simp; omega), chk_pos (by simp; omega), chk_pos (by simp; omega), e]
  simp
theorem sums_true {l : List UInt8} (hl : l.length ≤ 140737488355326) : law1_WireSums.impl l = some true := by
  unfold law1_WireSums.impl
  have w : IntKind.i64.wrap ((l.length : Int) + 2) = ((l.length + 2 : Nat) : Int) := by rw [i64_id (by omega)]; omega
  have e : subl (l ++ [77, 78]) 0 ((l.length + 2 : Nat) : Int) = l ++ [77, 78] := by
    unfold subl
    rw [Int.toNat_natCast, List.take_of_length_le (by simp)]; rfl
  rw [roomy_is hl, told_is]
  simp only [Option.bind_some, if_true, Sum_is (l := l) (by omega), RefSum_is (l := l) (by omega), w, e]
  rw [ite_dt (by trivial), chk_pos (by simp; omega), chk_pos (by simp; omega)]
  simp
theorem uint_inj {n m : Nat} (h : uint n = uint m) : n = m := by
  have key : ∀ a b, hi a = hi b → a = b := by
    intro a
    induction a using Nat.strongRecOn with
    | ind a ih =>
      intro b hab
      by_cases ha : a = 0
      · by_cases hb : b = 0
        · omega
        · rw [ha, hi_zero, hi_pos (by omega)] at hab; simp at hab
      · by_cases hb : b = 0
        · rw [hb, hi_zero, hi_pos (by omega)] at hab; simp at hab
        · rw [hi_pos (n := a) (by omega), hi_pos (n := b) (by omega)] at hab
          obtain ⟨h1, h2⟩ := List.append_inj' hab rfl
          have h3 := ih (a / 128) (by omega) _ h1
          have h4 := congrArg UInt8.toNat (List.cons.inj h2).1
          rw [ofNat_toNat (by omega), ofNat_toNat (by omega)] at h4
          omega
  unfold uint at h
  obtain ⟨h1, h2⟩ := List.append_inj' h rfl
  have h3 := key _ _ h1
  have h4 := congrArg UInt8.toNat (List.cons.inj h2).1
  rw [ofNat_toNat (by omega), ofNat_toNat (by omega)] at h4
  omega
theorem hi_mono (a b : Nat) (h : a ≤ b) : (hi a).length ≤ (hi b).length := by
  induction b using Nat.strongRecOn generalizing a with
  | ind b ih =>
    by_cases ha : a = 0
    · rw [ha, hi_zero]; simp
    · rw [hi_pos (n := a) (by omega), hi_pos (n := b) (by omega)]
      have := ih (b / 128) (by omega) (a / 128) (by omega)
      simp; exact this
theorem uint_mono {a b : Nat} (h : a ≤ b) : (uint a).length ≤ (uint b).length := by
  rw [uint_len, uint_len]; have := hi_mono (a / 128) (b / 128) (by omega); omega
/-- No number's bytes begin another's. -/
theorem uint_free {n m : Nat} (hle : (uint n).length ≤ (uint m).length) (h : (uint m).take (uint n).length = uint n) : n = m := by
  refine uint_inj ?_
  by_cases he : (uint n).length = (uint m).length
  · rw [he, List.take_length] at h; exact h.symm
  · have hn := uint_len n
    have hm := uint_len m
    exfalso
    have hlt : (uint n).length - 1 < (hi (m / 128)).length := by omega
    have h1 : (uint m).take (uint n).length = (hi (m / 128)).take (uint n).length := by unfold uint; rw [List.take_append_of_le_length]; simp [uint] at hn he hm ⊢; simp [uint] at hle; omega
    rw [h1] at h
    have h2 := congrArg (fun l => l[(uint n).length - 1]?) h
    rw [List.getElem?_take_of_lt (by omega), List.getElem?_eq_getElem hlt, hi_get hlt, List.getElem?_eq_getElem (by have := uint_pos n; omega), uint_get] at h2
    have h3 := congrArg UInt8.toNat (Option.some.inj h2)
    unfold dig at h3
    rw [if_neg (by omega), ofNat_toNat (by omega), ofNat_toNat (by omega)] at h3
    omega
/-! ### The order of bytes -/
theorem less_snoc (x y : UInt8) : ∀ (l m : List UInt8), l.length = m.length → Op.bytesLess (l ++ [x]) (m ++ [y]) = (Op.bytesLess l m || (decide (l = m) && decide (x < y)))
  | [], [], _ => by simp [Op.bytesLess]
  | [], _ :: _, h => by simp at h
  | _ :: _, [], h => by simp at h
  | a :: l, b :: m, h => by
    have ih := less_snoc x y l m (by simpa using h)
    simp only [List.cons_append, Op.bytesLess, ih, List.cons.injEq]
    by_cases h1 : a < b
    · simp [h1]
    · by_cases h2 : a = b
      · subst h2; simp [h1]
      · have h3 : (a == b) = false := by simpa using h2
        simp [h1, h2, h3]
theorem u8_lt {x y : Nat} (hx : x < 256) (hy : y < 256) : (UInt8.ofNat x < UInt8.ofNat y) ↔ x < y := by rw [UInt8.lt_iff_toNat_lt, ofNat_toNat hx, ofNat_toNat hy]
theorem hi_inj {a b : Nat} (h : hi a = hi b) : a = b := by
  have := uint_inj (n := a * 128) (m := b * 128) (by unfold uint; rw [show a * 128 / 128 = a by omega, show b * 128 / 128 = b by omega, h]; congr 3; omega)
  omega
theorem hi_less (a b : Nat) (h : (hi a).length = (hi b).length) : Op.bytesLess (hi a) (hi b) = decide (a < b) := by
  induction a using Nat.strongRecOn generalizing b with
  | ind a ih =>
    by_cases ha : a = 0
    · by_cases hb : b = 0
      · subst ha; subst hb; rw [hi_zero]; rfl
      · rw [ha, hi_zero, hi_pos (n := b) (by omega)] at h; simp at h
    · by_cases hb : b = 0
      · rw [hb, hi_zero, hi_pos (n := a) (by omega)] at h; simp at h
      · rw [hi_pos (n := a) (by omega), hi_pos (n := b) (by omega)] at h ⊢
        have h' : (hi (a / 128)).length = (hi (b / 128)).length := by simpa using h
        rw [less_snoc _ _ _ _ h', ih (a / 128) (by omega) _ h']
        by_cases h1 : a / 128 = b / 128
        · rw [h1]
          simp only [Nat.lt_irrefl, decide_false, Bool.false_or, decide_true, Bool.true_and]
          refine decide_eq_decide.2 ?_
          rw [u8_lt (by omega) (by omega)]; omega
        · have h2 : ¬ hi (a / 128) = hi (b / 128) := fun h => h1 (hi_inj h)
          rw [decide_eq_false h2, Bool.false_and, Bool.or_false]
          exact decide_eq_decide.2 (by omega)
theorem uint_less (a b : Nat) (h : (uint a).length = (uint b).length) : Op.bytesLess (uint a) (uint b) = decide (a < b) := by
  rw [uint_len, uint_len] at h
  have h' : (hi (a / 128)).length = (hi (b / 128)).length := by omega
  unfold uint
  rw [less_snoc _ _ _ _ h', hi_less _ _ h']
  by_cases h1 : a / 128 = b / 128
  · rw [h1]
    simp only [Nat.lt_irrefl, decide_false, Bool.false_or, decide_true, Bool.true_and]
    refine decide_eq_decide.2 ?_
    rw [u8_lt (by omega) (by omega)]; omega
  · have h2 : ¬ hi (a / 128) = hi (b / 128) := fun h => h1 (hi_inj h)
    rw [decide_eq_false h2, Bool.false_and, Bool.or_false]
    exact decide_eq_decide.2 (by omega)
theorem mask_nat (n : Int) : ∃ m : Nat, bitsOf .and .i64 n 9223372036854775807 = (m : Int) ∧ m < 9223372036854775808 :=
  ⟨(n % 9223372036854775808).toNat, by rw [i64_mask63]; omega, by omega⟩
theorem forth_k1 (a b : Int) : law1_WireForth.k1 a b false = some true := by
  obtain ⟨n, hn, hn2⟩ := mask_nat a
  obtain ⟨m, hm, hm2⟩ := mask_nat b
  have k2 : law1_WireForth.k2 (uint n) a b (uint m, false) = some true := by
    unfold law1_WireForth.k2
    rw [hn, hm, ite_f rfl, told_is]
    simp only [Option.bind_some]
    rw [if_pos trivial]
    by_cases he : (uint n).length = (uint m).length
    · rw [ite_dt (by omega), uint_less n m he, ite_dt (decide_eq_decide.2 (by omega)), ite_dt (by omega)]
    · rw [ite_df (by omega)]
      by_cases hle : (uint n).length ≤ (uint m).length
      · rw [ite_dt (by omega)]
      · rw [ite_df (by omega)]
        have : ¬ n ≤ m := fun h => hle (uint_mono h)
        simp; omega
  unfold law1_WireForth.k1
  rw [ite_f rfl, hn, hm, Uint_is hn2, Uint_is hm2]
  simp only [Option.bind_some]
  have pn := uint_pos n
  have pm := uint_pos m
  rw [ite_df (by omega), ite_df (by omega)]
  by_cases h : n = m
  · rw [ite_dt (by omega), k2]
  · rw [ite_df (by omega)]
    by_cases hle : (uint n).length ≤ (uint m).length
    · rw [ite_dt (by omega), chk_pos (by omega), show decide (subl (uint m) 0 ((uint n).length : Int) = uint n) = false from decide_eq_false (fun hh => h (uint_free hle (by simpa [subl] using hh))), k2]
    · rw [ite_df (by omega), k2]
theorem forth_true {l : List UInt8} (a b c : Int) (hl : l.length ≤ 9223372036854775807) : law1_WireForth.impl l a b c = some true := by
  unfold law1_WireForth.impl
  by_cases ha : a < 0 ∨ (l.length : Int) < a
  · rw [ReadUint_out ha]
    simp only [Option.bind_some]
    rw [ite_df (by simp), forth_k1]
  · obtain ⟨at_, rfl⟩ : ∃ n : Nat, a = n := ⟨a.toNat, by omega⟩
    rw [ReadUint_in hl (by omega)]
    simp only [Option.bind_some]
    obtain ⟨x, p, e, hr⟩ : ∃ x p e, rdu 9 0 0 (l.drop at_) = (x, p, e) := ⟨_, _, _, rfl⟩
    rw [hr]
    by_cases he : e = 0
    · subst he
      obtain ⟨t, h1, h2, h3, h4, h5⟩ := rdu_is (k := 9) (v := 0) (by rw [hi_zero]; rfl) (by rw [hi_zero]; exact hr)
      rw [hi_zero] at h1 h4
      simp only [List.length_nil, Nat.zero_add, List.nil_append, List.length_drop] at h1 h3 h4
      subst h1
      simp only [rdTo, if_true]
      have e : subl l (at_ : Int) ((at_ + p : Nat) : Int) = uint x := by
        unfold subl
        rw [Int.toNat_natCast, Int.toNat_natCast, List.drop_take, show at_ + p - at_ = p by omega, h4]
      rw [ite_dt (by simp), ite_df (by omega), ite_df (by omega), ite_df (by omega), ite_df (by omega), chk_pos (by omega), Uint_is h5]
      simp only [Option.bind_some]
      rw [e, show (!decide (uint x = uint x)) = false by simp, forth_k1]
    · rw [ite_df (by simp only [rdTo]; omega), forth_k1]
theorem back_true (n : Int) {s pre suf : List UInt8} (h1 : s.length ≤ 1048576) (h2 : pre.length ≤ 1048576) (h3 : suf.length ≤ 1048576) : law1_WireBack.impl n s pre suf = some true := by
  obtain ⟨k, hk, hk2⟩ := mask_nat n
  have lk := uint_le hk2
  have ls := uint_le (n := s.length) (by omega)
  have r1 : wire_ReadUint.impl (pre ++ (uint k ++ (uint s.length ++ s ++ suf))) (pre.length : Int) = some ((k : Int), ((pre.length + (uint k).length : Nat) : Int), 0) := RU_uint pre _ hk2 (by simp; omega)
  have r2 : wire_ReadUint.impl (pre ++ (uint k ++ (uint s.length ++ s ++ suf))) ((pre.length + (uint k).length : Nat) : Int) = some ((s.length : Int), ((pre.length + (uint k).length + (uint s.length).length : Nat) : Int), 0) := by
    have := RU_uint (n := s.length) (pre ++ uint k) (s ++ suf) (by omega) (by simp; omega)
    simp only [List.append_assoc, List.length_append] at this ⊢
    exact this
  have lall : (pre ++ (uint k ++ (uint s.length ++ s ++ suf))).length = pre.length + (uint k).length + (uint s.length).length + s.length + suf.length := by simp; omega
  have b1 := rb_ok r2 (m := (s.length : Int)) (by omega) (by omega) (by omega) (by omega)
  have e1 : ((pre ++ (uint k ++ (uint s.length ++ s ++ suf))).drop (pre.length + (uint k).length + (uint s.length).length)).take s.length = s := by
    rw [show pre ++ (uint k ++ (uint s.length ++ s ++ suf)) = (pre ++ uint k ++ uint s.length) ++ (s ++ suf) by simp, List.drop_append_of_le_length (by simp; omega), List.drop_of_length_le (by simp; omega), List.nil_append, List.take_left]
  rw [e1] at b1
  unfold law1_WireBack.impl
  rw [hk, Uint_is hk2, Bytes_is (by omega)]
  simp only [Option.bind_some, List.nil_append]
  have ea : pre ++ uint k ++ (uint s.length ++ s) ++ suf = pre ++ (uint k ++ (uint s.length ++ s ++ suf)) := by simp
  have el : (pre ++ uint k).length = pre.length + (uint k).length := by simp
  have em : (pre ++ uint k ++ (uint s.length ++ s)).length = pre.length + (uint k).length + (uint s.length).length + s.length := by simp; omega
  simp only [ea, el, em, r1, b1, Option.bind_some, told_is]
  rw [chk_pos (by simp; omega), chk_pos (by omega), chk_pos (by simp; omega), chk_pos (by omega), i64_id (n := (s.length : Int) - 1) (by omega)]
  by_cases hs : s.length = 0
  · rw [rb_neg r2 (by omega)]
    simp only [Option.bind_some]
    rw [if_pos trivial, ite_dt (by trivial), ite_dt (by trivial), ite_dt (by trivial), ite_dt (by trivial), ite_dt (by trivial), ite_dt (by trivial), ite_df (by simp), ite_dt (by omega)]
    simp
  · rw [rb_long r2 (by omega) (by omega)]
    simp only [Option.bind_some]
    rw [if_pos trivial, ite_dt (by trivial), ite_dt (by trivial), ite_dt (by trivial), ite_dt (by trivial), ite_dt (by trivial), ite_dt (by trivial), ite_dt (by simp)]
end Go.Proofs.Ythhgagkacogigaa
