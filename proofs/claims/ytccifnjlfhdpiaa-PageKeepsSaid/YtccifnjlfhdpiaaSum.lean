/- The two check sums: both tell the register's complement. -/
import Derived.Test.YtccifnjlfhdpiaaCrc
import Derived.Test.YtccifnjlfhdpiaaWire
set_option linter.unusedVariables false
set_option linter.unusedSimpArgs false
namespace Go.Proofs.Ytccifnjlfhdpiaa
open Go Go.RowKit
theorem and_xor {w : Nat} (a b c : BitVec w) : (a ^^^ b) &&& c = (a &&& c) ^^^ (b &&& c) := by
  refine BitVec.eq_of_getLsbD_eq (fun j _ => ?_)
  simp only [BitVec.getLsbD_and, BitVec.getLsbD_xor]
  cases a.getLsbD j <;> cases b.getLsbD j <;> cases c.getLsbD j <;> rfl
theorem itr_succ' (n : Nat) (r : BitVec 32) : itr (n + 1) r = stp (itr n r) := itr_add n 1 r
theorem low_bit (a : BitVec 32) : (bitsOf .and .u32 (a.toNat : Int) 1 = 1) ↔ a.getLsbD 0 = true := by
  rw [show (1 : Int) = ((1#32).toNat : Int) from rfl, u32_and]
  have : (a &&& 1#32).toNat = a.toNat % 2 := by
    rw [BitVec.toNat_and]; exact Nat.and_two_pow_sub_one_eq_mod a.toNat 1
  rw [this, BitVec.getLsbD, Nat.testBit_zero]
  simp only [show (1#32).toNat = 1 from rfl, decide_eq_true_eq]
  omega
theorem half (a : BitVec 32) : shrI .u32 (a.toNat : Int) 1 = ((a >>> 1).toNat : Int) := u32_shr a 1 (by decide)
theorem with_poly (a : BitVec 32) : bitsOf .xor .u32 (a.toNat : Int) 2197175160 = ((a ^^^ poly).toNat : Int) := u32_xor a poly
theorem tab_bits (r : BitVec 32) : loop wire_tables_fill.st4 ((r.toNat : Int), 0) = some ((itr 8 r).toNat : Int) :=
  loop_up (step := wire_tables_fill.st4) (fun i => (((itr i r).toNat : Int), (i : Int))) 8 (fun i hi => by
    unfold wire_tables_fill.st4
    have w : IntKind.i64.wrap ((i : Int) + 1) = ((i + 1 : Nat) : Int) := by rw [i64_id (by omega)]; omega
    rw [ite_dt (by omega), itr_succ']
    simp only [half, with_poly, w]
    by_cases h : (itr i r).getLsbD 0 = true
    · rw [ite_dt ((low_bit _).2 h), stp, if_pos h]
    · rw [ite_df (fun hh => h ((low_bit _).1 hh)), stp, if_neg h, BitVec.xor_zero]) (by
    unfold wire_tables_fill.st4
    rw [ite_df (by simp)])
theorem w8_wrap (c : UInt8) : IntKind.u32.wrap (c.toNat : Int) = ((w8 c).toNat : Int) := by rw [w8_toNat, u32_id (by have := c.toNat_lt; omega)]
theorem ones (r : BitVec 32) : bitsOf .xor .u32 (if IntKind.signed .u32 then -1 else IntKind.max .u32) (r.toNat : Int) = ((~~~ r).toNat : Int) := by
  rw [show (if IntKind.signed .u32 = true then (-1 : Int) else IntKind.max .u32) = ((BitVec.allOnes 32).toNat : Int) from rfl, u32_xor, BitVec.allOnes_xor]
theorem reg_take {l : List UInt8} {i : Nat} (r : BitVec 32) (h : i < l.length) : reg r (l.take (i + 1)) = crcB (reg r (l.take i)) l[i] := by
  unfold reg; rw [← List.take_append_getElem h, List.foldl_append]; rfl
def tabv (p : Nat) : BitVec 32 := itr (8 * (p / 256 + 1)) (BitVec.ofNat 32 (p % 256))
def tab : List Int := (List.range 1024).map fun p => ((tabv p).toNat : Int)
theorem tab_length : tab.length = 1024 := by simp [tab]
theorem tab_get {p : Nat} (h : p < 1024) : tab[p]'(by rw [tab_length]; exact h) = ((tabv p).toNat : Int) := by simp [tab]
theorem tab_getD {p : Nat} (h : p < 1024) (d : Int) : tab.getD p d = ((tabv p).toNat : Int) := by
  rw [List.getD_eq_getElem?_getD, List.getElem?_eq_getElem (by rw [tab_length]; exact h), tab_get h]; rfl
theorem byte_step (r : BitVec 32) : itr 8 r = (r >>> 8) ^^^ itr 8 (r &&& 255#32) :=
  lin_ext (f := fun r => itr 8 r) (g := fun r => (r >>> 8) ^^^ itr 8 (r &&& 255#32)) (itr_xor 8) (fun a b => by
    rw [BitVec.ushiftRight_xor_distrib, and_xor, itr_xor, xor_four]) (by decide +kernel) r
theorem low8 (r : BitVec 32) : (r &&& 255#32).toNat = r.toNat % 256 := by rw [BitVec.toNat_and]; exact Nat.and_two_pow_sub_one_eq_mod r.toNat 8
theorem tabv_low (r : BitVec 32) : tabv (r &&& 255#32).toNat = itr 8 (r &&& 255#32) := by
  unfold tabv
  have h := low8 r
  rw [show (r &&& 255#32).toNat / 256 = 0 by omega, show (r &&& 255#32).toNat % 256 = (r &&& 255#32).toNat by omega, BitVec.ofNat_toNat, BitVec.setWidth_eq]
theorem tabv_next (k i : Nat) (hi : i < 256) (hk : 0 < k) : tabv (k * 256 + i) = (tabv ((k - 1) * 256 + i) >>> 8) ^^^ tabv (tabv ((k - 1) * 256 + i) &&& 255#32).toNat := by
  rw [tabv_low, ← byte_step]
  unfold tabv
  rw [show (k * 256 + i) / 256 = k by omega, show (k * 256 + i) % 256 = i by omega, show ((k - 1) * 256 + i) / 256 = k - 1 by omega, show ((k - 1) * 256 + i) % 256 = i by omega, show 8 * (k + 1) = 8 * (k - 1 + 1) + 8 by omega, itr_add]
theorem set_next {l : List Int} {p : Nat} (hl : l.length = 1024) (h : p < 1024) : (tab.take p ++ l.drop p).set p ((tabv p).toNat : Int) = tab.take (p + 1) ++ l.drop (p + 1) := by
  have ht := tab_length
  rw [List.set_append_right _ _ (by simp; omega), show p - (tab.take p).length = 0 by simp; omega, List.drop_eq_getElem_cons (by omega), List.set_cons_zero, ← tab_get h, ← List.take_append_getElem (by omega), List.append_assoc]
  rfl
theorem part_length {l : List Int} {p : Nat} (hl : l.length = 1024) (h : p ≤ 1024) : (tab.take p ++ l.drop p).length = 1024 := by
  have ht := tab_length
  simp; omega
theorem part_getD {l : List Int} {p q : Nat} (hl : l.length = 1024) (h : p ≤ 1024) (hq : q < p) (d : Int) : (tab.take p ++ l.drop p).getD q d = ((tabv q).toNat : Int) := by
  have ht := tab_length
  rw [List.getD_eq_getElem?_getD, List.getElem?_append_left (by simp; omega), List.getElem?_take_of_lt hq, List.getElem?_eq_getElem (by omega), tab_get (by omega)]; rfl
theorem row0 {l : List Int} (hl : l.length = 1024) : loop wire_tables_fill.st3 (l, 0) = some (tab.take 256 ++ l.drop 256) := by
  have := loop_up (step := wire_tables_fill.st3) (r := tab.take 256 ++ l.drop 256) (fun i => (tab.take i ++ l.drop i, (i : Int))) 256 (fun i hi => by
    unfold wire_tables_fill.st3
    have w : IntKind.i64.wrap ((i : Int) + 1) = ((i + 1 : Nat) : Int) := by rw [i64_id (by omega)]; omega
    rw [ite_dt (by omega), u32_id (by omega), show ((i : Int), (0 : Int)) = (((BitVec.ofNat 32 i).toNat : Int), (0 : Int)) by rw [BitVec.toNat_ofNat, Nat.mod_eq_of_lt (by omega)], tab_bits]
    simp only [Option.bind_some, wire_tables_fill.k4, wire_tables_fill.k3, w]
    have hp := part_length hl (p := i) (by omega)
    rw [chk_pos (by omega), chk_pos (by simp only [hp]; omega)]
    have hx : itr 8 (BitVec.ofNat 32 i) = tabv i := by unfold tabv; rw [show i / 256 = 0 by omega, show i % 256 = i by omega]
    rw [hx, show 0 + (0 : Int).toNat * 256 + (i : Int).toNat * 1 = i by omega, set_next hl (by omega)]) (by
    unfold wire_tables_fill.st3
    rw [ite_df (by simp)])
  simpa using this
theorem rowk {l : List Int} {k : Nat} (hl : l.length = 1024) (h0 : 0 < k) (h4 : k < 4) : loop (wire_tables_fill.st2 (tab.take (k * 256) ++ l.drop (k * 256), (k : Int))) (tab.take (k * 256) ++ l.drop (k * 256), 0) = some (tab.take ((k + 1) * 256) ++ l.drop ((k + 1) * 256)) := by
  have := loop_up (step := wire_tables_fill.st2 (tab.take (k * 256) ++ l.drop (k * 256), (k : Int))) (r := tab.take ((k + 1) * 256) ++ l.drop ((k + 1) * 256)) (fun i => (tab.take (k * 256 + i) ++ l.drop (k * 256 + i), (i : Int))) 256 (fun i hi => by
    unfold wire_tables_fill.st2
    have w : IntKind.i64.wrap ((i : Int) + 1) = ((i + 1 : Nat) : Int) := by rw [i64_id (by omega)]; omega
    have w1 : IntKind.i64.wrap ((k : Int) - 1) = ((k - 1 : Nat) : Int) := by rw [i64_id (by omega)]; omega
    have hp := part_length hl (p := k * 256) (by omega)
    have hq := part_length hl (p := k * 256 + i) (by omega)
    have hs : ((List.drop (0 + (k - 1) * 256) (tab.take (k * 256) ++ l.drop (k * 256))).take 256).getD i default = ((tabv ((k - 1) * 256 + i)).toNat : Int) := by
      have := part_getD hl (p := k * 256) (q := (k - 1) * 256 + i) (by omega) (by omega) (default : Int)
      rw [← this, List.getD_eq_getElem?_getD, List.getElem?_take_of_lt hi, List.getElem?_drop, List.getD_eq_getElem?_getD, Nat.zero_add]
    have hlow := low8 (tabv ((k - 1) * 256 + i))
    have hand : bitsOf .and .u32 ((tabv ((k - 1) * 256 + i)).toNat : Int) 255 = ((tabv ((k - 1) * 256 + i) &&& 255#32).toNat : Int) := u32_and _ 255#32
    have hshr : shrI .u32 ((tabv ((k - 1) * 256 + i)).toNat : Int) 8 = ((tabv ((k - 1) * 256 + i) >>> 8).toNat : Int) := u32_shr _ 8 (by decide)
    simp only [w, w1, Int.toNat_natCast, hs, hand, hshr]
    rw [ite_dt (by omega), chk_pos (by refine ⟨by omega, ?_⟩; simp only [List.length_take, List.length_drop, hp]; omega), chk_pos (by omega), chk_pos (by omega), chk_pos (by simp only [hq]; omega), chk_pos (by omega), chk_pos (by simp only [hq]; omega)]
    rw [show 0 + (0 : Int).toNat * 256 + (tabv ((k - 1) * 256 + i) &&& 255#32).toNat * 1 = (tabv ((k - 1) * 256 + i) &&& 255#32).toNat by simp, part_getD hl (by omega) (by omega), u32_xor, ← tabv_next k i hi h0, show 0 + k * 256 + i * 1 = k * 256 + i by omega, set_next hl (by omega), Nat.add_assoc]) (by
    unfold wire_tables_fill.st2
    rw [ite_df (by simp), show k * 256 + 256 = (k + 1) * 256 by omega])
  simpa using this
theorem fill_is {l : List Int} (hl : l.length = 1024) : wire_tables_fill.impl l = some tab := by
  unfold wire_tables_fill.impl
  rw [row0 hl]
  simp only [Option.bind_some, wire_tables_fill.k1]
  have := loop_to (step := wire_tables_fill.st1) (fun k => (tab.take (k * 256) ++ l.drop (k * 256), (k : Int))) (k := 1) 4 (by decide) (fun k h1 h2 => by
    unfold wire_tables_fill.st1
    have w : IntKind.i64.wrap ((k : Int) + 1) = ((k + 1 : Nat) : Int) := by rw [i64_id (by omega)]; omega
    have w1 : IntKind.i64.wrap ((k : Int) - 1) = ((k - 1 : Nat) : Int) := by rw [i64_id (by omega)]; omega
    have hp := part_length hl (p := k * 256) (by omega)
    rw [ite_dt (by omega)]
    simp only [w, w1, Int.toNat_natCast, hp]
    rw [chk_pos (by omega), chk_pos (by omega), rowk hl (by omega) h2]
    simp only [Option.bind_some, wire_tables_fill.k2, w])
  have last : loop wire_tables_fill.st1 (tab.take (4 * 256) ++ l.drop (4 * 256), ((4 : Nat) : Int)) = some tab := loop_last (by
    unfold wire_tables_fill.st1
    rw [ite_df (by simp), List.take_of_length_le (by rw [tab_length]; decide), List.drop_of_length_le (by omega), List.append_nil])
  rw [last] at this
  erw [this]
  rfl
/-! ### Four bytes at once -/
theorem four_step (x : BitVec 32) : itr 32 x = ((itr 32 (x &&& 255#32) ^^^ itr 24 ((x >>> 8) &&& 255#32)) ^^^ itr 16 ((x >>> 16) &&& 255#32)) ^^^ itr 8 (x >>> 24) :=
  lin_ext (f := fun r => itr 32 r) (g := fun x => ((itr 32 (x &&& 255#32) ^^^ itr 24 ((x >>> 8) &&& 255#32)) ^^^ itr 16 ((x >>> 16) &&& 255#32)) ^^^ itr 8 (x >>> 24)) (itr_xor 32) (fun a b => by
    simp only [BitVec.ushiftRight_xor_distrib, and_xor, itr_xor]
    ac_rfl) (by decide +kernel) x
theorem w8_ofNat (c : UInt8) : w8 c = BitVec.ofNat 32 c.toNat := by
  refine BitVec.eq_of_toNat_eq ?_
  have := c.toNat_lt
  rw [w8_toNat, BitVec.toNat_ofNat]; omega
theorem up8 (c : UInt8) : itr 8 (w8 c <<< 8) = w8 c := by
  have : ∀ n : Fin 256, itr 8 (BitVec.ofNat 32 n.val <<< 8) = BitVec.ofNat 32 n.val := by decide +kernel
  rw [w8_ofNat]; exact this ⟨c.toNat, c.toNat_lt⟩
theorem up16 (c : UInt8) : itr 16 (w8 c <<< 16) = w8 c := by
  have : ∀ n : Fin 256, itr 16 (BitVec.ofNat 32 n.val <<< 16) = BitVec.ofNat 32 n.val := by decide +kernel
  rw [w8_ofNat]; exact this ⟨c.toNat, c.toNat_lt⟩
theorem up24 (c : UInt8) : itr 24 (w8 c <<< 24) = w8 c := by
  have : ∀ n : Fin 256, itr 24 (BitVec.ofNat 32 n.val <<< 24) = BitVec.ofNat 32 n.val := by decide +kernel
  rw [w8_ofNat]; exact this ⟨c.toNat, c.toNat_lt⟩
theorem w8_high (c : UInt8) (j : Nat) (h : 8 ≤ j) : (w8 c).getLsbD j = false := by
  unfold w8
  rw [BitVec.getLsbD_setWidth, BitVec.getLsbD_of_ge _ _ h]; simp
def word (a b c d : UInt8) : BitVec 32 := ((w8 a ||| w8 b <<< 8) ||| w8 c <<< 16) ||| w8 d <<< 24
theorem word_xor (a b c d : UInt8) : word a b c d = ((w8 a ^^^ w8 b <<< 8) ^^^ w8 c <<< 16) ^^^ w8 d <<< 24 := by
  refine BitVec.eq_of_getLsbD_eq (fun j hj => ?_)
  unfold word
  simp only [BitVec.getLsbD_or, BitVec.getLsbD_xor, BitVec.getLsbD_shiftLeft, hj, decide_true, Bool.true_and]
  by_cases h8 : j < 8
  · simp [h8, show j < 16 by omega, show j < 24 by omega]
  · rw [w8_high a j (by omega)]
    by_cases h16 : j < 16
    · simp [h8, h16, show j < 24 by omega]
    · rw [w8_high b (j - 8) (by omega)]
      by_cases h24 : j < 24
      · simp [h8, h16, h24]
      · rw [w8_high c (j - 16) (by omega)]
        simp
theorem reg_four (r : BitVec 32) (a b c d : UInt8) : reg r [a, b, c, d] = itr 32 (r ^^^ word a b c d) := by
  have e1 : itr 32 (w8 b <<< 8) = itr 24 (w8 b) := by rw [show itr 32 (w8 b <<< 8) = itr (8 + 24) (w8 b <<< 8) from rfl, itr_add, up8]
  have e2 : itr 32 (w8 c <<< 16) = itr 16 (w8 c) := by rw [show itr 32 (w8 c <<< 16) = itr (16 + 16) (w8 c <<< 16) from rfl, itr_add, up16]
  have e3 : itr 32 (w8 d <<< 24) = itr 8 (w8 d) := by rw [show itr 32 (w8 d <<< 24) = itr (24 + 8) (w8 d <<< 24) from rfl, itr_add, up24]
  rw [word_xor]
  simp only [← BitVec.xor_assoc, itr_xor, e1, e2, e3]
  show crcB (crcB (crcB (crcB r a) b) c) d = _
  unfold crcB
  simp only [itr_xor]
  simp only [← itr_add]
theorem tab_at (k : Nat) (hk : k < 4) (y : BitVec 32) (hy : y.toNat < 256) (d : Int) : tab.getD (k * 256 + y.toNat) d = ((itr (8 * (k + 1)) y).toNat : Int) := by
  rw [tab_getD (by omega)]
  unfold tabv
  rw [show (k * 256 + y.toNat) / 256 = k by omega, show (k * 256 + y.toNat) % 256 = y.toNat by omega, BitVec.ofNat_toNat, BitVec.setWidth_eq]
theorem four_round (r : BitVec 32) (a b c d : UInt8) (l : List UInt8) (hl : (a :: b :: c :: d :: l).length ≤ 9223372036854775807) : wire_Sum.st2 tab (a :: b :: c :: d :: l, (r.toNat : Int)) = some (.inl (l, ((reg r [a, b, c, d]).toNat : Int))) := by
  have hw : bitsOf .xor .u32 (r.toNat : Int) (bitsOf .or .u32 (bitsOf .or .u32 (bitsOf .or .u32 (IntKind.u32.wrap (a.toNat : Int)) (shlI .u32 (IntKind.u32.wrap (b.toNat : Int)) 8)) (shlI .u32 (IntKind.u32.wrap (c.toNat : Int)) 16)) (shlI .u32 (IntKind.u32.wrap (d.toNat : Int)) 24)) = ((r ^^^ word a b c d).toNat : Int) := by
    have a1 : shlI .u32 ((w8 b).toNat : Int) 8 = ((w8 b <<< 8).toNat : Int) := u32_shl (w8 b) 8 (by decide)
    have a2 : shlI .u32 ((w8 c).toNat : Int) 16 = ((w8 c <<< 16).toNat : Int) := u32_shl (w8 c) 16 (by decide)
    have a3 : shlI .u32 ((w8 d).toNat : Int) 24 = ((w8 d <<< 24).toNat : Int) := u32_shl (w8 d) 24 (by decide)
    simp only [w8_wrap, a1, a2, a3]
    rw [u32_or, u32_or, u32_or, u32_xor]; rfl
  generalize hx : r ^^^ word a b c d = x at hw
  have s8 : shrI .u32 (x.toNat : Int) 8 = ((x >>> 8).toNat : Int) := u32_shr x 8 (by decide)
  have s16 : shrI .u32 (x.toNat : Int) 16 = ((x >>> 16).toNat : Int) := u32_shr x 16 (by decide)
  have s24 : shrI .u32 (x.toNat : Int) 24 = ((x >>> 24).toNat : Int) := u32_shr x 24 (by decide)
  have aff : ∀ y : BitVec 32, bitsOf .and .u32 (y.toNat : Int) 255 = ((y &&& 255#32).toNat : Int) := fun y => u32_and y 255#32
  have l0 := low8 x
  have l1 := low8 (x >>> 8)
  have l2 := low8 (x >>> 16)
  have l3 : (x >>> 24).toNat < 256 := by rw [BitVec.toNat_ushiftRight, Nat.shiftRight_eq_div_pow]; have := x.isLt; omega
  have t3 := tab_at 3 (by decide) (x &&& 255#32) (by omega) default
  have t2 := tab_at 2 (by decide) ((x >>> 8) &&& 255#32) (by omega) default
  have t1 := tab_at 1 (by decide) ((x >>> 16) &&& 255#32) (by omega) default
  have t0 := tab_at 0 (by decide) (x >>> 24) (by omega) default
  have e : subl (a :: b :: c :: d :: l) 4 ((l.length + 1 + 1 + 1 + 1 : Nat) : Int) = l := by
    unfold subl
    rw [Int.toNat_natCast, List.take_of_length_le (by simp)]
    rfl
  unfold wire_Sum.st2
  simp only [show (0 : Int).toNat = 0 from rfl, show (1 : Int).toNat = 1 from rfl, show (2 : Int).toNat = 2 from rfl, show (3 : Int).toNat = 3 from rfl, List.getD_cons_zero, List.getD_cons_succ, hw, s8, s16, s24, aff, Int.toNat_natCast, tab_length]
  simp only [List.length_cons] at hl ⊢
  rw [ite_dt (by omega), chk_pos (by omega), chk_pos (by omega), chk_pos (by omega), chk_pos (by omega), chk_pos (by omega), chk_pos (by omega), chk_pos (by omega), chk_pos (by omega), chk_pos (by omega), chk_pos (by omega), chk_pos (by omega), chk_pos (by omega), chk_pos (by omega)]
  rw [show 0 + 3 * 256 + (x &&& 255#32).toNat * 1 = 3 * 256 + (x &&& 255#32).toNat by omega, show 0 + 2 * 256 + (x >>> 8 &&& 255#32).toNat * 1 = 2 * 256 + (x >>> 8 &&& 255#32).toNat by omega, show 0 + 1 * 256 + (x >>> 16 &&& 255#32).toNat * 1 = 1 * 256 + (x >>> 16 &&& 255#32).toNat by omega, show 0 + 0 * 256 + (x >>> 24).toNat * 1 = 0 * 256 + (x >>> 24).toNat by omega,
    t3, t2, t1, t0, u32_xor, u32_xor, u32_xor, reg_four, hx, four_step x, e]
theorem fours (l : List UInt8) (r : BitVec 32) (hl : l.length ≤ 9223372036854775807) : ∃ l' r', loop (wire_Sum.st2 tab) (l, (r.toNat : Int)) = some (l', ((r' : BitVec 32).toNat : Int)) ∧ reg r l = reg r' l' ∧ l'.length ≤ 9223372036854775807 := by
  have key : ∀ n (l : List UInt8) (r : BitVec 32), l.length < n → l.length ≤ 9223372036854775807 → ∃ l' r', loop (wire_Sum.st2 tab) (l, (r.toNat : Int)) = some (l', ((r' : BitVec 32).toNat : Int)) ∧ reg r l = reg r' l' ∧ l'.length ≤ 9223372036854775807 := by
    intro n
    induction n with
    | zero => intro l r h; omega
    | succ n ih =>
      intro l r h hl
      by_cases h4 : 4 ≤ l.length
      · obtain ⟨a, b, c, d, m, rfl⟩ : ∃ a b c d m, l = a :: b :: c :: d :: m := by
          match l, h4 with
          | a :: b :: c :: d :: m, _ => exact ⟨a, b, c, d, m, rfl⟩
        rw [loop_more (four_round r a b c d m hl)]
        obtain ⟨l', r', h1, h2, h3⟩ := ih m (reg r [a, b, c, d]) (by simp at h; omega) (by simp at hl; omega)
        exact ⟨l', r', h1, h2, h3⟩
      · refine ⟨l, r, loop_last ?_, rfl, hl⟩
        unfold wire_Sum.st2
        rw [ite_df (by simp only; omega)]
  exact key _ l r (Nat.lt_succ_self _) hl
theorem Sum_is {l : List UInt8} (hl : l.length ≤ 9223372036854775807) : wire_Sum.impl l = some ((crc l).toNat : Int) := by
  unfold wire_Sum.impl
  rw [fill_is List.length_replicate]
  simp only [Option.bind_some]
  obtain ⟨m, r, h1, h2, h3⟩ := fours l 4294967295#32 hl
  erw [h1]
  simp only [Option.bind_some, wire_Sum.k1]
  have := loop_up (step := wire_Sum.st1 (m, (r.toNat : Int)) tab) (r := ((reg r m).toNat : Int)) (fun i => (((reg r (m.take i)).toNat : Int), (i : Int))) m.length (fun i hi => by
    unfold wire_Sum.st1
    have w : IntKind.i64.wrap ((i : Int) + 1) = ((i + 1 : Nat) : Int) := by rw [i64_id (by omega)]; omega
    have g : m.getD i default = m[i] := by rw [List.getD_eq_getElem?_getD, List.getElem?_eq_getElem hi]; rfl
    generalize hq : reg r (m.take i) = q
    have hb : bitsOf .xor .u8 (IntKind.u8.wrap (q.toNat : Int)) ((m[i]).toNat : Int) = (((q ^^^ w8 m[i]) &&& 255#32).toNat : Int) := by
      rw [u8_wrapn, show ((m[i]).toNat : Int) = (((m[i]).toBitVec).toNat : Int) from rfl, u8_xor, low8, BitVec.toNat_xor, BitVec.toNat_xor, BitVec.toNat_ofNat, w8_toNat]
      congr 1
      have h8 := m[i].toNat_lt
      rw [show (256 : Nat) = 2 ^ 8 from rfl, Nat.xor_mod_two_pow, Nat.mod_eq_of_lt (a := (m[i]).toNat) (by omega)]
      rfl
    have hs : shrI .u32 (q.toNat : Int) 8 = ((q >>> 8).toNat : Int) := u32_shr q 8 (by decide)
    have hlow := low8 (q ^^^ w8 m[i])
    simp only [Int.toNat_natCast, g, hb, hs, w, tab_length]
    rw [ite_dt (by omega), chk_pos (by omega), chk_pos (by omega), chk_pos (by omega), reg_take _ hi, hq, show 0 + (0 : Int).toNat * 256 + ((q ^^^ w8 m[i]) &&& 255#32).toNat * 1 = 0 * 256 + ((q ^^^ w8 m[i]) &&& 255#32).toNat by omega, tab_at 0 (by decide) _ (by omega), u32_xor]
    congr 5
    unfold crcB
    rw [byte_step (q ^^^ w8 m[i]), BitVec.ushiftRight_xor_distrib]
    have : w8 m[i] >>> 8 = 0#32 := by
      refine BitVec.eq_of_getLsbD_eq (fun j hj => ?_)
      rw [BitVec.getLsbD_ushiftRight, w8_high _ _ (by omega)]; simp
    rw [this, BitVec.xor_zero]) (by
    unfold wire_Sum.st1
    rw [ite_df (by simp), List.take_length])
  simp only [List.take_zero] at this
  erw [this]
  simp only [Option.bind_some, wire_Sum.k2, ones]
  unfold crc
  rw [h2]
end Go.Proofs.Ytccifnjlfhdpiaa
