/- What a page store's bytes are, in plain terms. -/
import Derived.Test.YtccifnjlfhdpiaaStore
import Derived.Test.YtccifnjlfhdpiaaDkUL
import Derived.Test.YtccifnjlfhdpiaaSum
set_option linter.unusedVariables false
set_option linter.unusedSimpArgs false
namespace Go.Proofs.Ytccifnjlfhdpiaa
open Go Go.RowKit
/-! ### Numbers, the highest byte first -/
def bigE : Nat → Nat → List UInt8
  | 0, _ => []
  | k + 1, n => bigE k (n / 256) ++ [UInt8.ofNat (n % 256)]
theorem bigE_len : ∀ (k n : Nat), (bigE k n).length = k
  | 0, _ => rfl
  | k + 1, n => by simp [bigE, bigE_len k]
theorem bigE_get : ∀ (k n i : Nat) (h : i < (bigE k n).length), (bigE k n)[i] = UInt8.ofNat (n >>> (8 * (k - 1 - i)))
  | 0, _, i, h => by simp [bigE] at h
  | k + 1, n, i, h => by
    have hl := bigE_len (k + 1) n
    have hk := bigE_len k (n / 256)
    by_cases e : i < k
    · have : (bigE (k + 1) n)[i] = (bigE k (n / 256))[i]'(by omega) := by
        rw [List.getElem_of_eq (show bigE (k + 1) n = bigE k (n / 256) ++ [UInt8.ofNat (n % 256)] from rfl), List.getElem_append_left (by omega)]
      rw [this, bigE_get k (n / 256) i (by omega), show 8 * (k + 1 - 1 - i) = 8 + 8 * (k - 1 - i) by omega, Nat.shiftRight_add, Nat.shiftRight_eq_div_pow n 8]
    · have ek : i = k := by omega
      subst ek
      have : (bigE (i + 1) n)[i] = UInt8.ofNat (n % 256) := by
        rw [List.getElem_of_eq (show bigE (i + 1) n = bigE i (n / 256) ++ [UInt8.ofNat (n % 256)] from rfl), List.getElem_append_right (by omega)]
        simp [hk]
      rw [this, show 8 * (i + 1 - 1 - i) = 0 by omega, Nat.shiftRight_zero]
      exact UInt8.toNat_inj.1 (by simp [UInt8.toNat_ofNat'])
theorem u64_shr (u k : Nat) (h : k ≤ 64) : shrI .u64 (u : Int) (k : Int) = ((u >>> k : Nat) : Int) := by
  rw [shr_nat .u64 u (by simpa [IntKind.bits] using h)]; simp
theorem u8_mod (x : Nat) : u8 (IntKind.u8.wrap (x : Int)) = UInt8.ofNat x := by
  rw [IntKind.wrap_u8]
  unfold u8
  have : ((x : Int) % 256).toNat = x % 256 := by omega
  rw [this]
  exact UInt8.toNat_inj.1 (by simp [UInt8.toNat_ofNat'])
theorem fill_set0 {α : Type} (u : List α) (z : α) {i : Nat} (h : i < u.length) : (u.take i ++ List.replicate (u.length - i) z).set i u[i] = u.take (i + 1) ++ List.replicate (u.length - (i + 1)) z := by
  rw [List.set_append_right _ _ (by simp; omega), show i - (u.take i).length = 0 by simp; omega, show u.length - i = (u.length - (i + 1)) + 1 by omega, List.replicate_succ, List.set_cons_zero, ← List.take_append_getElem h, List.append_assoc]
  rfl
theorem big_is (n k : Nat) (hk : k ≤ 8) : page_big.impl (n : Int) (k : Int) = some (bigE k n) := by
  unfold page_big.impl
  rw [chk_true (by omega)]
  have hl := bigE_len k n
  have := loop_up (step := page_big.st1 (k : Int) (n : Int)) (r := bigE k n) (fun i => ((bigE k n).take i ++ List.replicate (k - i) 0, (i : Int))) k (fun i hi => by
    unfold page_big.st1
    have h8 : IntKind.i64.wrap (8 * IntKind.i64.wrap (IntKind.i64.wrap ((k : Int) - 1) - (i : Int))) = ((8 * (k - 1 - i) : Nat) : Int) := by
      rw [i64_id (n := (k : Int) - 1) (by omega), i64_id (n := (k : Int) - 1 - (i : Int)) (by omega), i64_id (by omega)]; omega
    simp only [h8, Int.toNat_natCast, List.length_replicate]
    have hL : ((bigE k n).take i ++ List.replicate (k - i) (0 : UInt8)).length = k := by simp [hl]; omega
    rw [ite_dt (by omega), chk_true (by omega), chk_true (by rw [hL]; omega), u64_shr n _ (by omega), u8_mod, i64_id (by omega)]
    have := fill_set0 (bigE k n) (0 : UInt8) (i := i) (by omega)
    rw [bigE_get k n i (by omega), hl] at this
    rw [this]
    rfl) (by
    unfold page_big.st1
    rw [ite_df (by simp)]
    simp [hl, List.take_of_length_le])
  simp only [List.take_zero, List.nil_append, Nat.sub_zero] at this
  rw [show ((k : Int)).toNat = k by omega]
  have h0 : ((0 : Nat) : Int) = (0 : Int) := rfl
  rw [h0] at this
  rw [this]; rfl
def smallV (l : List UInt8) : Nat := l.foldl (fun u c => u * 256 + c.toNat) 0
theorem smallV_snoc (l : List UInt8) (c : UInt8) : smallV (l ++ [c]) = smallV l * 256 + c.toNat := by simp [smallV]
theorem smallV_lt (l : List UInt8) : smallV l < 256 ^ l.length := by
  rw [← List.reverse_reverse l]
  generalize l.reverse = r
  induction r with
  | nil => simp [smallV]
  | cons c r ih =>
    rw [List.reverse_cons, smallV_snoc, List.length_append, List.length_singleton, Nat.pow_succ]
    have := c.toNat_lt
    omega
theorem smallV_big : ∀ (k n : Nat), n < 256 ^ k → smallV (bigE k n) = n
  | 0, n, h => by simp at h; subst h; rfl
  | k + 1, n, h => by
    have h1 : n / 256 < 256 ^ k := by rw [Nat.pow_succ] at h; omega
    rw [bigE, smallV_snoc, smallV_big k _ h1]
    simp only [UInt8.toNat_ofNat']
    omega
theorem or8 {u c : Nat} (hu : u < 72057594037927936) (hc : c < 256) : bitsOf .or .u64 (shlI .u64 (u : Int) 8) (IntKind.u64.wrap (c : Int)) = ((u * 256 + c : Nat) : Int) := by
  have h1 : shlI .u64 (u : Int) 8 = ((u * 256 : Nat) : Int) := by
    unfold shlI
    rw [show min (8 : Int).toNat IntKind.u64.bits = 8 from rfl, u64_id (by omega)]; omega
  have h2 : (u <<< 8 ||| c) = u * 256 + c := by rw [← Nat.shiftLeft_add_eq_or_of_lt (by omega), Nat.shiftLeft_eq]
  rw [h1, u64_id (by omega)]
  show IntKind.u64.wrap ((BitVec.ofInt 64 ((u * 256 : Nat) : Int) ||| BitVec.ofInt 64 (c : Int)).toNat : Nat) = _
  rw [BitVec.ofInt_natCast, BitVec.ofInt_natCast, BitVec.toNat_or, BitVec.toNat_ofNat, BitVec.toNat_ofNat, Nat.mod_eq_of_lt (by omega), Nat.mod_eq_of_lt (by omega), show u * 256 = u <<< 8 by rw [Nat.shiftLeft_eq], h2, u64_id (by omega), Nat.shiftLeft_eq]
theorem small_is (l : List UInt8) (h : l.length ≤ 8) : page_small.impl l = some (smallV l : Int) := by
  unfold page_small.impl
  have := loop_up (step := page_small.st1 l) (r := (smallV l : Int)) (fun i => ((smallV (l.take i) : Int), (i : Int))) l.length (fun i hi => by
    unfold page_small.st1
    have hb : smallV (l.take i) < 72057594037927936 := by
      have := smallV_lt (l.take i)
      have h2 : (l.take i).length ≤ 7 := by simp; omega
      have := Nat.pow_le_pow_right (show 0 < 256 by omega) h2
      omega
    have hd : l.getD i default = l[i] := by simp [List.getD, hi]
    rw [ite_dt (by omega), chk_true (by omega)]
    simp only [Int.toNat_natCast, hd]
    rw [or8 hb (l[i]).toNat_lt, i64_id (by omega), List.take_succ_eq_append_getElem hi, smallV_snoc]
    rfl) (by
    unfold page_small.st1
    rw [ite_df (by omega), List.take_length])
  have h0 : ((0 : Nat) : Int) = (0 : Int) := rfl
  simp only [List.take_zero, show smallV [] = 0 from rfl, h0] at this
  rw [this]; rfl
/-! ### Zeros; a page's block -/
def zeros (n : Nat) : List UInt8 := List.replicate n 0
theorem zero_is (l : List UInt8) (h : l.length ≤ 10000) : page_zero.impl l = some (decide (l = zeros l.length)) := by
  unfold page_zero.impl
  rw [chk_true (by omega)]
  simp only [bytes_Equal.impl, Option.bind_some, Int.toNat_natCast]
  rfl
theorem zeros_succ (n : Nat) : zeros (n + 1) = 0 :: zeros n := List.replicate_succ
theorem zeros_len (n : Nat) : (zeros n).length = n := List.length_replicate
def put (z : List UInt8) (n : Nat) (r : List UInt8) : List UInt8 := z.take n ++ r ++ z.drop (n + r.length)
theorem put_len {z : List UInt8} {n : Nat} {r : List UInt8} (h : n + r.length ≤ z.length) : (put z n r).length = z.length := by simp [put]; omega
theorem putA {z r : List UInt8} {a : Int} {n : Nat} (ha : a = (n : Int)) (h : n + r.length ≤ z.length) :
    z.take a.toNat ++ r.take (min r.length (subl z a (z.length : Int)).length) ++ z.drop (a.toNat + min r.length (subl z a (z.length : Int)).length) = put z n r := by
  subst ha
  have : (subl z (n : Int) (z.length : Int)).length = z.length - n := by simp [subl]
  rw [this, Nat.min_eq_left (by omega), List.take_length, Int.toNat_natCast]; rfl
theorem put0 {z r : List UInt8} (h : r.length ≤ z.length) : r.take (min r.length z.length) ++ z.drop (min r.length z.length) = put z 0 r := by
  rw [Nat.min_eq_left h, List.take_length]; simp [put]
theorem put_put {n : Nat} {r b : List UInt8} (hr : r.length = 2) (hb : b.length ≤ n) : (put (put (zeros (n + 6)) 4 r) 6 b).drop 4 = r ++ (b ++ zeros (n - b.length)) := by
  have h1 : put (zeros (n + 6)) 4 r = zeros 4 ++ r ++ zeros n := by
    unfold put zeros
    rw [List.take_replicate, List.drop_replicate, hr, Nat.min_eq_left (by omega), show n + 6 - (4 + 2) = n by omega]
  have h2 : (zeros 4 ++ r ++ zeros n).take 6 = zeros 4 ++ r := by
    rw [List.take_append_of_le_length (by simp [zeros_len, hr]), List.take_of_length_le (by simp [zeros_len, hr])]
  have h3 : (zeros 4 ++ r ++ zeros n).drop (6 + b.length) = zeros (n - b.length) := by
    rw [← List.drop_drop, List.drop_append_of_le_length (by simp [zeros_len, hr]), List.drop_of_length_le (l := zeros 4 ++ r) (by simp [zeros_len, hr]), List.nil_append]
    unfold zeros
    rw [List.drop_replicate]
  rw [h1]
  unfold put
  rw [h2, h3, List.append_assoc, List.append_assoc, List.drop_append_of_le_length (by simp [zeros_len]), List.drop_of_length_le (by simp [zeros_len]), List.nil_append]
/-- what stands behind the sum -/
def bodyV (b : List UInt8) : List UInt8 := bigE 2 b.length ++ (b ++ zeros (8186 - b.length))
theorem bodyV_len {b : List UInt8} (h : b.length ≤ 8186) : (bodyV b).length = 8188 := by simp [bodyV, bigE_len, zeros]; omega
def laidV (b : List UInt8) : List UInt8 := bigE 4 (crc (bodyV b)).toNat ++ bodyV b
theorem laidV_len {b : List UInt8} (h : b.length ≤ 8186) : (laidV b).length = 8192 := by rw [laidV, List.length_append, bodyV_len h, bigE_len]
theorem laid_is (b : List UInt8) (h : b.length ≤ 8186) : page_laid.impl b = some (laidV b) := by
  unfold page_laid.impl
  rw [chk_true (by decide)]
  generalize hZ : List.replicate (8192 : Int).toNat (0 : UInt8) = Z
  have hl : Z.length = 8192 := by rw [← hZ, List.length_replicate]; rfl
  rw [chk_true (by omega), u64_id (by omega)]
  have hb := big_is b.length 2 (by omega)
  rw [show (((2 : Nat) : Int)) = (2 : Int) from rfl] at hb
  rw [hb, Option.bind_some]
  have h2 := bigE_len 2 b.length
  have e1 := putA (z := Z) (r := bigE 2 b.length) (a := 4) (n := 4) rfl (by omega)
  simp only [e1]
  have l1 : (put Z 4 (bigE 2 b.length)).length = 8192 := by rw [put_len (by omega), hl]
  generalize hZ1 : put Z 4 (bigE 2 b.length) = Z1 at l1
  rw [chk_true (by omega)]
  have e2 := putA (z := Z1) (r := b) (a := 6) (n := 6) rfl (by omega)
  simp only [e2]
  have l2 : (put Z1 6 b).length = 8192 := by rw [put_len (by omega), l1]
  have hd : (put Z1 6 b).drop 4 = bodyV b := by
    rw [← hZ1, ← hZ]
    exact put_put h2 h
  generalize hZ2 : put Z1 6 b = Z2 at l2 hd
  rw [chk_true (by omega)]
  have es : subl Z2 4 (Z2.length : Int) = bodyV b := by
    rw [← hd]
    simp [subl]
  rw [es, Sum_is (by rw [bodyV_len h]; omega), Option.bind_some, u64_id (by have := (crc (bodyV b)).isLt; omega)]
  have hb4 := big_is (crc (bodyV b)).toNat 4 (by omega)
  rw [show (((4 : Nat) : Int)) = (4 : Int) from rfl] at hb4
  have h4 := bigE_len 4 (crc (bodyV b)).toNat
  rw [hb4, Option.bind_some, put0 (by omega)]
  unfold put laidV
  rw [h4, Nat.zero_add, hd]; rfl
/-- what a block says as a page -/
def getV (c : List UInt8) : List UInt8 × Int :=
  let n := smallV ((c.take 6).drop 4)
  if 8186 < n then ([], 22) else if c.drop (6 + n) ≠ zeros (8186 - n) then ([], 22) else if (crc (c.drop 4)).toNat ≠ smallV (c.take 4) then ([], 22) else ((c.take (6 + n)).drop 6, 0)
theorem getV_bad {c : List UInt8} (h : (crc (c.drop 4)).toNat ≠ smallV (c.take 4)) : getV c = ([], 22) := by
  unfold getV
  simp only [h, ne_eq, not_false_eq_true, if_true]
  split
  · rfl
  · split <;> rfl
theorem getV_laid {b : List UInt8} (h : b.length ≤ 8186) : getV (laidV b) = (b, 0) := by
  have h4 := bigE_len 4 (crc (bodyV b)).toNat
  have h2 := bigE_len 2 b.length
  have t4 : (laidV b).take 4 = bigE 4 (crc (bodyV b)).toNat := by
    unfold laidV; rw [List.take_append_of_le_length (by omega), List.take_of_length_le (by omega)]
  have d4 : (laidV b).drop 4 = bodyV b := by
    unfold laidV
    rw [List.drop_append_of_le_length (by omega), List.drop_of_length_le (by omega), List.nil_append]
  have hs : smallV ((laidV b).take 4) = (crc (bodyV b)).toNat := by rw [t4, smallV_big 4 _ (by have := (crc (bodyV b)).isLt; omega)]
  have d6 : (laidV b).drop 6 = b ++ zeros (8186 - b.length) := by
    rw [show 6 = 4 + 2 from rfl, ← List.drop_drop, d4]
    unfold bodyV
    rw [List.drop_append_of_le_length (by omega), List.drop_of_length_le (by omega), List.nil_append]
  have hn : smallV (((laidV b).take 6).drop 4) = b.length := by
    rw [List.drop_take, d4]
    unfold bodyV
    rw [List.take_append_of_le_length (by omega), List.take_of_length_le (by omega), smallV_big 2 _ (by omega)]
  unfold getV
  simp only [hn]
  rw [if_neg (by omega), if_neg (by
    rw [← List.drop_drop, d6, List.drop_append_of_le_length (by omega), List.drop_of_length_le (by omega), List.nil_append]
    simp), if_neg (by rw [d4, hs]; simp)]
  rw [List.drop_take, d6, show 6 + b.length - 6 = b.length by omega, List.take_append_of_le_length (by omega), List.take_of_length_le (by omega)]
/-! ### Heads -/
def headV (n r : Nat) : List UInt8 := [104, 101, 97, 100] ++ bigE 8 n ++ bigE 4 r ++ bigE 4 (n % 4294967296)
theorem headV_len (n r : Nat) : (headV n r).length = 20 := by simp [headV, bigE_len]
theorem mask32 (n : Nat) : bitsOf .and .u64 (n : Int) 4294967295 = ((n % 4294967296 : Nat) : Int) := by
  show IntKind.u64.wrap ((BitVec.ofInt 64 (n : Int) &&& BitVec.ofInt 64 4294967295).toNat : Nat) = _
  rw [BitVec.toNat_and, BitVec.ofInt_natCast, BitVec.toNat_ofNat, show (BitVec.ofInt 64 4294967295).toNat = 2 ^ 32 - 1 by decide, Nat.and_two_pow_sub_one_eq_mod]
  rw [u64_id (by omega)]
  omega
theorem head_is (n r : Nat) (hr : r < 18446744073709551616) : page_head_bytes.impl ((n : Int), (r : Int)) = some (headV n r) := by
  unfold page_head_bytes.impl
  have h8 := big_is n 8 (by omega)
  have h4 := big_is r 4 (by omega)
  have hm := big_is (n % 4294967296) 4 (by omega)
  have l8 := bigE_len 8 n
  have l4 := bigE_len 4 r
  have lm := bigE_len 4 (n % 4294967296)
  rw [show (((8 : Nat) : Int)) = (8 : Int) from rfl] at h8
  rw [show (((4 : Nat) : Int)) = (4 : Int) from rfl] at h4 hm
  simp only [u64_id (show 0 ≤ (r : Int) ∧ (r : Int) < 18446744073709551616 by omega), mask32, h8, h4, hm, Option.bind_some]
  rw [chk_true (by simp [l8]), chk_true (by simp [l8, l4]), chk_true (by simp [l8, l4, lm])]
  rfl
/-- what a block says as a head -/
def readH (c : List UInt8) (b : Nat) : (Nat × Nat) × Bool :=
  if c = zeros 8192 then ((0, 0), true) else
  let n := smallV ((c.take 12).drop 4)
  let r := smallV ((c.take 16).drop 12)
  ((n, r), decide (c.take 20 = headV n r ∧ c.drop 20 = zeros 8172 ∧ n ≤ 4611686018427387904 ∧ r ≠ 1 ∧ r < b ∧ (n = 0 → r = 0)))
def hI (h : (Nat × Nat) × Bool) : (Int × Int) × Bool := (((h.1.1 : Int), (h.1.2 : Int)), h.2)
theorem readHead_is {c : List UInt8} (hc : c.length = 8192) (b : Nat) : page_readHead.impl c (b : Int) = some (hI (readH c b)) := by
  unfold page_readHead.impl
  rw [zero_is c (by omega), Option.bind_some, hc]
  unfold readH
  by_cases hz : c = zeros 8192
  · rw [ite_dt hz, if_pos hz]; rfl
  rw [ite_df hz, if_neg hz, chk_true (by omega), chk_true (by omega)]
  have s8 : (subl c 4 12).length = 8 := by simp [subl]; omega
  have s4 : (subl c 12 16).length = 4 := by simp [subl]; omega
  rw [small_is _ (by omega), small_is _ (by omega)]
  simp only [Option.bind_some]
  have e1 : subl c 4 12 = (c.take 12).drop 4 := rfl
  have e2 : subl c 12 16 = (c.take 16).drop 12 := rfl
  have b8 := smallV_lt (subl c 4 12)
  have b4 := smallV_lt (subl c 12 16)
  rw [s8] at b8
  rw [s4] at b4
  rw [e1] at b8 ⊢
  rw [e2] at b4 ⊢
  generalize smallV ((c.take 12).drop 4) = n at b8 ⊢
  generalize smallV ((c.take 16).drop 12) = r at b4 ⊢
  rw [i64_id (by omega)]
  unfold page_readHead.k1
  rw [chk_true (by omega), head_is n r (by omega)]
  simp only [Option.bind_some, bytes_Equal.impl, show subl c 0 20 = c.take 20 from by simp [subl], show subl c 20 (c.length : Int) = c.drop 20 by simp [subl]]
  have z : page_zero.impl (c.drop 20) = some (decide (c.drop 20 = zeros 8172)) := by
    rw [zero_is _ (by simp [hc])]; simp [hc]
  have k3 : ∀ (x : Int × Int) (y : Bool), page_readHead.k3 x y = some (x, y) := fun x y => rfl
  unfold hI
  simp only
  by_cases h1 : c.take 20 = headV n r
  · rw [ite_dt h1, chk_true (by omega), z]
    simp only [Option.bind_some]
    unfold page_readHead.k2
    by_cases h2 : c.drop 20 = zeros 8172
    · rw [ite_dt h2]
      by_cases h3 : n ≤ 4611686018427387904
      · rw [ite_dt (by omega)]
        by_cases h4 : r = 1
        · rw [ite_dt (by omega), k3, decide_eq_false (by simp [h4])]
        · rw [ite_df (by omega)]
          by_cases h5 : r < b
          · rw [ite_dt (by omega)]
            by_cases h6 : n = 0
            · rw [ite_dt (by omega), k3]
              by_cases h7 : r = 0
              · rw [decide_eq_true (by omega), decide_eq_true ⟨h1, h2, h3, h4, h5, fun _ => h7⟩]
              · rw [decide_eq_false (by omega), decide_eq_false (fun h => h7 (h.2.2.2.2.2 h6))]
            · rw [ite_df (by omega), k3, decide_eq_true ⟨h1, h2, h3, h4, h5, fun e => absurd e h6⟩]
          · rw [ite_df (by omega), k3, decide_eq_false (fun h => h5 h.2.2.2.2.1)]
      · rw [ite_df (by omega), k3, decide_eq_false (fun h => h3 h.2.2.1)]
    · rw [ite_df h2, k3, decide_eq_false (fun h => h2 h.2.1)]
  · rw [ite_df h1]
    unfold page_readHead.k2
    simp only [Bool.false_eq_true, if_false, k3]
    rw [decide_eq_false (fun h => h1 h.1)]
theorem readH_zero (b : Nat) : readH (zeros 8192) b = ((0, 0), true) := by simp [readH]
theorem readH_head {n r b : Nat} (hn : n ≤ 4611686018427387904) (hn0 : 0 < n) (hr : r ≠ 1 ∧ r < b) (hb : b ≤ 4096) : readH (headV n r ++ zeros 8172) b = ((n, r), true) := by
  have h8 := bigE_len 8 n
  have h4 := bigE_len 4 r
  have hm := bigE_len 4 (n % 4294967296)
  have hl := headV_len n r
  have e0 : headV n r ++ zeros 8172 ≠ zeros 8192 := by
    intro e
    rw [show 8192 = 8191 + 1 from rfl, zeros_succ] at e
    simp only [headV, List.cons_append] at e
    injection e with e1 e2
    exact absurd e1 (by decide)
  have e1 : smallV (((headV n r ++ zeros 8172).take 12).drop 4) = n := by
    rw [List.take_append_of_le_length (by omega)]
    have : ((headV n r).take 12).drop 4 = bigE 8 n := by
      unfold headV
      rw [List.append_assoc, List.append_assoc, List.drop_take]
      simp only [List.cons_append, List.nil_append, List.drop_succ_cons, List.drop_zero]
      rw [List.take_append_of_le_length (by omega), List.take_of_length_le (by omega)]
    rw [this, smallV_big 8 n (by omega)]
  have e2 : smallV (((headV n r ++ zeros 8172).take 16).drop 12) = r := by
    rw [List.take_append_of_le_length (by omega)]
    have : ((headV n r).take 16).drop 12 = bigE 4 r := by
      unfold headV
      rw [List.append_assoc ([104, 101, 97, 100] ++ bigE 8 n), List.drop_take, List.drop_append_of_le_length (by simp [h8]), List.drop_of_length_le (by simp [h8]), List.nil_append, List.take_append_of_le_length (by omega), List.take_of_length_le (by omega)]
    rw [this, smallV_big 4 r (by omega)]
  unfold readH
  rw [if_neg e0]
  simp only [e1, e2]
  rw [decide_eq_true]
  refine ⟨by rw [List.take_append_of_le_length (by omega), List.take_of_length_le (by omega)], by rw [List.drop_append_of_le_length (by omega), List.drop_of_length_le (by omega), List.nil_append], hn, hr.1, hr.2, fun e => by omega⟩
end Go.Proofs.Ytccifnjlfhdpiaa
