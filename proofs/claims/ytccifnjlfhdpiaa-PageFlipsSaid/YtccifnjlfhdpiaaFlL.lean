/- PageFlips, in plain terms. -/
import Derived.Test.YtccifnjlfhdpiaaTdL
import Derived.Test.YtccifnjlfhdpiaaLawF
set_option linter.unusedVariables false
set_option linter.unusedSimpArgs false
set_option linter.unusedSectionVars false
namespace Go.Proofs.Ytccifnjlfhdpiaa
open Go Go.RowKit
/-! ### Turned bits, ahead of a place and behind it -/
theorem flipB_1 (l : List UInt8) (p : Nat) : flipB l p = flip1 l p := rfl
theorem flip_front {T : List UInt8} (L : List UInt8) {p : Nat} (h : p < 8 * T.length) : flip1 (T ++ L) p = flip1 T p ++ L := by
  unfold flip1
  have hd : (T ++ L).getD (p / 8) default = T.getD (p / 8) default := by
    simp [List.getD, List.getElem?_append_left (show p / 8 < T.length by omega)]
  rw [hd, List.set_append_left _ _ (by omega)]
theorem flip_back {T : List UInt8} (L : List UInt8) (p : Nat) (h : T.length = 4) : flip1 (T ++ L) (32 + p) = T ++ flip1 L p := by
  unfold flip1
  have e1 : (32 + p) / 8 = 4 + p / 8 := by omega
  have e2 : (32 + p) % 8 = p % 8 := by omega
  have hd : (T ++ L).getD (4 + p / 8) default = L.getD (p / 8) default := by
    simp [List.getD, List.getElem?_append_right (show T.length ≤ 4 + p / 8 by omega), h]
  rw [e1, e2, hd, List.set_append_right _ _ (by omega), h, show 4 + p / 8 - 4 = p / 8 by omega]
/-! ### Parity -/
def pn (u : Nat) : BitVec 1 := par (BitVec.ofNat 32 u)
theorem par_up {x : BitVec 32} (h : x.toNat < 16777216) : par (x <<< 8) = par x := by
  have key := lin_ext (f := fun x => par ((x &&& 16777215#32) <<< 8)) (g := fun x => par (x &&& 16777215#32)) (fun a b => by
    show par (((a ^^^ b) &&& 16777215#32) <<< 8) = _
    rw [and_xor, BitVec.shiftLeft_xor_distrib, par_xor]) (fun a b => by
    show par ((a ^^^ b) &&& 16777215#32) = _
    rw [and_xor, par_xor]) (by decide +kernel) x
  have e : x &&& 16777215#32 = x := BitVec.eq_of_toNat_eq (by
    rw [BitVec.toNat_and]
    have := Nat.and_two_pow_sub_one_eq_mod x.toNat 24
    rw [show (16777215#32).toNat = 2 ^ 24 - 1 from rfl, this]
    omega)
  have key : par ((x &&& 16777215#32) <<< 8) = par (x &&& 16777215#32) := key
  rw [e] at key; exact key
theorem pn_step {u c : Nat} (hu : u < 16777216) (hc : c < 256) : pn (u * 256 + c) = pn u ^^^ pn c := by
  have e : BitVec.ofNat 32 (u * 256 + c) = (BitVec.ofNat 32 u <<< 8) ^^^ BitVec.ofNat 32 c := by
    apply BitVec.eq_of_getLsbD_eq
    intro j hj
    rw [BitVec.getLsbD_xor, BitVec.getLsbD_shiftLeft, BitVec.getLsbD_ofNat, BitVec.getLsbD_ofNat, BitVec.getLsbD_ofNat, Nat.mul_comm, show 256 = 2 ^ 8 from rfl, Nat.testBit_two_pow_mul_add u (show c < 2 ^ 8 from hc) j]
    by_cases h : j < 8
    · simp [h, hj]
    · have : c.testBit j = false := Nat.testBit_lt_two_pow (Nat.lt_of_lt_of_le (show c < 2 ^ 8 from hc) (Nat.pow_le_pow_right (by omega) (by omega)))
      have h32 : j - 8 < 32 := by omega
      simp [h, hj, this, h32]
  unfold pn
  rw [e, par_xor, par_up (by rw [BitVec.toNat_ofNat]; omega)]
theorem pn_byte (c : UInt8) : pn c.toNat = par (w8 c) := by
  unfold pn
  congr 1
  exact BitVec.eq_of_toNat_eq (by rw [w8_toNat, BitVec.toNat_ofNat]; have := c.toNat_lt; omega)
theorem par_bit : ∀ t : Fin 8, par (w8 (1 <<< UInt8.ofNat t.val)) = 1#1 := by decide +kernel
theorem pn_flip (c : UInt8) (p : Nat) : pn (c ^^^ (1 <<< UInt8.ofNat (p % 8))).toNat = pn c.toNat ^^^ 1#1 := by
  rw [pn_byte, pn_byte, w8_xor, par_xor, par_bit ⟨p % 8, by omega⟩]
theorem pn_four (a b c d : UInt8) : pn (smallV [a, b, c, d]) = ((pn a.toNat ^^^ pn b.toNat) ^^^ pn c.toNat) ^^^ pn d.toNat := by
  have ha := a.toNat_lt
  have hb := b.toNat_lt
  have hc := c.toNat_lt
  have e : smallV [a, b, c, d] = ((a.toNat * 256 + b.toNat) * 256 + c.toNat) * 256 + d.toNat := by simp [smallV]
  rw [e, pn_step (by omega) d.toNat_lt, pn_step (by omega) c.toNat_lt, pn_step (by omega) b.toNat_lt]
theorem four_flip {T : List UInt8} (h : T.length = 4) {p : Nat} (hp : p < 32) : pn (smallV (flip1 T p)) = pn (smallV T) ^^^ 1#1 := by
  match T, h with
  | [a, b, c, d], _ =>
    have key : ∀ x y z u : BitVec 1, (((x ^^^ 1#1) ^^^ y) ^^^ z) ^^^ u = (((x ^^^ y) ^^^ z) ^^^ u) ^^^ 1#1 ∧ ((x ^^^ (y ^^^ 1#1)) ^^^ z) ^^^ u = (((x ^^^ y) ^^^ z) ^^^ u) ^^^ 1#1 ∧ ((x ^^^ y) ^^^ (z ^^^ 1#1)) ^^^ u = (((x ^^^ y) ^^^ z) ^^^ u) ^^^ 1#1 ∧ ((x ^^^ y) ^^^ z) ^^^ (u ^^^ 1#1) = (((x ^^^ y) ^^^ z) ^^^ u) ^^^ 1#1 := by decide +kernel
    have hk : p / 8 = 0 ∨ p / 8 = 1 ∨ p / 8 = 2 ∨ p / 8 = 3 := by omega
    unfold flip1
    rcases hk with e | e | e | e <;> rw [e]
    · show pn (smallV [a ^^^ _, b, c, d]) = _
      rw [pn_four, pn_four, pn_flip]; exact (key _ _ _ _).1
    · show pn (smallV [a, b ^^^ _, c, d]) = _
      rw [pn_four, pn_four, pn_flip]; exact (key _ _ _ _).2.1
    · show pn (smallV [a, b, c ^^^ _, d]) = _
      rw [pn_four, pn_four, pn_flip]; exact (key _ _ _ _).2.2.1
    · show pn (smallV [a, b, c, d ^^^ _]) = _
      rw [pn_four, pn_four, pn_flip]; exact (key _ _ _ _).2.2.2
theorem crc_flip {L : List UInt8} {p : Nat} (hp : p < 8 * L.length) : par (crc (flip1 L p)) = par (crc L) ^^^ 1#1 := by
  have hn : ∀ x : BitVec 32, ~~~ x = x ^^^ 4294967295#32 := fun x => by
    rw [show 4294967295#32 = BitVec.allOnes 32 from rfl, BitVec.xor_allOnes]
  unfold crc
  rw [hn, hn, reg_flip _ _ _ hp, par_xor, par_xor, par_xor, par_itr, par_one]
  generalize par (reg 4294967295#32 L) = x
  generalize par 4294967295#32 = y
  revert x y
  decide
/-- whether an odd number of bits is turned -/
def odd (c : List UInt8) : BitVec 1 := par (crc (c.drop 4)) ^^^ pn (smallV (c.take 4))
theorem odd_flip {c : List UInt8} (hc : c.length = 8192) {p : Nat} (hp : p < 65536) : odd (flip1 c p) = odd c ^^^ 1#1 := by
  have hT : (c.take 4).length = 4 := by simp; omega
  have hL : (c.drop 4).length = 8188 := by simp; omega
  have e : c = c.take 4 ++ c.drop 4 := (List.take_append_drop 4 c).symm
  generalize c.take 4 = T at *
  generalize c.drop 4 = L at *
  have ht : ∀ (A B : List UInt8), A.length = 4 → (A ++ B).take 4 = A ∧ (A ++ B).drop 4 = B := fun A B h => by
    rw [← h]; simp
  subst e
  unfold odd
  rw [(ht T L hT).1, (ht T L hT).2]
  by_cases h : p < 32
  · rw [flip_front L (by omega), (ht _ L (by rw [flip1_length, hT])).1, (ht _ L (by rw [flip1_length, hT])).2, four_flip hT h]
    generalize par (crc L) = x
    generalize pn (smallV T) = y
    revert x y; decide
  · obtain ⟨q, rfl⟩ : ∃ q, p = 32 + q := ⟨p - 32, by omega⟩
    rw [flip_back L q hT, (ht T _ hT).1, (ht T _ hT).2, crc_flip (by omega)]
    generalize par (crc L) = x
    generalize pn (smallV T) = y
    revert x y; decide
theorem odd_same {c : List UInt8} (h : (crc (c.drop 4)).toNat = smallV (c.take 4)) : odd c = 0#1 := by
  unfold odd pn
  rw [← h, BitVec.ofNat_toNat, BitVec.setWidth_eq]
  exact BitVec.xor_self
theorem laid_parts {b : List UInt8} (h : b.length ≤ 8186) : (laidV b).take 4 = bigE 4 (crc (bodyV b)).toNat ∧ (laidV b).drop 4 = bodyV b := by
  have h4 := bigE_len 4 (crc (bodyV b)).toNat
  unfold laidV
  exact ⟨by rw [List.take_append_of_le_length (by omega), List.take_of_length_le (by omega)], by rw [List.drop_append_of_le_length (by omega), List.drop_of_length_le (by omega), List.nil_append]⟩
theorem laid_sum {b : List UInt8} (h : b.length ≤ 8186) : (crc ((laidV b).drop 4)).toNat = smallV ((laidV b).take 4) := by
  rw [(laid_parts h).1, (laid_parts h).2, smallV_big 4 _ (by have := (crc (bodyV b)).isLt; omega)]
theorem getV_three {b : List UInt8} (h : b.length ≤ 8186) {i j k : Nat} (hi : i < 65536) (hj : j < 65536) (hk : k < 65536) : getV (flip1 (flip1 (flip1 (laidV b) i) j) k) = ([], 22) := by
  refine getV_bad fun e => ?_
  have h0 := odd_same e
  have hl := laidV_len h
  rw [odd_flip (by simp [flip1_length, hl]) hk, odd_flip (by simp [flip1_length, hl]) hj, odd_flip hl hi, odd_same (laid_sum h)] at h0
  exact absurd h0 (by decide)
theorem flip_comm (l : List UInt8) (p q : Nat) : flip1 (flip1 l p) q = flip1 (flip1 l q) p := by
  refine ext_getD (by simp [flip1_length]) fun i hi => ?_
  rw [flip1_length, flip1_length] at hi
  rw [← flipB_1, ← flipB_1, ← flipB_1, ← flipB_1, flipB_get _ _ _ (by rw [flipB_len]; exact hi), flipB_get _ _ _ hi, flipB_get _ _ _ (by rw [flipB_len]; exact hi), flipB_get _ _ _ hi]
  split <;> split <;> try rfl
  rw [UInt8.xor_assoc, UInt8.xor_assoc, UInt8.xor_comm (bit8 p)]
theorem flip_twice (l : List UInt8) (p : Nat) : flip1 (flip1 l p) p = l := flipB_flipB l p
theorem six_flips (l : List UInt8) (i j k : Nat) : flip1 (flip1 (flip1 (flip1 (flip1 (flip1 l i) j) k) i) j) k = l := by
  rw [flip_comm (flip1 (flip1 l i) j) k i, flip_comm (flip1 l i) j i, flip_twice, flip_comm (flip1 l j) k j, flip_twice, flip_twice]
/-! ### Bits that follow one another -/
theorem burst_none {l : List UInt8} {p : Nat} {q : BitVec 32} (hp : p + 32 ≤ 8 * l.length) (h : burst l p q 32 = l) : ∀ j, j < 32 → q.getLsbD j = false := by
  intro j hj
  have hr := reg_burst l p q 0#32 32 (by omega)
  rw [h] at hr
  have h2 : itr (8 * l.length - p) (burstW (8 * l.length) p q 32) = 0#32 := by
    have := congrArg (fun x => reg 0#32 l ^^^ x) hr
    simp only [← BitVec.xor_assoc, BitVec.xor_self, BitVec.zero_xor] at this
    exact this.symm
  have hw := itr_zero h2
  have := burstW_bits (8 * l.length) p q 32 (by omega) j
  rw [hw, BitVec.getLsbD_zero, decide_eq_true hj, decide_eq_true (show p + j < 8 * l.length by omega)] at this
  simpa using this.symm
def cnt (q : BitVec 32) : Nat → Nat
  | 0 => 0
  | x + 1 => if q.getLsbD x = true then cnt q x + 1 else cnt q x
theorem cnt_le (q : BitVec 32) : ∀ x, cnt q x ≤ x
  | 0 => Nat.le_refl _
  | x + 1 => by have := cnt_le q x; unfold cnt; split <;> omega
theorem cnt_zero (q : BitVec 32) : ∀ x, (∀ j, j < x → q.getLsbD j = false) → cnt q x = 0
  | 0, _ => rfl
  | x + 1, h => by
    unfold cnt
    rw [if_neg (by rw [h x (by omega)]; decide)]
    exact cnt_zero q x fun j hj => h j (by omega)
theorem burst_same {l : List UInt8} {p : Nat} {q : BitVec 32} : ∀ x, cnt q x = 0 → burst l p q x = l
  | 0, _ => rfl
  | x + 1, h => by
    unfold cnt at h
    by_cases g : q.getLsbD x = true
    · rw [if_pos g] at h; omega
    · rw [if_neg g] at h
      unfold burst
      rw [if_neg (fun e => g e.1)]
      exact burst_same x h
/-! ### The walk -/
def FS (X : List UInt8) (m c : KM) : Prop := Fulls c ∧ c.length ≤ 1 ∧ rd m c 2 = X
theorem flip_FS {X : List UInt8} {m c : KM} (h : FS X m c) {p : Nat} (hp : p < 65536) : ∃ m' c', disk_Disk_Flip.impl (4, false, 0, 0, 0, 0, 0) m c 2 (p : Int) = some (0, m', c') ∧ FS (flip1 X p) m' c' := by
  refine ⟨_, _, Flip_is h.1 (by omega) hp false 0 0 0 0 0 m, flipC_fulls h.1 2 p, by unfold flipC; simp; exact h.2.1, ?_⟩
  rw [rd_flip h.1, if_pos rfl, h.2.2]; rfl
section
variable {b : List UInt8} (hb : b.length ≤ 500)
def oddI (a : Int) : Prop := bitsOf .and .i64 a 1 = 1
instance (a : Int) : Decidable (oddI a) := by unfold oddI; infer_instance
def plc (a : Int) (u v : Nat) : Nat := if oddI a then v % u else v
theorem plc_lt {a : Int} {u v : Nat} (hv : v < 65536) : plc a u v < 65536 := by
  unfold plc
  split
  · exact Nat.lt_of_le_of_lt (Nat.mod_le _ _) hv
  · exact hv
theorem used_is {l0 : List UInt8} (hs : subl l0 0 (min (l0.length : Int) 500) = b) (hb : b.length ≤ 500) : IntKind.i64.wrap (8 * IntKind.i64.wrap (((subl l0 0 (min (l0.length : Int) 500)).length : Int) + 6)) = ((8 * (b.length + 6) : Nat) : Int) := by
  rw [hs, i64_id (n := (b.length : Int) + 6) (by omega), i64_id (by omega)]; omega
theorem st3_step {a1 : Int} {l0 : List UInt8} (hs : subl l0 0 (min (l0.length : Int) 500) = b) (hb : b.length ≤ 500) {q : MI2} {m0 c0 : KM} {X : List UInt8} {m c : KM} (h : FS X m c) {L : List Int} (hL : L.length = 3) {i v : Nat} (hi : i < 3) (hv : L.getD i default = (v : Int)) (hv6 : v < 65536) :
    ∃ m' c', law4_PageFlips.st3 a1 l0 (2, 0, q, (4, false, 0, 0, 0, 0, 0), m0, c0) (m, c, L, (i : Int)) = some (.inl (m', c', L.set i (plc a1 (8 * (b.length + 6)) v : Int), ((i + 1 : Nat) : Int))) ∧ FS (flip1 X (plc a1 (8 * (b.length + 6)) v)) m' c' := by
  have hu := used_is hs hb
  have hi0 : (0 + ((i : Int)).toNat * 1) = i := by omega
  have k9 : ∀ (M : List Int) (u : Nat), M.length = 3 → M.getD i default = (u : Int) → u < 65536 → ∃ m' c', law4_PageFlips.k9 (m, c, L, (i : Int)) (2, 0, q, (4, false, 0, 0, 0, 0, 0), m0, c0) M = some (.inl (m', c', M, ((i + 1 : Nat) : Int))) ∧ FS (flip1 X u) m' c' := by
    intro M u hM hMu hu6
    obtain ⟨m', c', h1, h2⟩ := flip_FS h hu6
    refine ⟨m', c', ?_, h2⟩
    unfold law4_PageFlips.k9
    simp only [hi0]
    rw [chk_true (by omega), chk_true (by omega), hMu, h1, Option.bind_some, i64_id (by omega)]; rfl
  unfold law4_PageFlips.st3
  simp only [hi0]
  rw [ite_dt (by omega), hu]
  by_cases ho : bitsOf .and .i64 a1 1 = 1
  · rw [ite_dt ho, chk_true (by omega), chk_true (by omega), chk_true (by omega), chk_true (by omega), chk_true (by omega), hv]
    have e : Int.tmod (v : Int) ((8 * (b.length + 6) : Nat) : Int) = ((plc a1 (8 * (b.length + 6)) v : Nat) : Int) := by
      unfold plc
      rw [if_pos (show oddI a1 from ho), Int.tmod_eq_emod_of_nonneg (by omega)]; omega
    rw [e]
    exact k9 _ _ (by simp [hL]) (by simp [List.getD, hL, hi]) (plc_lt hv6)
  · rw [ite_df ho]
    have e : plc a1 (8 * (b.length + 6)) v = v := by unfold plc; rw [if_neg (show ¬ oddI a1 from ho)]
    have e2 : L.set i ((v : Nat) : Int) = L := by
      have hget : L[i]'(by omega) = ((v : Nat) : Int) := by
        rw [← hv]; simp [List.getD, hL, hi]
      rw [← hget, List.set_getElem_self]
    rw [e, e2]
    exact k9 L v hL hv hv6
theorem st2_step {q : MI2} {m0 c0 m9 c9 : KM} {X : List UInt8} {m c : KM} (h : FS X m c) {L : List Int} (hL : L.length = 3) {i v : Nat} (hi : i < 3) (hv : L.getD i default = (v : Int)) (hv6 : v < 65536) :
    ∃ m' c', law4_PageFlips.st2 (m9, c9, L) (2, 0, q, (4, false, 0, 0, 0, 0, 0), m0, c0) (m, c, (i : Int)) = some (.inl (m', c', ((i + 1 : Nat) : Int))) ∧ FS (flip1 X v) m' c' := by
  have hi0 : (0 + ((i : Int)).toNat * 1) = i := by omega
  obtain ⟨m', c', h1, h2⟩ := flip_FS h hv6
  refine ⟨m', c', ?_, h2⟩
  unfold law4_PageFlips.st2
  simp only [hi0]
  rw [ite_dt (by omega), chk_true (by omega), chk_true (by omega), hv, h1, Option.bind_some, i64_id (by omega)]; rfl
theorem mask40 (n : Int) : bitsOf .and .i64 n 1099511627775 = n % 1099511627776 := i64_mask 40 (by decide) n _ (by decide)
theorem place (a : Int) (m : Nat) (hm : 0 < m) : ∃ p : Nat, Int.tmod (bitsOf .and .i64 a 1099511627775) (m : Int) = (p : Int) ∧ p < m := by
  rw [mask40, Int.tmod_eq_emod_of_nonneg (by omega)]
  refine ⟨(a % 1099511627776 % (m : Int)).toNat, ?_, ?_⟩
  · have := Int.emod_nonneg (a % 1099511627776) (show (m : Int) ≠ 0 by omega); omega
  · have := Int.emod_lt_of_pos (a % 1099511627776) (show (0 : Int) < m by omega)
    have := Int.emod_nonneg (a % 1099511627776) (show (m : Int) ≠ 0 by omega); omega
theorem st1_step {a1 : Int} {l0 : List UInt8} (hs : subl l0 0 (min (l0.length : Int) 500) = b) (hb : b.length ≤ 500) {q : MI2} {m0 c0 : KM} {T L : List UInt8} (hT : T.length = 4) (hL : L.length = 8188) {k : Nat} (hk : Int.tmod (bitsOf .and .i64 a1 1099511627775) ((8 * (b.length + 6) - 32 : Nat) : Int) = (k : Int)) (hk2 : k < 8 * (b.length + 6) - 32) (g : BitVec 32) {x : Nat} (hx : x < 32) {m c : KM} (h : FS (T ++ burst L k g x) m c) :
    ∃ m' c', law4_PageFlips.st1 (g.toNat : Int) (2, 0, q, (4, false, 0, 0, 0, 0, 0), m0, c0) a1 l0 (m, c, (cnt g x : Int), (x : Int)) = some (.inl (m', c', (cnt g (x + 1) : Int), ((x + 1 : Nat) : Int))) ∧ FS (T ++ burst L k g (x + 1)) m' c' := by
  have hu := used_is hs hb
  have w32 : IntKind.i64.wrap (((8 * (b.length + 6) : Nat) : Int) - 32) = ((8 * (b.length + 6) - 32 : Nat) : Int) := by rw [i64_id (by omega)]; omega
  have wa : IntKind.i64.wrap (32 + (k : Int)) = ((32 + k : Nat) : Int) := by rw [i64_id (by omega)]; omega
  have wx : IntKind.i64.wrap (((32 + k : Nat) : Int) + (x : Int)) = ((32 + (k + x) : Nat) : Int) := by rw [i64_id (by omega)]; omega
  have hs' : shrI .u32 (g.toNat : Int) (x : Int) = ((g >>> x).toNat : Int) := u32_shr g x (by omega)
  have hlow := low_bit (g >>> x)
  rw [BitVec.getLsbD_ushiftRight, Nat.add_zero] at hlow
  have hcl := cnt_le g x
  unfold law4_PageFlips.st1
  simp only [hu, w32, hk, wa, wx]
  rw [ite_dt (by omega), decide_eq_true (by omega)]
  unfold law4_PageFlips.k7
  simp only [if_true, hu, w32, hk, wa, wx, u64_id (show 0 ≤ (x : Int) ∧ (x : Int) < 18446744073709551616 by omega), hs']
  have eb : burst L k g (x + 1) = if g.getLsbD x = true ∧ k + x < 8 * L.length then flip1 (burst L k g x) (k + x) else burst L k g x := rfl
  have ec : cnt g (x + 1) = if g.getLsbD x = true then cnt g x + 1 else cnt g x := rfl
  rw [eb, ec]
  by_cases hb2 : g.getLsbD x = true
  · rw [ite_dt (hlow.2 hb2), if_pos hb2, if_pos ⟨hb2, by omega⟩]
    obtain ⟨m', c', h1, h2⟩ := flip_FS h (p := 32 + (k + x)) (by omega)
    refine ⟨m', c', ?_, ?_⟩
    · rw [h1, Option.bind_some]
      unfold law4_PageFlips.k8
      simp only
      rw [i64_id (n := (cnt g x : Int) + 1) (by omega), i64_id (by omega)]; rfl
    · rw [flip_back _ _ hT] at h2; exact h2
  · rw [ite_df (fun e => hb2 (hlow.1 e)), if_neg hb2, if_neg (fun e => hb2 e.1)]
    refine ⟨m, c, ?_, h⟩
    unfold law4_PageFlips.k8
    simp only
    rw [i64_id (by omega)]; rfl
theorem st1_loop {a1 : Int} {l0 : List UInt8} (hs : subl l0 0 (min (l0.length : Int) 500) = b) (hb : b.length ≤ 500) {q : MI2} {m0 c0 : KM} {T L : List UInt8} (hT : T.length = 4) (hL : L.length = 8188) {k : Nat} (hk : Int.tmod (bitsOf .and .i64 a1 1099511627775) ((8 * (b.length + 6) - 32 : Nat) : Int) = (k : Int)) (hk2 : k < 8 * (b.length + 6) - 32) (g : BitVec 32) : ∀ (n x : Nat), x + n = 32 → ∀ {m c : KM}, FS (T ++ burst L k g x) m c →
    ∃ m' c', loop (law4_PageFlips.st1 (g.toNat : Int) (2, 0, q, (4, false, 0, 0, 0, 0, 0), m0, c0) a1 l0) (m, c, (cnt g x : Int), (x : Int)) = some (m', c', (cnt g 32 : Int)) ∧ FS (T ++ burst L k g 32) m' c'
  | 0, x, hx, m, c, h => by
    obtain rfl : x = 32 := by omega
    refine ⟨m, c, loop_last ?_, h⟩
    unfold law4_PageFlips.st1
    rw [ite_df (by simp)]
    rfl
  | n + 1, x, hx, m, c, h => by
    obtain ⟨m1, c1, h1, h2⟩ := st1_step (q := q) (m0 := m0) (c0 := c0) hs hb hT hL hk hk2 g (by omega) h
    rw [loop_more h1]
    exact st1_loop hs hb hT hL hk hk2 g n (x + 1) (by omega) h2
end
theorem flips_is {l0 : List UInt8} (a1 a2 a3 a4 : Int) (h4 : 0 ≤ a4 ∧ a4 < 4294967296) : law4_PageFlips.impl l0 a1 a2 a3 a4 = some true := by
  obtain ⟨g, rfl⟩ : ∃ g : BitVec 32, a4 = (g.toNat : Int) := ⟨BitVec.ofNat 32 a4.toNat, by rw [BitVec.toNat_ofNat]; omega⟩
  unfold law4_PageFlips.impl
  rw [chk_true (by omega), New_is (by omega), Option.bind_some]
  simp only
  have ho : page_Open.impl (4, false, 0, 0, 0, 0, 0) [] [] = some (openV (rd [] [] 0) (rd [] [] 1) 4 0) := Open_is (b := 4) (by omega) (by simp)
  rw [ho, rd_new, rd_new, openV_new, Option.bind_some]
  simp only [decide_true, if_true]
  unfold law4_PageFlips.k2
  simp only [Bool.false_eq_true, if_false]
  have hb : (subl l0 0 (min (l0.length : Int) 500)).length ≤ 500 := by rw [subl_length (by omega) (by omega) (by omega)]; omega
  generalize hs : subl l0 0 (min (l0.length : Int) 500) = b at hb
  have hX := laidV_len (b := b) (by omega)
  have p1 := Put_no (m := []) (c := []) (b := 4) (lf := 0) (af := 0) (kp := 0) (tn := 0) (ct := 0) (n := 0) (r := 0) (q := []) (p := 2) (by omega) rfl (by simp) (l := b) (by omega) hit0
  have f1 : firstV [] 2 2 = 2 := rfl
  rw [f1, if_neg (by decide), nxt0] at p1
  have p1 : page_Store_Put.impl (((4 - 2 : Nat) : Int), 0, 0, 0) [] (4, false, 0, 0, 0, 0, 0) [] [] b = some (2, 0, [(2, 1)], (4, false, 0, 0, 0, 0, 0), [], [(2, laidV b)]) := p1
  rw [p1, Option.bind_some]
  simp only [decide_true, Bool.not_true, Bool.false_eq_true, if_false]
  obtain ⟨A, hA, eA⟩ := at16 a1
  obtain ⟨B, hB, eB⟩ := at16 a2
  obtain ⟨C, hC, eC⟩ := at16 a3
  rw [eA, eB, eC, chk_true (by simp)]
  generalize hU : 8 * (b.length + 6) = u
  have hFS : FS (laidV b) [] [(2, laidV b)] := ⟨one_full 2 hX, by simp, by
    have := rd_add [] [] 2 2 (laidV b) hX
    rw [List.nil_append] at this
    rw [this, if_pos rfl]⟩
  obtain ⟨m1, c1, e1, i1⟩ := st3_step (a1 := a1) (q := [(2, 1)]) (m0 := []) (c0 := [(2, laidV b)]) hs hb hFS (L := [(A : Int), (B : Int), (C : Int)]) rfl (i := 0) (v := A) (by omega) rfl hA
  rw [hU] at e1 i1
  obtain ⟨m2, c2, e2, i2⟩ := st3_step (a1 := a1) (q := [(2, 1)]) (m0 := []) (c0 := [(2, laidV b)]) hs hb i1 (L := [(plc a1 u A : Int), (B : Int), (C : Int)]) rfl (i := 1) (v := B) (by omega) rfl hB
  rw [hU] at e2 i2
  obtain ⟨m3, c3, e3, i3⟩ := st3_step (a1 := a1) (q := [(2, 1)]) (m0 := []) (c0 := [(2, laidV b)]) hs hb i2 (L := [(plc a1 u A : Int), (plc a1 u B : Int), (C : Int)]) rfl (i := 2) (v := C) (by omega) rfl hC
  rw [hU] at e3 i3
  have e1 : law4_PageFlips.st3 a1 l0 (2, 0, [(2, 1)], (4, false, 0, 0, 0, 0, 0), [], [(2, laidV b)]) ([], [(2, laidV b)], [(A : Int), (B : Int), (C : Int)], 0) = some (.inl (m1, c1, [(plc a1 u A : Int), (B : Int), (C : Int)], 1)) := e1
  have e2 : law4_PageFlips.st3 a1 l0 (2, 0, [(2, 1)], (4, false, 0, 0, 0, 0, 0), [], [(2, laidV b)]) (m1, c1, [(plc a1 u A : Int), (B : Int), (C : Int)], 1) = some (.inl (m2, c2, [(plc a1 u A : Int), (plc a1 u B : Int), (C : Int)], 2)) := e2
  have e3 : law4_PageFlips.st3 a1 l0 (2, 0, [(2, 1)], (4, false, 0, 0, 0, 0, 0), [], [(2, laidV b)]) (m2, c2, [(plc a1 u A : Int), (plc a1 u B : Int), (C : Int)], 2) = some (.inl (m3, c3, [(plc a1 u A : Int), (plc a1 u B : Int), (plc a1 u C : Int)], 3)) := e3
  rw [loop_more e1, loop_more e2, loop_more e3, loop_last (r := (m3, c3, [(plc a1 u A : Int), (plc a1 u B : Int), (plc a1 u C : Int)])) (by
    unfold law4_PageFlips.st3
    rw [ite_df (by simp)]), Option.bind_some]
  have pA := plc_lt (a := a1) (u := u) hA
  have pB := plc_lt (a := a1) (u := u) hB
  have pC := plc_lt (a := a1) (u := u) hC
  generalize plc a1 u A = A' at *
  generalize plc a1 u B = B' at *
  generalize plc a1 u C = C' at *
  have get : ∀ (m c : KM) (X : List UInt8), FS X m c → page_Store_Get.impl (((4 - 2 : Nat) : Int), 0, 0, 0) [(2, 1)] (4, false, 0, 0, 0, 0, 0) m c 2 = some (getV X) := fun m c X h => by
    have := Get_is (m := m) (c := c) (b := 4) (lf := 0) (af := 0) (kp := 0) (tn := 0) (ct := 0) (n := 0) (r := 0) (q := [(2, 1)]) (p := 2) (by omega) rfl (by have := h.2.1; omega) (i := 2) (by omega)
    rw [h.2.2] at this; exact this
  unfold law4_PageFlips.k3
  simp only
  rw [get _ _ _ i3, getV_three (by omega) pA pB pC, Option.bind_some]
  simp only [decide_true, Bool.not_true, Bool.false_eq_true, if_false]
  obtain ⟨m4, c4, e4, i4⟩ := st2_step (q := [(2, 1)]) (m0 := []) (c0 := [(2, laidV b)]) (m9 := m3) (c9 := c3) i3 (L := [(A' : Int), (B' : Int), (C' : Int)]) rfl (i := 0) (v := A') (by omega) rfl pA
  obtain ⟨m5, c5, e5, i5⟩ := st2_step (q := [(2, 1)]) (m0 := []) (c0 := [(2, laidV b)]) (m9 := m3) (c9 := c3) i4 (L := [(A' : Int), (B' : Int), (C' : Int)]) rfl (i := 1) (v := B') (by omega) rfl pB
  obtain ⟨m6, c6, e6, i6⟩ := st2_step (q := [(2, 1)]) (m0 := []) (c0 := [(2, laidV b)]) (m9 := m3) (c9 := c3) i5 (L := [(A' : Int), (B' : Int), (C' : Int)]) rfl (i := 2) (v := C') (by omega) rfl pC
  have e4 : law4_PageFlips.st2 (m3, c3, [(A' : Int), (B' : Int), (C' : Int)]) (2, 0, [(2, 1)], (4, false, 0, 0, 0, 0, 0), [], [(2, laidV b)]) (m3, c3, 0) = some (.inl (m4, c4, 1)) := e4
  have e5 : law4_PageFlips.st2 (m3, c3, [(A' : Int), (B' : Int), (C' : Int)]) (2, 0, [(2, 1)], (4, false, 0, 0, 0, 0, 0), [], [(2, laidV b)]) (m4, c4, 1) = some (.inl (m5, c5, 2)) := e5
  have e6 : law4_PageFlips.st2 (m3, c3, [(A' : Int), (B' : Int), (C' : Int)]) (2, 0, [(2, 1)], (4, false, 0, 0, 0, 0, 0), [], [(2, laidV b)]) (m5, c5, 2) = some (.inl (m6, c6, 3)) := e6
  rw [loop_more e4, loop_more e5, loop_more e6, loop_last (r := (m6, c6)) (by
    unfold law4_PageFlips.st2
    rw [ite_df (by simp)]), Option.bind_some]
  rw [six_flips] at i6
  unfold law4_PageFlips.k4
  simp only
  rw [get _ _ _ i6, getV_laid (by omega), Option.bind_some, hs]
  simp only [decide_true, if_true, Bool.not_true]
  unfold law4_PageFlips.k5
  simp only [Bool.false_eq_true, if_false]
  have w32 : IntKind.i64.wrap (((8 * (b.length + 6) : Nat) : Int) - 32) = ((8 * (b.length + 6) - 32 : Nat) : Int) := by rw [i64_id (by omega)]; omega
  rw [used_is hs hb, w32, chk_true (by omega)]
  obtain ⟨k, hk, hk2⟩ := place a1 (8 * (b.length + 6) - 32) (by omega)
  have hT : ((laidV b).take 4).length = 4 := by simp; omega
  have hL : ((laidV b).drop 4).length = 8188 := by simp; omega
  have hX0 : laidV b = (laidV b).take 4 ++ (laidV b).drop 4 := (List.take_append_drop 4 _).symm
  obtain ⟨m7, c7, e7, i7⟩ := st1_loop (q := [(2, 1)]) (m0 := []) (c0 := [(2, laidV b)]) hs hb hT hL hk hk2 g 32 0 rfl (m := m6) (c := c6) (by rw [hX0] at i6; exact i6)
  have e7 : loop (law4_PageFlips.st1 (g.toNat : Int) (2, 0, [(2, 1)], (4, false, 0, 0, 0, 0, 0), [], [(2, laidV b)]) a1 l0) (m6, c6, 0, 0) = some (m7, c7, (cnt g 32 : Int)) := e7
  rw [e7, Option.bind_some]
  unfold law4_PageFlips.k6
  simp only
  rw [get _ _ _ i7, Option.bind_some, told_is, Option.bind_some, hs]
  simp only [if_true]
  by_cases hz : cnt g 32 = 0
  · have e : (laidV b).take 4 ++ burst ((laidV b).drop 4) k g 32 = laidV b := by rw [burst_same 32 hz]; exact hX0.symm
    rw [e, getV_laid (by omega), ite_dt (by omega)]
    simp
  · rw [ite_df (by omega), ite_dt (by omega)]
    have hg : getV ((laidV b).take 4 ++ burst ((laidV b).drop 4) k g 32) = ([], 22) := by
      refine getV_bad fun e => ?_
      have t4 : ((laidV b).take 4 ++ burst ((laidV b).drop 4) k g 32).take 4 = (laidV b).take 4 := by
        rw [List.take_append_of_le_length (by omega), List.take_of_length_le (by omega)]
      have d4 : ((laidV b).take 4 ++ burst ((laidV b).drop 4) k g 32).drop 4 = burst ((laidV b).drop 4) k g 32 := by
        rw [List.drop_append_of_le_length (by omega), List.drop_of_length_le (by omega), List.nil_append]
      rw [t4, d4, ← laid_sum (by omega)] at e
      rcases crc_burst ((laidV b).drop 4) k g with h | h
      · exact hz (cnt_zero g 32 (burst_none (by omega) h))
      · exact h (BitVec.eq_of_toNat_eq e)
    rw [hg]; rfl
end Go.Proofs.Ytccifnjlfhdpiaa
