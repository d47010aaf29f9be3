/- The check sum's register as bits: a step is linear and loses nothing. -/
import Derived.Test.YtccifnjlfhdpiaaNums
import Derived.KernelRfl
set_option linter.unusedVariables false
set_option linter.unusedSimpArgs false
namespace Go.Proofs.Ytccifnjlfhdpiaa
open Go Go.RowKit
def poly : BitVec 32 := 2197175160#32
def stp (r : BitVec 32) : BitVec 32 := (r >>> 1) ^^^ (if r.getLsbD 0 then poly else 0#32)
def itr : Nat → BitVec 32 → BitVec 32
  | 0, r => r
  | n + 1, r => itr n (stp r)
theorem xor_four {w : Nat} (a b c d : BitVec w) : (a ^^^ b) ^^^ (c ^^^ d) = (a ^^^ c) ^^^ (b ^^^ d) := by
  rw [BitVec.xor_assoc, ← BitVec.xor_assoc b c d, BitVec.xor_comm b c, BitVec.xor_assoc c b d, ← BitVec.xor_assoc a c]
theorem stp_xor (a b : BitVec 32) : stp (a ^^^ b) = stp a ^^^ stp b := by
  unfold stp
  rw [BitVec.ushiftRight_xor_distrib, BitVec.getLsbD_xor, xor_four]
  congr 1
  cases a.getLsbD 0 <;> cases b.getLsbD 0 <;> simp
theorem itr_xor (n : Nat) (a b : BitVec 32) : itr n (a ^^^ b) = itr n a ^^^ itr n b := by
  induction n generalizing a b with
  | zero => rfl
  | succ n ih => simp only [itr]; rw [stp_xor, ih]
theorem itr_add (m n : Nat) (a : BitVec 32) : itr (m + n) a = itr n (itr m a) := by
  induction m generalizing a with
  | zero => simp [itr]
  | succ m ih => rw [Nat.succ_add]; simp only [itr]; exact ih _
/-- Maps that are linear and alike on every single bit are alike. -/
theorem lin_ext {v : Nat} {f g : BitVec 32 → BitVec v} (hf : ∀ a b, f (a ^^^ b) = f a ^^^ f b) (hg : ∀ a b, g (a ^^^ b) = g a ^^^ g b) (h : ∀ i : Fin 32, f (1#32 <<< i.val) = g (1#32 <<< i.val)) (r : BitVec 32) : f r = g r := by
  have zero : ∀ {k : BitVec 32 → BitVec v}, (∀ a b, k (a ^^^ b) = k a ^^^ k b) → k 0#32 = 0#v := fun {k} hk => by
    have := hk 0#32 0#32
    rw [BitVec.xor_self, BitVec.xor_self] at this
    exact this
  have key : ∀ k, k ≤ 32 → ∀ r : BitVec 32, (∀ j, k ≤ j → r.getLsbD j = false) → f r = g r := by
    intro k
    induction k with
    | zero =>
      intro _ r hr
      have : r = 0#32 := BitVec.eq_of_getLsbD_eq (fun i hi => by rw [hr i (Nat.zero_le _)]; simp)
      rw [this, zero hf, zero hg]
    | succ k ih =>
      intro hk r hr
      by_cases hb : r.getLsbD k = true
      · have e : r = (r ^^^ (1#32 <<< k)) ^^^ (1#32 <<< k) := by rw [BitVec.xor_assoc, BitVec.xor_self, BitVec.xor_zero]
        rw [e, hf, hg, h ⟨k, by omega⟩]
        congr 1
        refine ih (by omega) _ (fun j hj => ?_)
        rw [BitVec.getLsbD_xor, BitVec.getLsbD_shiftLeft]
        by_cases hjk : j = k
        · subst hjk; rw [hb]; simp [show j < 32 by omega]
        · rw [hr j (by omega), BitVec.getLsbD_one]
          simp; omega
      · refine ih (by omega) _ (fun j hj => ?_)
        by_cases hjk : j = k
        · subst hjk; simpa using hb
        · exact hr j (by omega)
  exact key 32 (Nat.le_refl _) r (fun j hj => BitVec.getLsbD_of_ge r j hj)
theorem stp_zero {r : BitVec 32} (h : stp r = 0#32) : r = 0#32 := by
  unfold stp at h
  have h31 := congrArg (fun x => BitVec.getLsbD x 31) h
  have hb : r.getLsbD 0 = false := by
    cases hb : r.getLsbD 0 with
    | false => rfl
    | true =>
      rw [hb] at h31
      simp [BitVec.getLsbD_xor, poly, BitVec.getLsbD_of_ge] at h31
  rw [hb] at h
  simp only [Bool.false_eq_true, if_false, BitVec.xor_zero] at h
  refine BitVec.eq_of_getLsbD_eq (fun i hi => ?_)
  cases i with
  | zero => rw [hb]; simp
  | succ i =>
    have := congrArg (fun x => BitVec.getLsbD x i) h
    simp only [BitVec.getLsbD_ushiftRight, BitVec.getLsbD_zero] at this
    rw [Nat.add_comm, this]; simp
theorem itr_zero {n : Nat} {r : BitVec 32} (h : itr n r = 0#32) : r = 0#32 := by
  induction n generalizing r with
  | zero => exact h
  | succ n ih => exact stp_zero (ih h)
/-- All bits together. -/
def par (r : BitVec 32) : BitVec 1 := (List.range 32).foldl (fun b i => b ^^^ ((r >>> i).setWidth 1)) 0#1
theorem par_xor (a b : BitVec 32) : par (a ^^^ b) = par a ^^^ par b := by
  have key : ∀ (l : List Nat) (x y : BitVec 1), l.foldl (fun b' i => b' ^^^ (((a ^^^ b) >>> i).setWidth 1)) (x ^^^ y) = l.foldl (fun b' i => b' ^^^ ((a >>> i).setWidth 1)) x ^^^ l.foldl (fun b' i => b' ^^^ ((b >>> i).setWidth 1)) y := by
    intro l
    induction l with
    | nil => intro x y; rfl
    | cons i l ih =>
      intro x y
      simp only [List.foldl_cons]
      rw [BitVec.ushiftRight_xor_distrib, BitVec.setWidth_xor, xor_four, ih]
  have := key (List.range 32) 0#1 0#1
  rw [BitVec.xor_self] at this
  exact this
theorem par_stp (r : BitVec 32) : par (stp r) = par r := lin_ext (f := fun r => par (stp r)) (g := par) (fun a b => by rw [stp_xor, par_xor]) par_xor (by decide +kernel) r
theorem par_itr (n : Nat) (r : BitVec 32) : par (itr n r) = par r := by
  induction n generalizing r with
  | zero => rfl
  | succ n ih => simp only [itr]; rw [ih, par_stp]
theorem par_one : par 1#32 = 1#1 := by decide +kernel
/-! ### Bytes -/
def w8 (c : UInt8) : BitVec 32 := c.toBitVec.setWidth 32
theorem w8_xor (a b : UInt8) : w8 (a ^^^ b) = w8 a ^^^ w8 b := by unfold w8; rw [UInt8.toBitVec_xor, BitVec.setWidth_xor]
theorem w8_toNat (c : UInt8) : (w8 c).toNat = c.toNat := by
  have := c.toNat_lt
  unfold w8; rw [BitVec.toNat_setWidth, UInt8.toNat_toBitVec]; omega
def crcB (r : BitVec 32) (c : UInt8) : BitVec 32 := itr 8 (r ^^^ w8 c)
def reg (r : BitVec 32) (l : List UInt8) : BitVec 32 := l.foldl crcB r
def crc (l : List UInt8) : BitVec 32 := ~~~ reg 4294967295#32 l
theorem reg_xor (l : List UInt8) (r d : BitVec 32) : reg (r ^^^ d) l = reg r l ^^^ itr (8 * l.length) d := by
  induction l generalizing r d with
  | nil => rfl
  | cons c l ih =>
    show reg (crcB (r ^^^ d) c) l = reg (crcB r c) l ^^^ _
    have : crcB (r ^^^ d) c = crcB r c ^^^ itr 8 d := by
      unfold crcB
      rw [BitVec.xor_assoc, BitVec.xor_comm d, ← BitVec.xor_assoc, itr_xor]
    rw [this, ih, List.length_cons, Nat.mul_succ, Nat.add_comm, itr_add]
def flip1 (l : List UInt8) (p : Nat) : List UInt8 := l.set (p / 8) (l.getD (p / 8) default ^^^ (1 <<< UInt8.ofNat (p % 8)))
theorem flip1_length (l : List UInt8) (p : Nat) : (flip1 l p).length = l.length := by simp [flip1]
theorem bit_in : ∀ t : Fin 8, itr 8 (w8 (1 <<< UInt8.ofNat t.val)) = itr (8 - t.val) 1#32 := by decide +kernel
theorem reg_flip (l : List UInt8) (r : BitVec 32) (p : Nat) (h : p < 8 * l.length) : reg r (flip1 l p) = reg r l ^^^ itr (8 * l.length - p) 1#32 := by
  induction l generalizing r p with
  | nil => simp at h
  | cons c l ih =>
    by_cases hp : p < 8
    · have e : flip1 (c :: l) p = (c ^^^ (1 <<< UInt8.ofNat p)) :: l := by
        unfold flip1; rw [show p / 8 = 0 by omega, show p % 8 = p by omega]; rfl
      rw [e]
      show reg (crcB r (c ^^^ (1 <<< UInt8.ofNat p))) l = reg (crcB r c) l ^^^ _
      have : crcB r (c ^^^ (1 <<< UInt8.ofNat p)) = crcB r c ^^^ itr (8 - p) 1#32 := by
        unfold crcB
        rw [w8_xor, ← BitVec.xor_assoc, itr_xor, bit_in ⟨p, hp⟩]
      rw [this, reg_xor, List.length_cons, show 8 * (l.length + 1) - p = (8 - p) + 8 * l.length by omega, itr_add]
    · have e : flip1 (c :: l) p = c :: flip1 l (p - 8) := by
        unfold flip1
        rw [show p / 8 = (p - 8) / 8 + 1 by omega, show p % 8 = (p - 8) % 8 by omega]; rfl
      rw [e]
      show reg (crcB r c) (flip1 l (p - 8)) = reg (crcB r c) l ^^^ _
      rw [ih _ _ (by simp at h; omega), List.length_cons, show 8 * (l.length + 1) - p = 8 * l.length - (p - 8) by omega]
/-- Three turned bits, the same or others, are seen. -/
theorem crc_three (l : List UInt8) (i j k : Nat) (hi : i < 8 * l.length) (hj : j < 8 * l.length) (hk : k < 8 * l.length) : crc (flip1 (flip1 (flip1 l i) j) k) ≠ crc l := by
  intro h
  unfold crc at h
  have h := congrArg (fun x => ~~~ x) h
  simp only [BitVec.not_not] at h
  rw [reg_flip _ _ _ (by simpa [flip1_length] using hk), reg_flip _ _ _ (by simpa [flip1_length] using hj), reg_flip _ _ _ hi] at h
  simp only [flip1_length] at h
  have h := congrArg par h
  simp only [par_xor, par_itr, par_one] at h
  revert h
  generalize par (reg 4294967295#32 l) = x
  revert x
  decide
/-- Turned bits within 32, by what is turned so far. -/
def burst (l : List UInt8) (p : Nat) (q : BitVec 32) : Nat → List UInt8
  | 0 => l
  | x + 1 => if q.getLsbD x = true ∧ p + x < 8 * l.length then flip1 (burst l p q x) (p + x) else burst l p q x
def burstW (n p : Nat) (q : BitVec 32) : Nat → BitVec 32
  | 0 => 0#32
  | x + 1 => if q.getLsbD x = true ∧ p + x < n then burstW n p q x ^^^ (1#32 <<< x) else burstW n p q x
theorem burst_length (l : List UInt8) (p : Nat) (q : BitVec 32) (x : Nat) : (burst l p q x).length = l.length := by
  induction x with
  | zero => rfl
  | succ x ih => simp only [burst]; split <;> simp [flip1_length, ih]
theorem itr_shift : ∀ t : Fin 32, itr t.val (1#32 <<< t.val) = 1#32 := by decide +kernel
theorem reg_burst (l : List UInt8) (p : Nat) (q : BitVec 32) (r : BitVec 32) (x : Nat) (hx : x ≤ 32) : reg r (burst l p q x) = reg r l ^^^ itr (8 * l.length - p) (burstW (8 * l.length) p q x) := by
  induction x with
  | zero =>
    have : ∀ n, itr n 0#32 = 0#32 := fun n => by have := itr_xor n 0#32 0#32; rw [BitVec.xor_self, BitVec.xor_self] at this; exact this
    simp [burst, burstW, this]
  | succ x ih =>
    simp only [burst, burstW]
    split
    · rename_i h
      rw [reg_flip _ _ _ (by rw [burst_length]; exact h.2), burst_length, ih (by omega), itr_xor, BitVec.xor_assoc]
      congr 2
      rw [show 8 * l.length - p = x + (8 * l.length - (p + x)) by omega, itr_add, itr_shift ⟨x, by omega⟩]
    · exact ih (by omega)
theorem burstW_bits (n p : Nat) (q : BitVec 32) (x : Nat) (hx : x ≤ 32) (j : Nat) : (burstW n p q x).getLsbD j = (decide (j < x) && q.getLsbD j && decide (p + j < n)) := by
  induction x with
  | zero => simp [burstW]
  | succ x ih =>
    have hb : (1#32 <<< x).getLsbD j = decide (j = x) := by
      rw [BitVec.getLsbD_shiftLeft, BitVec.getLsbD_one]
      by_cases h : j = x
      · subst h; simp; omega
      · simp [h]; omega
    simp only [burstW]
    split
    · rename_i h
      rw [BitVec.getLsbD_xor, ih (by omega), hb]
      by_cases hj : j = x
      · subst hj; simp [h.1, h.2]
      · simp only [hj, decide_false, Bool.xor_false]
        congr 2
        exact decide_eq_decide.2 (by omega)
    · rename_i h
      rw [ih (by omega)]
      by_cases hj : j = x
      · subst hj
        have : ¬ (q.getLsbD j = true ∧ p + j < n) := h
        cases hq : q.getLsbD j with
        | false => simp
        | true => simp; have : ¬ (p + j < n) := fun hh => this ⟨hq, hh⟩; omega
      · congr 2
        exact decide_eq_decide.2 (by omega)
/-- Such turned bits are seen, where any is turned. -/
theorem crc_burst (l : List UInt8) (p : Nat) (q : BitVec 32) : burst l p q 32 = l ∨ crc (burst l p q 32) ≠ crc l := by
  by_cases hw : burstW (8 * l.length) p q 32 = 0#32
  · left
    have none : ∀ x, x < 32 → ¬ (q.getLsbD x = true ∧ p + x < 8 * l.length) := fun x hx hh => by
      have := burstW_bits (8 * l.length) p q 32 (by omega) x
      rw [hw, hh.1, decide_eq_true hx, decide_eq_true hh.2, BitVec.getLsbD_zero] at this
      cases this
    have : ∀ x, x ≤ 32 → burst l p q x = l := by
      intro x
      induction x with
      | zero => intro _; rfl
      | succ x ih => intro hx; simp only [burst]; rw [if_neg (none x (by omega)), ih (by omega)]
    exact this 32 (by omega)
  · right
    intro h
    unfold crc at h
    have h := congrArg (fun x => ~~~ x) h
    simp only [BitVec.not_not] at h
    rw [reg_burst _ _ _ _ _ (by omega)] at h
    have h2 : itr (8 * l.length - p) (burstW (8 * l.length) p q 32) = 0#32 := by
      have := congrArg (fun x => reg 4294967295#32 l ^^^ x) h
      simp only [← BitVec.xor_assoc, BitVec.xor_self, BitVec.zero_xor] at this
      exact this
    exact hw (itr_zero h2)
end Go.Proofs.Ytccifnjlfhdpiaa
