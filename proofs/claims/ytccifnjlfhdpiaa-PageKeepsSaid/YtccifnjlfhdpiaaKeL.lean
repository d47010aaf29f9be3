/- PageKeeps, in plain terms: what a torn head reads as. -/
import Derived.Test.YtccifnjlfhdpiaaTdL
set_option linter.unusedVariables false
set_option linter.unusedSimpArgs false
set_option linter.unusedSectionVars false
namespace Go.Proofs.Ytccifnjlfhdpiaa
open Go Go.RowKit
theorem gd_l (a b : List UInt8) (i : Nat) (h : i < a.length) : (a ++ b).getD i default = a.getD i default := by simp [List.getD, List.getElem?_append_left h]
theorem gd_r (a b : List UInt8) (i : Nat) (h : a.length ≤ i) : (a ++ b).getD i default = b.getD (i - a.length) default := by simp [List.getD, List.getElem?_append_right h]
theorem gd_zeros (n i : Nat) : (zeros n).getD i default = 0 := by
  unfold zeros
  simp only [List.getD, List.getElem?_replicate]
  split <;> rfl
theorem gd_big {k n i : Nat} (h : i < k) : (bigE k n).getD i default = UInt8.ofNat (n >>> (8 * (k - 1 - i))) := by
  have hl := bigE_len k n
  rw [← bigE_get k n i (by omega)]
  simp [List.getD, hl, h]
theorem head_gd_num {n r i : Nat} (h : 4 ≤ i ∧ i < 12) : (headB n r).getD i default = (bigE 8 n).getD (i - 4) default := by
  have h8 := bigE_len 8 n
  have h4 := bigE_len 4 r
  unfold headB headV
  rw [gd_l _ _ _ (by simp [h8, bigE_len]; omega), gd_l _ _ _ (by simp [h8, bigE_len]; omega), gd_l _ _ _ (by simp [h8]; omega), gd_r _ _ _ (by simp; omega)]
  rfl
theorem head_gd_19 (n r : Nat) : (headB n r).getD 19 default = (bigE 4 (n % 4294967296)).getD 3 default := by
  have h8 := bigE_len 8 n
  have h4 := bigE_len 4 r
  unfold headB headV
  rw [gd_l _ _ _ (by simp [h8, bigE_len]), gd_r _ _ _ (by simp [h8, h4])]
  simp [h8, h4]
theorem head_gd_20 {n r i : Nat} (h : 20 ≤ i) : (headB n r).getD i default = 0 := by
  have hl := headV_len n r
  unfold headB
  rw [gd_r _ _ _ (by omega), gd_zeros]
theorem head_low {n r : Nat} (hn : n < 256) {i : Nat} (h : 4 ≤ i ∧ i < 11) : (headB n r).getD i default = 0 := by
  rw [head_gd_num (by omega), gd_big (by omega)]
  have : n >>> (8 * (8 - 1 - (i - 4))) = 0 := by
    rw [Nat.shiftRight_eq_div_pow]
    refine Nat.div_eq_of_lt (Nat.lt_of_lt_of_le hn ?_)
    exact Nat.pow_le_pow_right (n := 2) (by omega) (show 8 ≤ 8 * (8 - 1 - (i - 4)) by omega)
  rw [this]; rfl
theorem head_11 {n r : Nat} (hn : n < 256) : ((headB n r).getD 11 default).toNat = n := by
  rw [head_gd_num (by omega), gd_big (by omega)]
  simp only [UInt8.toNat_ofNat', show 8 * (8 - 1 - (11 - 4)) = 0 by rfl, Nat.shiftRight_zero]
  omega
theorem head_19 {n r : Nat} (hn : n < 256) : ((headB n r).getD 19 default).toNat = n := by
  rw [head_gd_19, gd_big (by omega)]
  simp only [UInt8.toNat_ofNat', show 8 * (4 - 1 - 3) = 0 by rfl, Nat.shiftRight_zero]
  omega
/-- What the other head's block may be: old, or torn. -/
structure Old (n : Nat) (X : List UInt8) : Prop where
  len : X.length = 8192
  low : ∀ i, 4 ≤ i → i < 11 → X.getD i default = 0
  high : ∀ i, 20 ≤ i → X.getD i default = 0
  last : (X.getD 19 default).toNat < n ∨ (X.getD 19 default).toNat = 0
theorem Old.zeros (n : Nat) : Old n (zeros 8192) := ⟨zeros_len _, fun i _ _ => gd_zeros _ _, fun i _ => gd_zeros _ _, .inr (by rw [gd_zeros]; rfl)⟩
theorem Old.head {n r : Nat} (hn : n < 256) : Old (n + 1) (headB n r) := ⟨headB_len n r, fun i h1 h2 => head_low hn ⟨h1, h2⟩, fun i h => head_gd_20 h, .inl (by rw [head_19 hn]; omega)⟩
theorem mix_gd {H X : List UInt8} (hH : H.length = 8192) {j : Nat} (hj : j ≤ 8192) (i : Nat) : (H.take j ++ X.drop j).getD i default = if i < j then H.getD i default else X.getD i default := by
  by_cases h : i < j
  · rw [if_pos h, gd_l _ _ _ (by simp; omega)]
    simp [List.getD, List.getElem?_take, h]
  · rw [if_neg h, gd_r _ _ _ (by simp; omega)]
    simp only [List.getD, List.getElem?_drop, List.length_take]
    congr 2
    omega
/-- a new head, torn, is old still, or whole -/
theorem Old.mix {n r : Nat} {X : List UInt8} (h : Old n X) (hn : n + 1 < 256) {j : Nat} (hj : j ≤ 8192) : Old n ((headB (n + 1) r).take j ++ X.drop j) ∨ (headB (n + 1) r).take j ++ X.drop j = headB (n + 1) r := by
  have hl := headB_len (n + 1) r
  have g := fun i => mix_gd (X := X) hl hj i
  have hx := h.len
  by_cases hj2 : j < 20
  · refine .inl ⟨by simp [hl, hx]; omega, fun i h1 h2 => ?_, fun i h1 => ?_, ?_⟩
    · rw [g]; split
      · exact head_low hn ⟨h1, h2⟩
      · exact h.low i h1 h2
    · rw [g, if_neg (by omega)]; exact h.high i h1
    · rw [g, if_neg (by omega)]; exact h.last
  · refine .inr (ext_getD (by simp [hl, hx]; omega) fun i _ => ?_)
    rw [g]; split
    · rfl
    · rw [h.high i (by omega), head_gd_20 (by omega)]
theorem take_gd {l m : List UInt8} {k : Nat} (h : l.take k = m.take k) {i : Nat} (hi : i < k) : l.getD i default = m.getD i default := by
  have e : ∀ x : List UInt8, x.getD i default = (x.take k).getD i default := fun x => by simp [List.getD, List.getElem?_take, hi]
  rw [e l, e m, h]
theorem num_small {X : List UInt8} (hl : X.length = 8192) (h : ∀ i, 4 ≤ i → i < 11 → X.getD i default = 0) : smallV ((X.take 12).drop 4) = (X.getD 11 default).toNat := by
  have e : (X.take 12).drop 4 = zeros 7 ++ [X.getD 11 default] := by
    refine ext_getD (by simp [zeros_len, hl]) fun i hi => ?_
    have hi : i < 8 := by simp [hl] at hi; omega
    have : ((X.take 12).drop 4).getD i default = X.getD (4 + i) default := by
      simp [List.getD, List.getElem?_drop, List.getElem?_take, show 4 + i < 12 by omega]
    rw [this]
    by_cases h7 : i < 7
    · rw [gd_l _ _ _ (by rw [zeros_len]; exact h7), gd_zeros, h (4 + i) (by omega) (by omega)]
    · have : i = 7 := by omega
      subst this
      rw [gd_r _ _ _ (by rw [zeros_len]; omega), zeros_len]; rfl
  rw [e, smallV_snoc, show smallV (zeros 7) = 0 from rfl]; omega
theorem Old.read {n b : Nat} {X : List UInt8} (h : Old n X) (hok : (readH X b).2 = true) : (readH X b).1.1 < n ∨ (readH X b).1.1 = 0 := by
  unfold readH at hok ⊢
  by_cases hz : X = Go.Proofs.Ytccifnjlfhdpiaa.zeros 8192
  · rw [if_pos hz]; exact .inr rfl
  · rw [if_neg hz] at hok ⊢
    simp only [decide_eq_true_eq] at hok ⊢
    rw [num_small h.len h.low] at hok ⊢
    have hb := (X.getD 11 default).toNat_lt
    have h1 := hok.1
    generalize smallV ((X.take 16).drop 12) = r at h1
    have hl := headV_len (X.getD 11 default).toNat r
    have e := take_gd (l := X) (m := headB (X.getD 11 default).toNat r) (k := 20) (by
      rw [h1]; unfold headB
      rw [List.take_append_of_le_length (by omega), List.take_of_length_le (by omega)]) (i := 19) (by omega)
    have e := congrArg UInt8.toNat e
    rw [head_19 (by omega)] at e
    have := h.last
    rw [e] at this; exact this
/-! ### What is kept -/
/-- the head that counts, the other one, and the root's page -/
structure Kpt (m : KM) (n r : Nat) (s : List UInt8) : Prop where
  root : n = 0 ∧ r = 0 ∨ 0 < n ∧ (r = 2 ∨ r = 3)
  cur : blk m ((n % 2 : Nat) : Int) = if n = 0 then zeros 8192 else headB n r
  old : Old n (blk m (((n + 1) % 2 : Nat) : Int))
  page : r ≠ 0 → blk m (r : Int) = laidV s
  len : s.length ≤ 200
theorem Kpt.start : Kpt [] 0 0 [] := ⟨.inl ⟨rfl, rfl⟩, by rw [if_pos rfl, ← rd_nil, rd_new], by rw [← rd_nil, rd_new]; exact Old.zeros 0, fun h => absurd rfl h, by simp⟩
theorem Kpt.opened {m : KM} {n r : Nat} {s : List UInt8} (h : Kpt m n r s) (hn : n < 256) (lf : Int) : openV (rd m [] 0) (rd m [] 1) 12 lf = (some ((10, lf, (n : Int), (r : Int)), []), 0) := by
  rw [rd_nil, rd_nil]
  have hc := h.cur
  have ho := h.old.read (b := 12)
  have hr := h.root
  by_cases h0 : n = 0
  · subst h0
    obtain rfl : r = 0 := by omega
    rw [if_pos rfl] at hc
    have hc : blk m 0 = zeros 8192 := hc
    have ho : (readH (blk m 1) 12).2 = true → (readH (blk m 1) 12).1.1 < 0 ∨ (readH (blk m 1) 12).1.1 = 0 := ho
    unfold openV
    rw [hc, readH_zero]
    generalize readH (blk m 1) 12 = x at ho ⊢
    have hx' : ¬ (x.2 = true ∧ 0 < x.1.1) := fun g => by have := ho g.1; omega
    have e1 : oneH (0, 0, -1) ((0, 0), true) 0 = (0, 0, 0) := by simp [oneH]
    have e2 : oneH (0, 0, 0) x 1 = (0, 0, 0) := by
      unfold oneH
      rw [if_neg (fun g => hx' ⟨g.1, g.2.resolve_left (by simp)⟩)]
    simp only [e1, e2]
    rw [if_neg (by simp)]
    rfl
  · rw [if_neg h0] at hc
    have hH := readH_headB (n := n) (r := r) (b := 12) (by omega) (by omega) (by omega) (by omega)
    by_cases h2 : n % 2 = 0
    · have e1 : (n + 1) % 2 = 1 := by omega
      rw [h2] at hc
      rw [e1] at ho
      have hc : blk m 0 = headB n r := hc
      have ho : (readH (blk m 1) 12).2 = true → (readH (blk m 1) 12).1.1 < n ∨ (readH (blk m 1) 12).1.1 = 0 := ho
      unfold openV
      rw [hc, hH]
      generalize readH (blk m 1) 12 = x at ho ⊢
      have hx' : ¬ (x.2 = true ∧ n < x.1.1) := fun g => by have := ho g.1; omega
      have e1 : oneH (0, 0, -1) ((n, r), true) 0 = (n, r, 0) := by simp [oneH]
      have e2 : oneH (n, r, 0) x 1 = (n, r, 0) := by
        unfold oneH
        rw [if_neg (fun g => hx' ⟨g.1, g.2.resolve_left (by simp)⟩)]
      simp only [e1, e2]
      rw [if_neg (by omega)]
      rfl
    · have e1 : (n + 1) % 2 = 0 := by omega
      rw [show n % 2 = 1 by omega] at hc
      rw [e1] at ho
      have hc : blk m 1 = headB n r := hc
      have ho : (readH (blk m 0) 12).2 = true → (readH (blk m 0) 12).1.1 < n ∨ (readH (blk m 0) 12).1.1 = 0 := ho
      unfold openV
      rw [hc, hH]
      generalize readH (blk m 0) 12 = x at ho ⊢
      have e2 : oneH (oneH (0, 0, -1) x 0) ((n, r), true) 1 = (n, r, 1) := by
        unfold oneH
        by_cases g : x.2 = true ∧ ((-1 : Int) < 0 ∨ 0 < x.1.1)
        · rw [if_pos g]
          rw [if_pos ⟨rfl, .inr (by have := ho g.1; show x.1.1 < n; omega)⟩]
        · rw [if_neg g]
          rw [if_pos ⟨rfl, .inl (by decide)⟩]
      simp only [e2]
      rw [if_neg (by omega)]
      rfl
/-- where the next page goes -/
def nx (r : Nat) : Nat := if r = 2 then 3 else 2
theorem nx_in (r : Nat) : (nx r = 2 ∨ nx r = 3) ∧ nx r ≠ r := by unfold nx; split <;> omega
/-- Blocks that do not count may turn. -/
theorem Kpt.same {m m' : KM} {n r : Nat} {s : List UInt8} (h : Kpt m n r s) (he : ∀ q : Int, q = 0 ∨ q = 1 ∨ q = r → q ≠ nx r → blk m' q = blk m q) : Kpt m' n r s := by
  have hx := nx_in r
  refine ⟨h.root, ?_, ?_, fun hr => ?_, h.len⟩
  · rw [he _ (by omega) (by omega)]; exact h.cur
  · rw [he _ (by omega) (by omega)]; exact h.old
  · rw [he _ (.inr (.inr rfl)) (by omega)]; exact h.page hr
/-- The new head is there, with its page. -/
theorem Kpt.next {m m' : KM} {n r : Nat} {s t : List UInt8} (h : Kpt m n r s) (hn : n + 1 < 256) (ht : t.length ≤ 200)
    (hh : blk m' (((n + 1) % 2 : Nat) : Int) = headB (n + 1) (nx r)) (he : ∀ q : Int, q ≠ (((n + 1) % 2 : Nat) : Int) → q ≠ nx r → blk m' q = blk m q) (hp : blk m' (nx r : Int) = laidV t) : Kpt m' (n + 1) (nx r) t := by
  have hx := nx_in r
  refine ⟨.inr ⟨by omega, hx.1⟩, ?_, ?_, fun _ => hp, ht⟩
  · rw [if_neg (by omega), hh]
  · rw [show (n + 1 + 1) % 2 = n % 2 by omega, he _ (by omega) (by omega), h.cur]
    split
    · exact Old.zeros _
    · exact Old.head (by omega)
/-- Torn or whole. -/
theorem Kpt.torn {m m' : KM} {n r : Nat} {s t : List UInt8} (h : Kpt m n r s) (hn : n + 1 < 256) (ht : t.length ≤ 200) {j : Nat} (hj : j ≤ 8192)
    (hh : blk m' (((n + 1) % 2 : Nat) : Int) = (headB (n + 1) (nx r)).take j ++ (blk m (((n + 1) % 2 : Nat) : Int)).drop j) (he : ∀ q : Int, q ≠ (((n + 1) % 2 : Nat) : Int) → q ≠ nx r → blk m' q = blk m q) (hp : blk m' (nx r : Int) = laidV t) :
    Kpt m' n r s ∨ Kpt m' (n + 1) (nx r) t := by
  have hx := nx_in r
  have hroot := h.root
  rcases h.old.mix (r := nx r) hn hj with ho | ho
  · refine .inl ⟨h.root, ?_, ?_, fun hr => ?_, h.len⟩
    · rw [he _ (by omega) (by omega)]; exact h.cur
    · rw [hh]; exact ho
    · rw [he _ (by omega) (by omega)]; exact h.page hr
  · exact .inr (h.next hn ht (hh.trans ho) he hp)
theorem cut1_other (l : Ls) (i : Nat) (m : KM) (w : Int × List UInt8) (hw : w.2.length = 8192) {q : Int} (h : w.1 ≠ q) : blk (cut1 l i m w) q = blk m q := by
  unfold cut1
  split
  · rw [blk_over m w 8192 (by omega) hw, if_neg (Ne.symm h)]
  · split
    · rw [blk_over m w _ (cutN_le l) hw, if_neg (Ne.symm h)]
    · rfl
theorem cut1_same (l : Ls) (i : Nat) (m : KM) (w : Int × List UInt8) (hw : w.2.length = 8192) : ∃ j, j ≤ 8192 ∧ blk (cut1 l i m w) w.1 = w.2.take j ++ (blk m w.1).drop j := by
  unfold cut1
  split
  · exact ⟨8192, Nat.le_refl _, by rw [blk_over m w 8192 (by omega) hw, if_pos rfl]⟩
  · split
    · exact ⟨cutN l, cutN_le l, by rw [blk_over m w _ (cutN_le l) hw, if_pos rfl]⟩
    · exact ⟨0, by omega, by simp⟩
end Go.Proofs.Ytccifnjlfhdpiaa
