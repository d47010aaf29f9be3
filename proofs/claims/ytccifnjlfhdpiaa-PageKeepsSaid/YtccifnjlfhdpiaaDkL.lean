/- Layer 3's disk in plain terms. -/
import Derived.Test.YtccifnjlfhdpiaaDisk
import Derived.Test.YtccifnjlfhdpiaaNums
set_option linter.unusedVariables false
set_option linter.unusedSimpArgs false
namespace Go.Proofs.Ytccifnjlfhdpiaa
open Go Go.RowKit
abbrev KM := List (Int × List UInt8)
abbrev Rt := Int × Bool × Int × Int × Int × Int × Int
abbrev Ls := Int × Int × Int × Int
@[simp] theorem chk_true {α : Type} {p : Prop} [Decidable p] (h : p) (x : Option α) : chk p x = x := by simp [chk, h]
/-! ### A block's bytes -/
def whole (b : List UInt8) : List UInt8 := b.take 8192 ++ List.replicate (8192 - b.length) 0
theorem whole_len (b : List UInt8) : (whole b).length = 8192 := by simp [whole]; omega
theorem whole_full {b : List UInt8} (h : b.length = 8192) : whole b = b := by simp [whole, h, List.take_of_length_le]
theorem whole_whole (b : List UInt8) : whole (whole b) = whole b := whole_full (whole_len b)
theorem whole_is (b : List UInt8) : disk_whole.impl b = some (whole b) := by
  unfold disk_whole.impl
  rw [chk_true (by decide)]
  congr 1
  unfold whole
  simp only [List.length_replicate, show (8192 : Int).toNat = 8192 from rfl, List.drop_replicate]
  by_cases h : b.length ≤ 8192
  · rw [Nat.min_eq_left h, List.take_of_length_le (Nat.le_refl _), List.take_of_length_le h]
  · rw [Nat.min_eq_right (by omega)]; simp; omega
def blk (m : KM) (at_ : Int) : List UInt8 := whole ((mget m at_).getD [])
theorem good_is (o : Rt) (m : KM) (q : Int) : disk_Disk_good.impl o m q = some (blk m q) := by
  simp [disk_Disk_good.impl, whole_is, blk]
/-- a write's first bytes over what is kept -/
def over (m : KM) (w : Int × List UInt8) (n : Nat) : KM := mset m w.1 (w.2.take n ++ (blk m w.1).drop n)
theorem lay_is (o : Rt) (m : KM) (w : Int × List UInt8) (n : Nat) (hn : n ≤ 8192) (hw : w.2.length = 8192) : disk_Disk_lay.impl o m w (n : Int) = some (over m w n) := by
  unfold disk_Disk_lay.impl
  simp only [good_is, Option.bind_some]
  have hb : (blk m w.1).length = 8192 := whole_len _
  rw [chk_true (by omega), chk_true (by omega)]
  simp only [subl, Int.toNat_natCast, Int.toNat_zero, List.drop_zero, List.length_take, hw, hb, Nat.min_eq_left hn, Nat.min_self, List.take_take, over]
theorem mget_mset {α : Type} (m : List (Int × α)) (q r : Int) (v : α) : mget (mset m q v) r = if r = q then some v else mget m r := by
  induction m with
  | nil => simp [mset, mget]
  | cons p m ih =>
    obtain ⟨k, u⟩ := p
    by_cases h : q = k
    · subst h; simp only [mset, if_true, mget]; split <;> simp_all
    · simp only [mset, h, if_false, mget, ih]
      by_cases h2 : r = k
      · subst h2; simp [Ne.symm h]
      · simp [h2]
theorem blk_over (m : KM) (w : Int × List UInt8) (n : Nat) (hn : n ≤ 8192) (hw : w.2.length = 8192) (q : Int) : blk (over m w n) q = if q = w.1 then w.2.take n ++ (blk m w.1).drop n else blk m q := by
  unfold blk over
  rw [mget_mset]
  by_cases h : q = w.1
  · simp only [h, if_true, Option.getD_some]
    refine whole_full ?_
    have hb : (blk m w.1).length = 8192 := whole_len _
    simp [hw, hb]; omega
  · simp [h]
/-! ### The power goes -/
def fateV (l : Ls) (i : Nat) : Int := if (i : Int) = l.2.2.1 then 1 else if bitsOf .and .u64 (shrI .u64 l.2.1 (Int.tmod i 64)) 1 = 1 then 2 else 0
theorem fate_is (l : Ls) (i : Nat) : disk_fate.impl l (i : Int) = some (fateV l i) := by
  unfold disk_fate.impl fateV
  by_cases h : (i : Int) = l.2.2.1
  · simp [h]
  · rw [ite_df h, if_neg h, chk_true (Int.tmod_nonneg _ (by omega))]
    by_cases g : bitsOf .and .u64 (shrI .u64 l.2.1 (Int.tmod i 64)) 1 = 1
    · rw [ite_dt g, if_pos g]
    · rw [ite_df g, if_neg g]
def cutN (l : Ls) : Nat := (min (max l.2.2.2 0) 8192).toNat
theorem cutN_le (l : Ls) : cutN l ≤ 8192 := by unfold cutN; omega
theorem cutN_is (l : Ls) : min (max l.2.2.2 0) 8192 = (cutN l : Int) := by unfold cutN; omega
def cut1 (l : Ls) (i : Nat) (m : KM) (w : Int × List UInt8) : KM := if fateV l i = 2 then over m w 8192 else if fateV l i = 1 then over m w (cutN l) else m
def cutM (l : Ls) : Nat → KM → KM → KM
  | _, m, [] => m
  | i, m, w :: r => cutM l (i + 1) (cut1 l i m w) r
def Fulls (c : KM) : Prop := (∀ w ∈ c, w.2.length = 8192) ∧ c.length ≤ 1000000
theorem cut_step {c : KM} (hc : Fulls c) (l : Ls) (o : Rt) (m : KM) (i : Nat) (hi : i < c.length) : disk_Disk_Cut.st1 c l o (m, (i : Int)) = some (.inl (cut1 l i m (c[i]), ((i + 1 : Nat) : Int))) := by
  have hw : (IntKind.i64.wrap ((i : Int) + 1)) = ((i + 1 : Nat) : Int) := i64_id (by have := hc.2; omega)
  have hd : c.getD i default = c[i] := by simp [List.getD, hi]
  have hl := hc.1 _ (List.getElem_mem hi)
  have hk : ∀ n : Nat, n ≤ 8192 → disk_Disk_Cut.k2 o (m, (i : Int)) c (n : Int) = some (.inl (over m c[i] n, ((i + 1 : Nat) : Int))) := fun n hn => by
    unfold disk_Disk_Cut.k2
    simp only [Int.toNat_natCast, hd, hw]
    rw [lay_is _ _ _ n hn hl]; rfl
  unfold disk_Disk_Cut.st1
  rw [ite_dt (by omega), chk_true (by omega)]
  simp only [fate_is, Option.bind_some]
  unfold cut1
  by_cases h2 : fateV l i = 2
  · rw [ite_dt h2, if_pos h2]; exact hk 8192 (by omega)
  · rw [ite_df h2, if_neg h2]
    by_cases h1 : fateV l i = 1
    · rw [ite_dt h1, if_pos h1, cutN_is]; exact hk _ (cutN_le l)
    · rw [ite_df h1, if_neg h1, hw]
theorem cut_loop {c : KM} (hc : Fulls c) (l : Ls) (o : Rt) : ∀ (r : KM) (i : Nat) (m : KM), c.drop i = r → i ≤ c.length → loop (disk_Disk_Cut.st1 c l o) (m, (i : Int)) = some (cutM l i m r)
  | [], i, m, h, hi => by
    have : c.length ≤ i := by simpa using h
    exact loop_last (by unfold disk_Disk_Cut.st1; rw [ite_df (by omega)]; rfl)
  | w :: r, i, m, h, hi => by
    have hl : i < c.length := by
      by_cases g : i < c.length
      · exact g
      · rw [List.drop_of_length_le (by omega)] at h; cases h
    have hw : c[i] = w ∧ c.drop (i + 1) = r := by
      rw [List.drop_eq_getElem_cons hl] at h; exact ⟨(List.cons.inj h).1, (List.cons.inj h).2⟩
    rw [loop_more (cut_step hc l o m i hl), hw.1]
    exact cut_loop hc l o r (i + 1) _ hw.2 hl
theorem Cut_is {c : KM} (hc : Fulls c) (b lf af kp tn ct : Int) (m : KM) (l : Ls) : disk_Disk_Cut.impl (b, false, lf, af, kp, tn, ct) m c l = some ((b, true, IntKind.i64.wrap (lf + 1), 0, 0, 0, 0), cutM l 0 m c, []) := by
  unfold disk_Disk_Cut.impl
  have := cut_loop hc l (b, false, lf, af, kp, tn, ct) c 0 m rfl (by omega)
  simp only [Bool.false_eq_true, if_false]
  rw [show ((0 : Int)) = ((0 : Nat) : Int) from rfl, this]
  rfl
theorem Cut_down (b lf af kp tn ct : Int) (m c : KM) (l : Ls) : disk_Disk_Cut.impl (b, true, lf, af, kp, tn, ct) m c l = some ((b, true, lf, af, kp, tn, ct), m, c) := by
  unfold disk_Disk_Cut.impl; simp
/-! ### Calls while nothing is armed -/
theorem strikes_no (b lf kp tn ct : Int) (dn : Bool) (m c : KM) : disk_Disk_strikes.impl (b, dn, lf, 0, kp, tn, ct) m c = some (false, (b, dn, lf, 0, kp, tn, ct), m, c) := by
  unfold disk_Disk_strikes.impl; simp
theorem Write_is {c : KM} (hc : c.length ≤ 1000000) {q : Int} {b : Int} (hq : 0 ≤ q ∧ q < b) {l : List UInt8} (hl : l.length ≤ 8192) (lf kp tn ct : Int) (m : KM) :
    disk_Disk_Write.impl (b, false, lf, 0, kp, tn, ct) m c q l = some (0, (b, false, lf, 0, kp, tn, ct), m, c ++ [(q, whole l)]) := by
  unfold disk_Disk_Write.impl
  simp only [Bool.false_eq_true, if_false]
  rw [ite_df (by omega), ite_df (by omega)]
  unfold disk_Disk_Write.k1
  rw [ite_df (by omega)]
  simp only [strikes_no, Option.bind_some, Bool.false_eq_true, if_false, whole_is]
  rw [chk_true (by omega)]
def flushM (m c : KM) : KM := c.foldl (fun m w => over m w 8192) m
theorem flush_loop {c : KM} (hc : Fulls c) (s : Int × KM × KM × Bool × Int × Int × Int × Int × Int × Bool) (hs : s.2.2.1 = c) : ∀ (r : KM) (i : Nat) (m : KM), c.drop i = r → i ≤ c.length → loop (disk_Disk_Flush.st1 s) (m, (i : Int)) = some (flushM m r)
  | [], i, m, h, hi => by
    have : c.length ≤ i := by simpa using h
    exact loop_last (by unfold disk_Disk_Flush.st1; rw [hs, ite_df (by omega)]; rfl)
  | w :: r, i, m, h, hi => by
    have hl : i < c.length := by
      by_cases g : i < c.length
      · exact g
      · rw [List.drop_of_length_le (by omega)] at h; cases h
    have hw : c[i] = w ∧ c.drop (i + 1) = r := by
      rw [List.drop_eq_getElem_cons hl] at h; exact ⟨(List.cons.inj h).1, (List.cons.inj h).2⟩
    have hwr : (IntKind.i64.wrap ((i : Int) + 1)) = ((i + 1 : Nat) : Int) := i64_id (by have := hc.2; omega)
    have hd : c.getD i default = c[i] := by simp [List.getD, hl]
    have hst : disk_Disk_Flush.st1 s (m, (i : Int)) = some (.inl (over m w 8192, ((i + 1 : Nat) : Int))) := by
      unfold disk_Disk_Flush.st1
      rw [hs, ite_dt (by omega), chk_true (by omega)]
      simp only [Int.toNat_natCast, hd, hwr, hw.1]
      rw [show (8192 : Int) = ((8192 : Nat) : Int) from rfl, lay_is _ _ _ 8192 (by omega) (hw.1 ▸ hc.1 _ (List.getElem_mem hl))]; rfl
    rw [loop_more hst, flush_loop hc s hs r (i + 1) _ hw.2 hl]; rfl
theorem Flush_is {c : KM} (hc : Fulls c) (b lf kp tn ct : Int) (m : KM) : disk_Disk_Flush.impl (b, false, lf, 0, kp, tn, ct) m c = some (0, (b, false, lf, 0, kp, tn, ct), flushM m c, []) := by
  unfold disk_Disk_Flush.impl
  simp only [Bool.false_eq_true, if_false, strikes_no, Option.bind_some]
  unfold disk_Disk_Flush.k1
  simp only [Bool.false_eq_true, if_false]
  have := flush_loop hc (b, m, c, false, lf, 0, kp, tn, ct, false) rfl c 0 m rfl (by omega)
  rw [show ((0 : Int)) = ((0 : Nat) : Int) from rfl] at this ⊢
  rw [this]; rfl
/-- what a block reads as -/
def rd (m : KM) (c : KM) (q : Int) : List UInt8 := match c.reverse.find? (fun w => decide (w.1 = q)) with | some w => whole w.2 | none => blk m q
theorem read_loop (c : KM) (hc : c.length ≤ 1000000) (q : Int) : ∀ (i : Nat), i ≤ c.length → loop (disk_Disk_Read.st1 c q) ((i : Int) - 1) = some (match (c.take i).reverse.find? (fun w => decide (w.1 = q)) with | some w => .inl (whole w.2, 0) | none => .inr ())
  | 0, h => by
    rw [loop_last (r := .inr ()) (by unfold disk_Disk_Read.st1; rw [ite_df (by omega)])]
    simp
  | i + 1, h => by
    have hd : c.getD i default = c[i] := by simp [List.getD, show i < c.length by omega]
    have ht : c.take (i + 1) = c.take i ++ [c[i]] := by rw [List.take_succ_eq_append_getElem (by omega)]
    rw [show (((i + 1 : Nat) : Int) - 1) = (i : Int) by omega]
    by_cases e : c[i].1 = q
    · have : disk_Disk_Read.st1 c q (i : Int) = some (.inr (.inl (whole c[i].2, 0))) := by
        unfold disk_Disk_Read.st1
        rw [ite_dt (by omega), chk_true (by omega), chk_true (by omega)]
        simp only [Int.toNat_natCast, hd]
        rw [ite_dt e, whole_is]; rfl
      rw [loop_last this, ht, List.reverse_append, List.reverse_singleton, List.singleton_append, List.find?_cons_of_pos (by simpa using e)]
    · have : disk_Disk_Read.st1 c q (i : Int) = some (.inl ((i : Int) - 1)) := by
        unfold disk_Disk_Read.st1
        rw [ite_dt (by omega), chk_true (by omega)]
        simp only [Int.toNat_natCast, hd]
        rw [ite_df e, i64_id (by omega)]
      rw [loop_more this, read_loop c hc q i (by omega), ht, List.reverse_append, List.reverse_singleton, List.singleton_append, List.find?_cons_of_neg (by simpa using e)]
theorem Read_is (c : KM) (hc : c.length ≤ 1000000) {q b : Int} (hq : 0 ≤ q ∧ q < b) (lf af kp tn ct : Int) (m : KM) : disk_Disk_Read.impl (b, false, lf, af, kp, tn, ct) m c q = some (rd m c q, 0) := by
  unfold disk_Disk_Read.impl
  simp only [Bool.false_eq_true, if_false]
  rw [ite_df (by omega)]
  unfold disk_Disk_Read.k1
  rw [ite_df (by omega), i64_id (by omega), read_loop c hc q c.length (by omega)]
  simp only [List.take_length, Option.bind_some, rd]
  cases c.reverse.find? (fun w => decide (w.1 = q)) with
  | none => simp [disk_Disk_Read.k2, good_is]
  | some w => simp
theorem Read_down (c m : KM) (q b lf af kp tn ct : Int) : disk_Disk_Read.impl (b, true, lf, af, kp, tn, ct) m c q = some ([], 20) := by
  unfold disk_Disk_Read.impl; simp
theorem New_is {b : Int} (h : 1 ≤ b ∧ b ≤ 4096) : disk_New.impl b = some (some ((b, false, 0, 0, 0, 0, 0), [], []), 0) := by
  unfold disk_New.impl
  rw [ite_df (by omega)]
  unfold disk_New.k1
  rw [ite_df (by omega)]
theorem New_no : disk_New.impl 0 = some (none, 1) := by
  unfold disk_New.impl
  rw [ite_dt (by omega)]
  simp [disk_New.k1]
end Go.Proofs.Ytccifnjlfhdpiaa
