/- A page store's calls, in plain terms. -/
import Derived.Test.YtccifnjlfhdpiaaPgL
set_option linter.unusedVariables false
set_option linter.unusedSimpArgs false
set_option linter.unusedSectionVars false
namespace Go.Proofs.Ytccifnjlfhdpiaa
open Go Go.RowKit
abbrev MI2 := List (Int × Int)
/-! ### The disk, armed or not -/
def hit (af : Int) : Bool := decide (1 ≤ af) && !decide (0 < IntKind.i64.wrap (af - 1))
def nxt (af : Int) : Int := if af < 1 then af else IntKind.i64.wrap (af - 1)
theorem hit0 : hit 0 = false := by simp [hit]
theorem nxt0 : nxt 0 = 0 := by simp [nxt]
section
variable {m c : KM} {b lf af kp tn ct : Int}
theorem strikes_miss (h : hit af = false) : disk_Disk_strikes.impl (b, false, lf, af, kp, tn, ct) m c = some (false, (b, false, lf, nxt af, kp, tn, ct), m, c) := by
  unfold disk_Disk_strikes.impl nxt
  simp only
  by_cases h1 : af < 1
  · rw [ite_dt h1, if_pos h1]
  · rw [ite_df h1, if_neg h1]
    have h2 : 0 < IntKind.i64.wrap (af - 1) := by
      simp only [hit, Bool.and_eq_false_iff, decide_eq_false_iff_not, Bool.not_eq_false', decide_eq_true_eq] at h
      omega
    rw [ite_dt h2]
theorem strikes_hit (hc : Fulls c) (h : hit af = true) : disk_Disk_strikes.impl (b, false, lf, af, kp, tn, ct) m c = some (true, (b, true, IntKind.i64.wrap (lf + 1), 0, 0, 0, 0), cutM (nxt af, kp, tn, ct) 0 m c, []) := by
  simp only [hit, Bool.and_eq_true, decide_eq_true_eq, Bool.not_eq_true', decide_eq_false_iff_not] at h
  have hx : nxt af = IntKind.i64.wrap (af - 1) := by unfold nxt; rw [if_neg (by omega)]
  rw [hx]
  unfold disk_Disk_strikes.impl
  simp only
  rw [ite_df (show ¬ af < 1 by omega), ite_df h.2, Cut_is hc]; rfl
theorem Write_no (hc : c.length ≤ 1000000) {q : Int} (hq : 0 ≤ q ∧ q < b) {l : List UInt8} (hl : l.length ≤ 8192) (h : hit af = false) :
    disk_Disk_Write.impl (b, false, lf, af, kp, tn, ct) m c q l = some (0, (b, false, lf, nxt af, kp, tn, ct), m, c ++ [(q, whole l)]) := by
  unfold disk_Disk_Write.impl
  simp only [Bool.false_eq_true, if_false]
  rw [ite_df (by omega), ite_df (by omega)]
  unfold disk_Disk_Write.k1
  rw [ite_df (by omega)]
  simp only [strikes_miss h, Option.bind_some, Bool.false_eq_true, if_false, whole_is]
  rw [chk_true (by omega)]
theorem Write_hit (hc : Fulls c) {q : Int} (hq : 0 ≤ q ∧ q < b) {l : List UInt8} (hl : l.length ≤ 8192) (h : hit af = true) :
    disk_Disk_Write.impl (b, false, lf, af, kp, tn, ct) m c q l = some (20, (b, true, IntKind.i64.wrap (lf + 1), 0, 0, 0, 0), cutM (nxt af, kp, tn, ct) 0 m c, []) := by
  unfold disk_Disk_Write.impl
  simp only [Bool.false_eq_true, if_false]
  rw [ite_df (by omega), ite_df (by omega)]
  unfold disk_Disk_Write.k1
  rw [ite_df (by omega)]
  simp only [strikes_hit hc h, Option.bind_some, if_true]
theorem Flush_no (hc : Fulls c) (h : hit af = false) : disk_Disk_Flush.impl (b, false, lf, af, kp, tn, ct) m c = some (0, (b, false, lf, nxt af, kp, tn, ct), flushM m c, []) := by
  unfold disk_Disk_Flush.impl
  simp only [Bool.false_eq_true, if_false, strikes_miss h, Option.bind_some]
  unfold disk_Disk_Flush.k1
  simp only [Bool.false_eq_true, if_false]
  have : loop (disk_Disk_Flush.st1 (b, m, c, false, lf, nxt af, kp, tn, ct, false)) (m, (0 : Int)) = some (flushM m c) := flush_loop hc (b, m, c, false, lf, nxt af, kp, tn, ct, false) rfl c 0 m rfl (by omega)
  rw [this]; rfl
theorem Flush_hit (hc : Fulls c) (h : hit af = true) : disk_Disk_Flush.impl (b, false, lf, af, kp, tn, ct) m c = some (20, (b, true, IntKind.i64.wrap (lf + 1), 0, 0, 0, 0), cutM (nxt af, kp, tn, ct) 0 m c, []) := by
  unfold disk_Disk_Flush.impl
  simp only [Bool.false_eq_true, if_false, strikes_hit hc h, Option.bind_some]
  unfold disk_Disk_Flush.k1
  simp only [if_true]
end
/-! ### What blocks read as -/
theorem rd_add (m c : KM) (q r : Int) (l : List UInt8) (hl : l.length = 8192) : rd m (c ++ [(q, l)]) r = if r = q then l else rd m c r := by
  unfold rd
  rw [List.reverse_append, List.reverse_singleton, List.singleton_append]
  by_cases h : q = r
  · rw [List.find?_cons_of_pos (by simpa using h), if_pos h.symm]; exact whole_full hl
  · rw [List.find?_cons_of_neg (by simpa using h), if_neg (Ne.symm h)]
theorem flush_rd (m : KM) : ∀ (r c : KM), c.reverse = r → (∀ w ∈ c, w.2.length = 8192) → ∀ q, blk (flushM m c) q = rd m c q
  | [], c, h, hc, q => by
    have : c = [] := by simpa using h
    subst this; rfl
  | w :: r, c, h, hc, q => by
    have e : c = r.reverse ++ [w] := by rw [← List.reverse_reverse c, h]; simp
    subst e
    have ih := flush_rd m r r.reverse (by simp) (fun w hw => hc w (by simp at hw ⊢; exact .inl hw)) q
    have hw := hc w (by simp)
    have : flushM m (r.reverse ++ [w]) = over (flushM m r.reverse) w 8192 := by simp [flushM]
    rw [this, blk_full _ _ hw, ih, show r.reverse ++ [w] = r.reverse ++ [(w.1, w.2)] from rfl, rd_add _ _ _ _ _ hw]
theorem rd_flush {m c : KM} (hc : Fulls c) (q : Int) : rd (flushM m c) [] q = rd m c q := by rw [rd_nil]; exact flush_rd m c.reverse c rfl hc.1 q
/-! ### Which page is free -/
def firstV (q : MI2) : Nat → Nat → Int
  | 0, _ => 0
  | n + 1, i => if (mget q (i : Int)).getD 0 = 0 then i else firstV q n (i + 1)
theorem first_loop {p : Nat} (hp : p ≤ 4096) (q : MI2) : ∀ (n i : Nat), i + n = 2 + p → loop (page_counts_first.st1 (p : Int) q) (i : Int) = some (if firstV q n i = 0 then .inr () else .inl (firstV q n i)) ∨ i = 0
  | 0, i, h => .inl (by
    rw [loop_last (r := .inr ()) (by
      unfold page_counts_first.st1
      rw [i64_id (by omega), ite_df (by omega)])]
    simp [firstV])
  | n + 1, i, h => by
    by_cases hi : i = 0
    · exact .inr hi
    refine .inl ?_
    by_cases g : (mget q (i : Int)).getD 0 = 0
    · rw [loop_last (r := .inl (i : Int)) (by
        unfold page_counts_first.st1
        rw [i64_id (by omega), ite_dt (by omega), ite_dt g])]
      rw [firstV, if_pos g, if_neg (by omega)]
    · rw [loop_more (s' := ((i + 1 : Nat) : Int)) (by
        unfold page_counts_first.st1
        rw [i64_id (n := 2 + (p : Int)) (by omega), ite_dt (by omega), ite_df g, i64_id (by omega)]; rfl)]
      rw [firstV, if_neg g]
      exact (first_loop hp q n (i + 1) (by omega)).resolve_right (by omega)
theorem first_is {p : Nat} (hp : p ≤ 4096) (q : MI2) : page_counts_first.impl (p : Int) q = some (firstV q p 2) := by
  unfold page_counts_first.impl
  have := (first_loop hp q p 2 (by omega)).resolve_right (by omega)
  rw [show (2 : Int) = ((2 : Nat) : Int) from rfl, this]
  by_cases h : firstV q p 2 = 0
  · rw [if_pos h, h]; rfl
  · rw [if_neg h]; rfl
theorem firstV_in (q : MI2) : ∀ (n i : Nat), firstV q n i = 0 ∨ ∃ k : Nat, firstV q n i = (k : Int) ∧ i ≤ k ∧ k < i + n ∧ (mget q (k : Int)).getD 0 = 0
  | 0, i => .inl rfl
  | n + 1, i => by
    rw [firstV]
    split
    · rename_i h; exact .inr ⟨i, rfl, by omega, by omega, h⟩
    · rcases firstV_in q n (i + 1) with h | ⟨k, h1, h2, h3, h4⟩
      · exact .inl h
      · exact .inr ⟨k, h1, by omega, by omega, h4⟩
/-! ### Calls -/
section
variable {m c : KM} {b : Nat} {lf af kp tn ct n r p : Int} {q : MI2}
theorem Dead_no : page_Store_Dead.impl (p, lf, n, r) q ((b : Int), false, lf, af, kp, tn, ct) m c = some false := by
  unfold page_Store_Dead.impl
  simp [disk_Disk_Down.impl, disk_Disk_Life.impl]
theorem Dead_down {l0 : Int} : page_Store_Dead.impl (p, l0, n, r) q ((b : Int), true, lf, af, kp, tn, ct) m c = some true := by
  unfold page_Store_Dead.impl
  simp [disk_Disk_Down.impl]
theorem Dead_old {l0 : Int} (h : lf ≠ l0) : page_Store_Dead.impl (p, l0, n, r) q ((b : Int), false, lf, af, kp, tn, ct) m c = some true := by
  unfold page_Store_Dead.impl
  simp [disk_Disk_Down.impl, disk_Disk_Life.impl, h]
theorem Put_no {p : Nat} (hp : p ≤ 4096) (hb : b = p + 2) (hc : c.length ≤ 100000) {l : List UInt8} (hl : l.length ≤ 8186) (h : hit af = false) :
    page_Store_Put.impl ((p : Int), lf, n, r) q ((b : Int), false, lf, af, kp, tn, ct) m c l = some (if firstV q p 2 = 0 then (0, 21, q, ((b : Int), false, lf, af, kp, tn, ct), m, c) else (firstV q p 2, 0, mset q (firstV q p 2) 1, ((b : Int), false, lf, nxt af, kp, tn, ct), m, c ++ [(firstV q p 2, laidV l)])) := by
  unfold page_Store_Put.impl
  simp only
  rw [first_is hp, Option.bind_some, Dead_no, Option.bind_some]
  simp only [Bool.false_eq_true, if_false]
  rw [ite_df (by omega)]
  by_cases h0 : firstV q p 2 = 0
  · rw [ite_dt h0, if_pos h0]
  · rw [ite_df h0, if_neg h0, laid_is l hl, Option.bind_some]
    obtain ⟨k, e, k1, k2, _⟩ := (firstV_in q p 2).resolve_left h0
    have hw := laidV_len hl
    rw [Write_no (by omega) (by omega) (by omega) h, Option.bind_some]
    rw [ite_nt rfl, whole_full hw]
theorem Put_hit {p : Nat} (hp : p ≤ 4096) (hb : b = p + 2) (hc : Fulls c) {l : List UInt8} (hl : l.length ≤ 8186) (h : hit af = true) :
    page_Store_Put.impl ((p : Int), lf, n, r) q ((b : Int), false, lf, af, kp, tn, ct) m c l = some (if firstV q p 2 = 0 then (0, 21, q, ((b : Int), false, lf, af, kp, tn, ct), m, c) else (0, 20, q, ((b : Int), true, IntKind.i64.wrap (lf + 1), 0, 0, 0, 0), cutM (nxt af, kp, tn, ct) 0 m c, [])) := by
  unfold page_Store_Put.impl
  simp only
  rw [first_is hp, Option.bind_some, Dead_no, Option.bind_some]
  simp only [Bool.false_eq_true, if_false]
  rw [ite_df (by omega)]
  by_cases h0 : firstV q p 2 = 0
  · rw [ite_dt h0, if_pos h0]
  · rw [ite_df h0, if_neg h0, laid_is l hl, Option.bind_some]
    obtain ⟨k, e, k1, k2, _⟩ := (firstV_in q p 2).resolve_left h0
    have hw := laidV_len hl
    rw [Write_hit hc (by omega) (by omega) h, Option.bind_some]
    rw [ite_nf (show ¬ ((20 : Int) = 0) by decide)]
theorem Put_dead {p : Nat} (hp : p ≤ 4096) {l0 : Int} (l : List UInt8) : page_Store_Put.impl ((p : Int), l0, n, r) q ((b : Int), true, lf, af, kp, tn, ct) m c l = some (0, 20, q, ((b : Int), true, lf, af, kp, tn, ct), m, c) := by
  unfold page_Store_Put.impl
  simp only
  rw [first_is hp, Option.bind_some, Dead_down]
  rfl
theorem is_is {p : Nat} (hp : p ≤ 4096) (i : Int) : page_counts_is.impl (p : Int) q i = some (decide (2 ≤ i ∧ i < p + 2)) := by
  unfold page_counts_is.impl
  rw [i64_id (by omega)]
  by_cases h : 2 ≤ i
  · rw [ite_dt h]; congr 1; exact decide_eq_decide.2 (by omega)
  · rw [ite_df h, decide_eq_false (by omega)]
theorem Get_is {p : Nat} (hp : p ≤ 4096) (hb : b = p + 2) (hc : c.length ≤ 1000000) {i : Int} (hi : 2 ≤ i ∧ i < p + 2) : page_Store_Get.impl ((p : Int), lf, n, r) q ((b : Int), false, lf, af, kp, tn, ct) m c i = some (getV (rd m c i)) := by
  unfold page_Store_Get.impl
  simp only
  rw [Dead_no, Option.bind_some]
  simp only [Bool.false_eq_true, if_false]
  rw [is_is hp, Option.bind_some, ite_nt hi, Read_is c hc (by omega), Option.bind_some]
  have hl := rd_len m c i
  generalize rd m c i = x at hl ⊢
  simp only [decide_true, Bool.not_true, Bool.false_eq_true, if_false]
  rw [chk_true (by omega), show subl x 4 6 = (x.take 6).drop 4 from rfl, small_is _ (by simp; omega), Option.bind_some]
  unfold getV
  have hb := smallV_lt ((x.take 6).drop 4)
  rw [show ((x.take 6).drop 4).length = 2 by simp; omega] at hb
  generalize smallV ((x.take 6).drop 4) = k at hb ⊢
  rw [i64_id (n := (k : Int)) (by omega)]
  simp only
  by_cases h1 : 8186 < k
  · rw [ite_dt (by omega), if_pos h1]; simp [page_Store_Get.k1]
  · rw [ite_df (by omega), if_neg h1, i64_id (by omega), chk_true (by omega)]
    have e1 : subl x (6 + (k : Int)) (x.length : Int) = x.drop (6 + k) := by simp [subl, show (6 + (k : Int)).toNat = 6 + k by omega]
    rw [e1, zero_is _ (by simp; omega), Option.bind_some, show (x.drop (6 + k)).length = 8186 - k by simp; omega]
    by_cases h2 : x.drop (6 + k) = zeros (8186 - k)
    · rw [ite_dt h2, if_neg (by simp [h2]), chk_true (by omega), chk_true (by omega)]
      have e2 : subl x 4 (x.length : Int) = x.drop 4 := by simp [subl]
      have e3 : subl x 0 4 = x.take 4 := by simp [subl]
      rw [e2, e3, Sum_is (by simp; omega), Option.bind_some, small_is _ (by simp; omega), Option.bind_some, u64_id (by have := (crc (x.drop 4)).isLt; omega)]
      unfold page_Store_Get.k1
      simp only
      by_cases h3 : (crc (x.drop 4)).toNat = smallV (x.take 4)
      · rw [ite_nt (by omega), if_neg (by simp [h3]), i64_id (n := (k : Int)) (by omega), i64_id (by omega), chk_true (by omega)]
        congr 2
      · rw [ite_nf (by omega), if_pos h3]
    · rw [ite_df h2, if_pos h2]; simp [page_Store_Get.k1]
theorem Get_down {l0 : Int} (i : Int) : page_Store_Get.impl (p, l0, n, r) q ((b : Int), true, lf, af, kp, tn, ct) m c i = some ([], 20) := by
  unfold page_Store_Get.impl
  simp only
  rw [Dead_down]; rfl
theorem Free_is (i : Int) : page_Store_Free.impl (p, lf, n, r) q ((b : Int), false, lf, af, kp, tn, ct) m c i = some (if (mget q i).getD 0 = 1 then (0, mset q i 2) else (1, q)) := by
  unfold page_Store_Free.impl
  simp only
  rw [Dead_no, Option.bind_some]
  simp only [Bool.false_eq_true, if_false]
  by_cases h : (mget q i).getD 0 = 1
  · rw [ite_nt h, if_pos h]
  · rw [ite_nf h, if_neg h]
theorem Free_down {l0 : Int} (i : Int) : page_Store_Free.impl (p, l0, n, r) q ((b : Int), true, lf, af, kp, tn, ct) m c i = some (20, q) := by
  unfold page_Store_Free.impl
  simp only
  rw [Dead_down]; rfl
def settleV (q : MI2) : MI2 := q.filter fun p => p.2 ≠ 2
/-- what a head's write lays -/
def headB (n : Nat) (r : Nat) : List UInt8 := headV n r ++ zeros 8172
theorem headB_len (n r : Nat) : (headB n r).length = 8192 := by simp [headB, headV_len, zeros_len]
theorem headB_whole (n r : Nat) : whole (headV n r) = headB n r := by
  have h := headV_len n r
  unfold whole headB zeros
  rw [List.take_of_length_le (by omega), h]
section
variable {n r a : Nat} (hb : 2 < b) (hc : Fulls c) (hn : n < 4611686018427387904) (ha : a = 0 ∨ (mget q (a : Int)).getD 0 = 1) (ha' : a < 18446744073709551616)
include hb hc hn ha ha'
theorem Commit_go : page_Store_Commit.impl (p, lf, (n : Int), (r : Int)) q ((b : Int), false, lf, af, kp, tn, ct) m c (a : Int) = page_Store_Commit.k1 (p, lf, (n : Int), (r : Int)) q ((b : Int), false, lf, af, kp, tn, ct) m c (a : Int) false := by
  unfold page_Store_Commit.impl
  simp only
  rw [Dead_no, Option.bind_some]
  simp only [Bool.false_eq_true, if_false]
  by_cases h : (a : Int) = 0
  · rw [ite_dt h]
  · rw [ite_df h]
    have := ha.resolve_left (by omega)
    rw [decide_eq_true this]; rfl
theorem Commit_ok (h1 : hit af = false) (h2 : hit (nxt af) = false) (h3 : hit (nxt (nxt af)) = false) :
    page_Store_Commit.impl (p, lf, (n : Int), (r : Int)) q ((b : Int), false, lf, af, kp, tn, ct) m c (a : Int) = some (0, (p, lf, ((n + 1 : Nat) : Int), (a : Int)), settleV q, ((b : Int), false, lf, nxt (nxt (nxt af)), kp, tn, ct), flushM (flushM m c) [((((n + 1) % 2 : Nat) : Int), headB (n + 1) a)], []) := by
  rw [Commit_go hb hc hn ha ha']
  unfold page_Store_Commit.k1
  simp only [Bool.false_eq_true, if_false]
  rw [ite_df (by omega), Flush_no hc h1, Option.bind_some, ite_nt rfl]
  simp only
  rw [u64_id (n := (n : Int) + 1) (by omega)]
  have e1 : IntKind.i64.wrap (Int.tmod ((n : Int) + 1) 2) = (((n + 1) % 2 : Nat) : Int) := by
    rw [Int.tmod_eq_emod_of_nonneg (by omega), i64_id (by omega)]; omega
  rw [e1, show ((n : Int) + 1) = ((n + 1 : Nat) : Int) from rfl, head_is (n + 1) a ha', Option.bind_some]
  have hl := headV_len (n + 1) a
  rw [Write_no (by simp) (by omega) (by omega) h2, Option.bind_some, ite_nt rfl]
  simp only [List.nil_append]
  rw [headB_whole, Flush_no ⟨fun w hw => by simp only [List.mem_singleton] at hw; rw [hw]; exact headB_len _ _, by simp⟩ h3, Option.bind_some, ite_nt rfl]
  rfl
theorem Commit_f1 (h1 : hit af = true) :
    page_Store_Commit.impl (p, lf, (n : Int), (r : Int)) q ((b : Int), false, lf, af, kp, tn, ct) m c (a : Int) = some (20, (p, lf, (n : Int), (r : Int)), q, ((b : Int), true, IntKind.i64.wrap (lf + 1), 0, 0, 0, 0), cutM (nxt af, kp, tn, ct) 0 m c, []) := by
  rw [Commit_go hb hc hn ha ha']
  unfold page_Store_Commit.k1
  simp only [Bool.false_eq_true, if_false]
  rw [ite_df (by omega), Flush_hit hc h1, Option.bind_some, ite_nf (show ¬ ((20 : Int) = 0) by decide)]
theorem Commit_f2 (h1 : hit af = false) (h2 : hit (nxt af) = true) :
    page_Store_Commit.impl (p, lf, (n : Int), (r : Int)) q ((b : Int), false, lf, af, kp, tn, ct) m c (a : Int) = some (20, (p, lf, (n : Int), (r : Int)), q, ((b : Int), true, IntKind.i64.wrap (lf + 1), 0, 0, 0, 0), flushM m c, []) := by
  rw [Commit_go hb hc hn ha ha']
  unfold page_Store_Commit.k1
  simp only [Bool.false_eq_true, if_false]
  rw [ite_df (by omega), Flush_no hc h1, Option.bind_some, ite_nt rfl]
  simp only
  rw [u64_id (n := (n : Int) + 1) (by omega)]
  have e1 : IntKind.i64.wrap (Int.tmod ((n : Int) + 1) 2) = (((n + 1) % 2 : Nat) : Int) := by
    rw [Int.tmod_eq_emod_of_nonneg (by omega), i64_id (by omega)]; omega
  rw [e1, show ((n : Int) + 1) = ((n + 1 : Nat) : Int) from rfl, head_is (n + 1) a ha', Option.bind_some]
  have hl := headV_len (n + 1) a
  rw [Write_hit Fulls.nil (by omega) (by omega) h2, Option.bind_some, ite_nf (show ¬ ((20 : Int) = 0) by decide)]
  rfl
theorem Commit_f3 (h1 : hit af = false) (h2 : hit (nxt af) = false) (h3 : hit (nxt (nxt af)) = true) :
    page_Store_Commit.impl (p, lf, (n : Int), (r : Int)) q ((b : Int), false, lf, af, kp, tn, ct) m c (a : Int) = some (20, (p, lf, (n : Int), (r : Int)), q, ((b : Int), true, IntKind.i64.wrap (lf + 1), 0, 0, 0, 0), cutM (nxt (nxt (nxt af)), kp, tn, ct) 0 (flushM m c) [((((n + 1) % 2 : Nat) : Int), headB (n + 1) a)], []) := by
  rw [Commit_go hb hc hn ha ha']
  unfold page_Store_Commit.k1
  simp only [Bool.false_eq_true, if_false]
  rw [ite_df (by omega), Flush_no hc h1, Option.bind_some, ite_nt rfl]
  simp only
  rw [u64_id (n := (n : Int) + 1) (by omega)]
  have e1 : IntKind.i64.wrap (Int.tmod ((n : Int) + 1) 2) = (((n + 1) % 2 : Nat) : Int) := by
    rw [Int.tmod_eq_emod_of_nonneg (by omega), i64_id (by omega)]; omega
  rw [e1, show ((n : Int) + 1) = ((n + 1 : Nat) : Int) from rfl, head_is (n + 1) a ha', Option.bind_some]
  have hl := headV_len (n + 1) a
  rw [Write_no (by simp) (by omega) (by omega) h2, Option.bind_some, ite_nt rfl]
  simp only [List.nil_append]
  rw [headB_whole, Flush_hit ⟨fun w hw => by simp only [List.mem_singleton] at hw; rw [hw]; exact headB_len _ _, by simp⟩ h3, Option.bind_some, ite_nf (show ¬ ((20 : Int) = 0) by decide)]
end
theorem Commit_down {n r l0 a : Int} : page_Store_Commit.impl (p, l0, n, r) q ((b : Int), true, lf, af, kp, tn, ct) m c a = some (20, (p, l0, n, r), q, ((b : Int), true, lf, af, kp, tn, ct), m, c) := by
  unfold page_Store_Commit.impl
  simp only
  rw [Dead_down]; rfl
end
/-! ### Open -/
def oneH (s : Nat × Nat × Int) (h : (Nat × Nat) × Bool) (i : Int) : Nat × Nat × Int := if h.2 = true ∧ (s.2.2 < 0 ∨ s.1 < h.1.1) then (h.1.1, h.1.2, i) else s
def openV (c0 c1 : List UInt8) (b : Nat) (lf : Int) : Option ((Int × Int × Int × Int) × MI2) × Int :=
  let s := oneH (oneH (0, 0, -1) (readH c0 b) 0) (readH c1 b) 1
  if s.2.2 < 0 ∨ s.1 ≠ 0 ∧ ((s.1 % 2 : Nat) : Int) ≠ s.2.2 then (none, 22) else (some ((((b - 2 : Nat) : Int), lf, (s.1 : Int), (s.2.1 : Int)), []), 0)
def sI (s : Nat × Nat × Int) : Int × Int × Int := ((s.1 : Int), (s.2.1 : Int), s.2.2)
theorem open_step {m c : KM} {b : Nat} {lf af kp tn ct : Int} (hb : 2 < b ∧ b ≤ 4096) (hc : c.length ≤ 1000000) (s : Nat × Nat × Int) (i : Nat) (hi : i < 2) :
    page_Open.st1 ((b : Int), false, lf, af, kp, tn, ct) m c ((s.1 : Int), (s.2.1 : Int), s.2.2, (i : Int)) = some (.inl (((oneH s (readH (rd m c i) b) i).1 : Int), ((oneH s (readH (rd m c i) b) i).2.1 : Int), (oneH s (readH (rd m c i) b) i).2.2, ((i + 1 : Nat) : Int))) := by
  unfold page_Open.st1
  simp only
  rw [ite_dt (by omega), Read_is c hc (by omega), Option.bind_some, ite_nt rfl]
  simp only [disk_Disk_Blocks.impl, Option.bind_some]
  rw [readHead_is (rd_len m c i), Option.bind_some]
  generalize readH (rd m c i) b = h
  unfold hI oneH
  simp only
  have e : IntKind.i64.wrap ((i : Int) + 1) = ((i + 1 : Nat) : Int) := i64_id (by omega)
  have k3t : ∀ (x : (Int × Int) × Bool) (y : Int × Int × Int × Int), page_Open.k3 x y true = some (.inl (x.1.1, x.1.2, y.2.2.2, IntKind.i64.wrap (y.2.2.2 + 1))) := fun _ _ => rfl
  have k3f : ∀ (x : (Int × Int) × Bool) (y : Int × Int × Int × Int), page_Open.k3 x y false = some (.inl (y.1, y.2.1, y.2.2.1, IntKind.i64.wrap (y.2.2.2 + 1))) := fun _ _ => rfl
  cases h2 : h.2 with
  | false =>
    simp only [Bool.false_eq_true, if_false, false_and]
    rw [k3f, e]
  | true =>
    simp only [if_true, true_and]
    by_cases h3 : s.2.2 < 0
    · rw [ite_dt h3, if_pos (.inl h3), k3t, e]
    · rw [ite_df h3]
      by_cases h4 : s.1 < h.1.1
      · rw [decide_eq_true (by omega), if_pos (.inr h4), k3t, e]
      · rw [decide_eq_false (by omega), if_neg (by omega), k3f, e]
theorem Open_is {m c : KM} {b : Nat} {lf af kp tn ct : Int} (hb : 2 < b ∧ b ≤ 4096) (hc : c.length ≤ 1000000) : page_Open.impl ((b : Int), false, lf, af, kp, tn, ct) m c = some (openV (rd m c 0) (rd m c 1) b lf) := by
  unfold page_Open.impl
  simp only [disk_Disk_Blocks.impl, disk_Disk_Down.impl, disk_Disk_Life.impl, Option.bind_some, Bool.false_eq_true, if_false]
  rw [ite_df (by omega)]
  have h0 : page_Open.st1 ((b : Int), false, lf, af, kp, tn, ct) m c (0, 0, -1, 0) = some (.inl (((oneH (0, 0, -1) (readH (rd m c 0) b) 0).1 : Int), ((oneH (0, 0, -1) (readH (rd m c 0) b) 0).2.1 : Int), (oneH (0, 0, -1) (readH (rd m c 0) b) 0).2.2, 1)) := open_step hb hc (0, 0, -1) 0 (by omega)
  have h1 := open_step (m := m) (lf := lf) (af := af) (kp := kp) (tn := tn) (ct := ct) hb hc (oneH (0, 0, -1) (readH (rd m c 0) b) 0) 1 (by omega)
  have h1 : page_Open.st1 ((b : Int), false, lf, af, kp, tn, ct) m c (((oneH (0, 0, -1) (readH (rd m c 0) b) 0).1 : Int), ((oneH (0, 0, -1) (readH (rd m c 0) b) 0).2.1 : Int), (oneH (0, 0, -1) (readH (rd m c 0) b) 0).2.2, 1) = some (.inl (((oneH (oneH (0, 0, -1) (readH (rd m c 0) b) 0) (readH (rd m c 1) b) 1).1 : Int), ((oneH (oneH (0, 0, -1) (readH (rd m c 0) b) 0) (readH (rd m c 1) b) 1).2.1 : Int), (oneH (oneH (0, 0, -1) (readH (rd m c 0) b) 0) (readH (rd m c 1) b) 1).2.2, 2)) := h1
  rw [loop_more h0, loop_more h1, loop_last (by unfold page_Open.st1; rw [ite_df (by simp)])]
  unfold openV
  simp only [Option.bind_some]
  generalize oneH (oneH (0, 0, -1) (readH (rd m c 0) b) 0) (readH (rd m c 1) b) 1 = s
  unfold page_Open.k1
  simp only
  have k2t : page_Open.k2 (b : Int) lf ((s.1 : Int), (s.2.1 : Int), s.2.2) true = some (none, 22) := rfl
  have k2f : page_Open.k2 (b : Int) lf ((s.1 : Int), (s.2.1 : Int), s.2.2) false = some (some ((((b - 2 : Nat) : Int), lf, (s.1 : Int), (s.2.1 : Int)), []), 0) := by
    unfold page_Open.k2
    simp only [Bool.false_eq_true, if_false]
    rw [i64_id (by omega), show ((b : Int) - 2) = ((b - 2 : Nat) : Int) by omega]
  by_cases g1 : s.2.2 < 0
  · rw [ite_dt g1, k2t, if_pos (.inl g1)]
  · rw [ite_df g1]
    by_cases g2 : s.1 = 0
    · rw [ite_dt (by omega), k2f, if_neg (by omega)]
    · rw [ite_df (by omega), Int.tmod_eq_emod_of_nonneg (by omega), i64_id (by omega)]
      by_cases g3 : ((s.1 % 2 : Nat) : Int) = s.2.2
      · rw [decide_eq_true (by omega), Bool.not_true, k2f, if_neg (by omega)]
      · rw [decide_eq_false (by omega), Bool.not_false, k2t, if_pos (.inr ⟨g2, g3⟩)]
theorem Open_down {m c : KM} {b : Nat} {lf af kp tn ct : Int} (hb : 2 < b) : page_Open.impl ((b : Int), true, lf, af, kp, tn, ct) m c = some (none, 20) := by
  unfold page_Open.impl
  simp only [disk_Disk_Blocks.impl, disk_Disk_Down.impl, disk_Disk_Life.impl, Option.bind_some]
  rw [ite_df (by omega)]; rfl
theorem openV_new (b : Nat) (lf : Int) : openV (zeros 8192) (zeros 8192) b lf = (some ((((b - 2 : Nat) : Int), lf, 0, 0), []), 0) := by
  unfold openV
  rw [readH_zero]
  simp [oneH]
theorem rd_new (q : Int) : rd [] [] q = zeros 8192 := by
  rw [rd_nil, blk_nil]; rfl
end Go.Proofs.Ytccifnjlfhdpiaa
