/- PageKeeps, in plain terms: the rounds. -/
import Derived.Test.YtccifnjlfhdpiaaKeL
import Derived.Test.YtccifnjlfhdpiaaLawK
set_option linter.unusedVariables false
set_option linter.unusedSimpArgs false
set_option linter.unusedSectionVars false
namespace Go.Proofs.Ytccifnjlfhdpiaa
open Go Go.RowKit
abbrev KeS := Int × KM × KM × Bool × Int × Int × Int × Int × Int × Int × MI2 × Int × Int × Int × Int × Int × List UInt8 × Int
abbrev KeD := Int × KM × KM × Bool × Int × Int × Int × Int × Int × Int × MI2 × Int × Int × Int × Int
def qR (r : Nat) : MI2 := if r = 0 then [] else [((r : Int), 1)]
def KeI (i : Nat) (s : KeS) : Prop := ∃ m lf af kp tn ct, ∃ n r : Nat, ∃ t, s = (12, m, [], false, lf, af, kp, tn, ct, 10, qR r, lf, (n : Int), (r : Int), (r : Int), (n : Int), t, (i : Int)) ∧ n ≤ i ∧ i ≤ 12 ∧ Kpt m n r t
def txt (l0 : List (List UInt8)) (i : Nat) : List UInt8 := subl (l0.getD i default) 0 (min ((l0.getD i default).length : Int) 200)
theorem txt_len (l0 : List (List UInt8)) (i : Nat) : (txt l0 i).length ≤ 200 := by
  unfold txt
  rw [subl_length (by omega) (by omega) (by omega)]; omega
theorem Hold_one {m : KM} {lf : Int} {n r : Int} {a : Nat} (ha : 2 ≤ a ∧ a < 12) : page_Store_Hold.impl (10, lf, n, r) [] (12, false, lf, 0, 0, 0, 0) m [] [(a : Int)] = some (0, [((a : Int), 1)]) := by
  unfold page_Store_Hold.impl
  simp only
  have pd : page_Store_Dead.impl (10, lf, n, r) [] (12, false, lf, 0, 0, 0, 0) m [] = some false := Dead_no (b := 12)
  rw [pd, Option.bind_some]
  simp only [Bool.false_eq_true, if_false]
  have pi : page_counts_is.impl 10 [] (a : Int) = some true := by
    have := is_is (q := []) (p := 10) (by omega) (a : Int)
    rw [decide_eq_true (by omega)] at this; exact this
  have h1 : page_Store_Hold.st2 [(a : Int)] (10, lf, n, r) [] 0 = some (.inl 1) := by
    unfold page_Store_Hold.st2
    rw [ite_dt (by simp), chk_true (by simp)]
    show (page_counts_is.impl 10 [] (a : Int)).bind _ = _
    rw [pi]; rfl
  have h2 : page_Store_Hold.st2 [(a : Int)] (10, lf, n, r) [] 1 = some (.inr (.inr ())) := by
    unfold page_Store_Hold.st2
    rw [ite_df (by simp)]
  have h3 : page_Store_Hold.st1 [(a : Int)] ([], 0) = some (.inl ([((a : Int), 1)], 1)) := by
    unfold page_Store_Hold.st1
    rw [ite_dt (by simp), chk_true (by simp)]; rfl
  have h4 : page_Store_Hold.st1 [(a : Int)] ([((a : Int), 1)], 1) = some (.inr [((a : Int), 1)]) := by
    unfold page_Store_Hold.st1
    rw [ite_df (by simp)]
  rw [loop_more h1, loop_last h2, Option.bind_some]
  simp only
  unfold page_Store_Hold.k1
  rw [loop_more h3, loop_last h4, Option.bind_some]; rfl
section
variable {l0 : List (List UInt8)} {m0 m c0 : KM} {dn : Bool} {lf af kp tn ct lf0 x1 x2 x3 : Int} {q0 q1 : MI2} {n r i : Nat} {s : List UInt8} {r4 : Int × Int × MI2 × Rt × KM × KM}
/-- After the power went: what is found, with its page. -/
theorem keeps_found {n' r' : Nat} {s' : List UInt8} (h : Kpt m n' r' s') (hn : n' ≤ i + 1) (hi : i < 12) {s9 : KeD} (h91 : s9.2.1 = m) (h92 : s9.2.2.1 = []) {s4 : KeS} (h4 : s4.2.2.2.2.2.2.2.2.2.2.2.2.2.2.2.2.2 = (i : Int)) :
    ∃ s2, law4_PageKeeps.k11 ((10, lf, (n' : Int), (r' : Int)), []) (12, false, lf, 0, 0, 0, 0) s9 s4 ((r' : Int), (n' : Int), s') = some (.inl s2) ∧ KeI (i + 1) s2 := by
  have w : IntKind.i64.wrap ((i : Int) + 1) = ((i + 1 : Nat) : Int) := i64_id (by omega)
  refine ⟨(12, m, [], false, lf, 0, 0, 0, 0, 10, qR r', lf, (n' : Int), (r' : Int), (r' : Int), (n' : Int), s', ((i + 1 : Nat) : Int)), ?_, m, lf, 0, 0, 0, 0, n', r', s', rfl, hn, by omega, h⟩
  unfold law4_PageKeeps.k11
  simp only [h91, h92]
  have hroot := h.root
  by_cases hr : r' = 0
  · subst hr
    rw [ite_nt (show ((0 : Nat) : Int) = 0 from rfl)]
    unfold law4_PageKeeps.k5
    simp only [h4, w]; rfl
  · rw [ite_nf (by omega)]
    have g : page_Store_Get.impl (10, lf, (n' : Int), (r' : Int)) [] (12, false, lf, 0, 0, 0, 0) m [] (r' : Int) = some (getV (rd m [] (r' : Int))) := Get_is (b := 12) (p := 10) (by omega) rfl (by simp) (by omega)
    rw [g, rd_nil, h.page hr, getV_laid (by have := h.len; omega), Option.bind_some]
    simp only [decide_true, if_true]
    rw [Hold_one (by omega), Option.bind_some]
    unfold law4_PageKeeps.k12
    simp only [decide_true, Bool.not_true, Bool.false_eq_true, if_false]
    unfold law4_PageKeeps.k5
    simp only [h91, h92, h4, w]
    unfold qR
    rw [if_neg hr]
theorem keeps_back (hi : i < 12) (hn : n ≤ i) (h : Kpt m n r s ∨ Kpt m (n + 1) (nx r) (txt l0 i)) :
    ∃ s2, law4_PageKeeps.k8 (12, m0, c0, dn, lf0, af, kp, tn, ct, 10, q0, x1, x2, x3, (r : Int), (n : Int), s, (i : Int)) r4 l0 (12, m, [], true, lf, 0, 0, 0, 0, 10, q1, lf0, (n : Int), (r : Int), 20) = some (.inl s2) ∧ KeI (i + 1) s2 := by
  unfold law4_PageKeeps.k8
  simp only
  rw [ite_df (by decide)]
  simp only [disk_Disk_Down.impl, Option.bind_some, Bool.not_true, Bool.false_eq_true, if_false]
  rw [Restart_is, Option.bind_some]
  simp only
  have po : page_Open.impl (12, false, lf, 0, 0, 0, 0) m [] = some (openV (rd m [] 0) (rd m [] 1) 12 lf) := Open_is (b := 12) (by omega) (by simp)
  rw [po, Option.bind_some]
  rcases h with h | h
  · rw [h.opened (by omega)]
    simp only [decide_true, if_true]
    unfold law4_PageKeeps.k10
    simp only [Bool.false_eq_true, if_false, page_Store_Number.impl, page_Store_Root.impl, Option.bind_some]
    rw [i64_id (n := (n : Int)) (by omega), ite_dt rfl]
    simp only [decide_true, Bool.not_true, Bool.false_eq_true, if_false]
    exact keeps_found h (by omega) hi rfl rfl rfl
  · rw [h.opened (by omega)]
    simp only [decide_true, if_true]
    unfold law4_PageKeeps.k10
    simp only [Bool.false_eq_true, if_false, page_Store_Number.impl, page_Store_Root.impl, Option.bind_some]
    rw [i64_id (n := ((n + 1 : Nat) : Int)) (by omega), ite_df (by omega), i64_id (n := (n : Int) + 1) (by omega), ite_dt (by omega)]
    exact keeps_found h (by omega) hi rfl rfl rfl
end
theorem firstV_qR {r : Nat} (h : r = 0 ∨ r = 2 ∨ r = 3) : firstV (qR r) 10 2 = (nx r : Int) := by
  rcases h with rfl | rfl | rfl <;> rfl
/-- what is said of the pages ahead of a commit -/
def q2 (r : Nat) : MI2 := if r = 0 then [(2, 1)] else [((r : Int), 2), ((nx r : Int), 1)]
theorem q2_get {r : Nat} (h : r = 0 ∨ r = 2 ∨ r = 3) : (mget (q2 r) (nx r : Int)).getD 0 = 1 := by
  rcases h with rfl | rfl | rfl <;> rfl
theorem q2_settle {r : Nat} (h : r = 0 ∨ r = 2 ∨ r = 3) : settleV (q2 r) = qR (nx r) := by
  rcases h with rfl | rfl | rfl <;> rfl
section
variable {l0 : List (List UInt8)} {m : KM} {lf af kp tn ct : Int} {n r i : Nat} {s : List UInt8}
theorem keeps_commit (h : Kpt m n r s) (hi : i < 12) (hn : n ≤ i) {s4 : KeS} {x2 x3 x4 x5 : Int} (h4 : s4 = (12, m, [], false, lf, x2, x3, x4, x5, 10, qR r, lf, (n : Int), (r : Int), (r : Int), (n : Int), s, (i : Int))) {r4 : Int × Int × MI2 × Rt × KM × KM} {x : MI2} (hr4 : r4 = ((nx r : Int), 0, x, (12, false, lf, af, kp, tn, ct), m, [((nx r : Int), laidV (txt l0 i))])) :
    ∃ s2, law4_PageKeeps.k7 s4 r4 l0 (q2 r, 0) = some (.inl s2) ∧ KeI (i + 1) s2 := by
  subst h4; subst hr4
  have hx := nx_in r
  have hroot : r = 0 ∨ r = 2 ∨ r = 3 := by have := h.root; omega
  have ht := txt_len l0 i
  have hl := laidV_len (b := txt l0 i) (by omega)
  have hc := one_full (nx r : Int) hl
  have ha : nx r = 0 ∨ (mget (q2 r) ((nx r : Nat) : Int)).getD 0 = 1 := .inr (q2_get hroot)
  unfold law4_PageKeeps.k7
  simp only [decide_true, if_true]
  have ho : ∀ q : Int, q ≠ nx r → rd m [((nx r : Int), laidV (txt l0 i))] q = blk m q := fun q hq => by
    have := rd_add m [] (nx r : Int) q _ hl
    rw [List.nil_append] at this
    rw [this, if_neg hq, rd_nil]
  have hpg : rd m [((nx r : Int), laidV (txt l0 i))] (nx r : Int) = laidV (txt l0 i) := by
    have := rd_add m [] (nx r : Int) (nx r : Int) _ hl
    rw [List.nil_append] at this
    rw [this, if_pos rfl]
  have hfl : ∀ q, blk (flushM m [((nx r : Int), laidV (txt l0 i))]) q = rd m [((nx r : Int), laidV (txt l0 i))] q := fun q => by rw [← rd_nil, rd_flush hc]
  by_cases h1 : hit af = true
  · have p : page_Store_Commit.impl (10, lf, (n : Int), (r : Int)) (q2 r) (12, false, lf, af, kp, tn, ct) m [((nx r : Int), laidV (txt l0 i))] (nx r : Int) = some (20, (10, lf, (n : Int), (r : Int)), q2 r, (12, true, IntKind.i64.wrap (lf + 1), 0, 0, 0, 0), cutM (nxt af, kp, tn, ct) 0 m [((nx r : Int), laidV (txt l0 i))], []) := Commit_f1 (b := 12) (by omega) hc (by omega) ha (by omega) h1
    rw [p, Option.bind_some]
    refine keeps_back hi hn (.inl (h.same fun q _ hq => ?_))
    exact cut1_other _ _ _ _ hl (Ne.symm hq)
  have h1 : hit af = false := by simpa using h1
  by_cases h2 : hit (nxt af) = true
  · have p : page_Store_Commit.impl (10, lf, (n : Int), (r : Int)) (q2 r) (12, false, lf, af, kp, tn, ct) m [((nx r : Int), laidV (txt l0 i))] (nx r : Int) = some (20, (10, lf, (n : Int), (r : Int)), q2 r, (12, true, IntKind.i64.wrap (lf + 1), 0, 0, 0, 0), flushM m [((nx r : Int), laidV (txt l0 i))], []) := Commit_f2 (b := 12) (by omega) hc (by omega) ha (by omega) h1 h2
    rw [p, Option.bind_some]
    refine keeps_back hi hn (.inl (h.same fun q _ hq => ?_))
    rw [hfl, ho q hq]
  have h2 : hit (nxt af) = false := by simpa using h2
  by_cases h3 : hit (nxt (nxt af)) = true
  · have p : page_Store_Commit.impl (10, lf, (n : Int), (r : Int)) (q2 r) (12, false, lf, af, kp, tn, ct) m [((nx r : Int), laidV (txt l0 i))] (nx r : Int) = some (20, (10, lf, (n : Int), (r : Int)), q2 r, (12, true, IntKind.i64.wrap (lf + 1), 0, 0, 0, 0), cutM (nxt (nxt (nxt af)), kp, tn, ct) 0 (flushM m [((nx r : Int), laidV (txt l0 i))]) [((((n + 1) % 2 : Nat) : Int), headB (n + 1) (nx r))], []) := Commit_f3 (b := 12) (by omega) hc (by omega) ha (by omega) h1 h2 h3
    rw [p, Option.bind_some]
    obtain ⟨j, hj, ej⟩ := cut1_same (nxt (nxt (nxt af)), kp, tn, ct) 0 (flushM m [((nx r : Int), laidV (txt l0 i))]) ((((n + 1) % 2 : Nat) : Int), headB (n + 1) (nx r)) (headB_len _ _)
    refine keeps_back hi hn (h.torn (by omega) ht hj ?_ (fun q q1 q2 => ?_) ?_)
    · have ej : blk (cutM (nxt (nxt (nxt af)), kp, tn, ct) 0 (flushM m [((nx r : Int), laidV (txt l0 i))]) [((((n + 1) % 2 : Nat) : Int), headB (n + 1) (nx r))]) (((n + 1) % 2 : Nat) : Int) = _ := ej
      rw [ej, hfl, ho _ (by omega)]
    · have := cut1_other (nxt (nxt (nxt af)), kp, tn, ct) 0 (flushM m [((nx r : Int), laidV (txt l0 i))]) ((((n + 1) % 2 : Nat) : Int), headB (n + 1) (nx r)) (headB_len _ _) (Ne.symm q1)
      exact this.trans ((hfl q).trans (ho q q2))
    · have := cut1_other (nxt (nxt (nxt af)), kp, tn, ct) 0 (flushM m [((nx r : Int), laidV (txt l0 i))]) ((((n + 1) % 2 : Nat) : Int), headB (n + 1) (nx r)) (headB_len _ _) (q := (nx r : Int)) (by simp only; omega)
      exact this.trans ((hfl _).trans hpg)
  have h3 : hit (nxt (nxt af)) = false := by simpa using h3
  have p : page_Store_Commit.impl (10, lf, (n : Int), (r : Int)) (q2 r) (12, false, lf, af, kp, tn, ct) m [((nx r : Int), laidV (txt l0 i))] (nx r : Int) = some (0, (10, lf, ((n + 1 : Nat) : Int), (nx r : Int)), settleV (q2 r), (12, false, lf, nxt (nxt (nxt af)), kp, tn, ct), flushM (flushM m [((nx r : Int), laidV (txt l0 i))]) [((((n + 1) % 2 : Nat) : Int), headB (n + 1) (nx r))], []) := Commit_ok (b := 12) (by omega) hc (by omega) ha (by omega) h1 h2 h3
  rw [p, Option.bind_some, q2_settle hroot]
  have hh := one_full (((n + 1) % 2 : Nat) : Int) (headB_len (n + 1) (nx r))
  have hf2 : ∀ q, blk (flushM (flushM m [((nx r : Int), laidV (txt l0 i))]) [((((n + 1) % 2 : Nat) : Int), headB (n + 1) (nx r))]) q = if q = (((n + 1) % 2 : Nat) : Int) then headB (n + 1) (nx r) else rd m [((nx r : Int), laidV (txt l0 i))] q := fun q => by
    rw [← rd_nil, rd_flush hh]
    have := rd_add (flushM m [((nx r : Int), laidV (txt l0 i))]) [] (((n + 1) % 2 : Nat) : Int) q _ (headB_len (n + 1) (nx r))
    rw [List.nil_append] at this
    rw [this, rd_nil, hfl]
  generalize flushM (flushM m [((nx r : Int), laidV (txt l0 i))]) [((((n + 1) % 2 : Nat) : Int), headB (n + 1) (nx r))] = m' at hf2 ⊢
  have hK := h.next (m' := m') (t := txt l0 i) (by omega) ht (by rw [hf2, if_pos rfl]) (fun q q1 q2 => by rw [hf2, if_neg q1, ho q q2]) (by rw [hf2, if_neg (by omega), hpg])
  unfold law4_PageKeeps.k8
  simp only [decide_true, if_true]
  unfold law4_PageKeeps.k5
  simp only
  rw [i64_id (n := (n : Int) + 1) (by omega), i64_id (n := (i : Int) + 1) (by omega)]
  exact ⟨_, rfl, m', lf, nxt (nxt (nxt af)), kp, tn, ct, n + 1, nx r, txt l0 i, rfl, by omega, by omega, hK⟩
theorem keeps_round (h : Kpt m n r s) (hi : i < 12) (hil : i < l0.length) (hn : n ≤ i) {s4 : KeS} {x2 x3 x4 x5 : Int} (h4 : s4 = (12, m, [], false, lf, x2, x3, x4, x5, 10, qR r, lf, (n : Int), (r : Int), (r : Int), (n : Int), s, (i : Int))) :
    ∃ s2, law4_PageKeeps.k6 s4 l0 (12, false, lf, af, kp, tn, ct) = some (.inl s2) ∧ KeI (i + 1) s2 := by
  have hroot : r = 0 ∨ r = 2 ∨ r = 3 := by have := h.root; omega
  have hx := nx_in r
  have ht := txt_len l0 i
  have hf := firstV_qR hroot
  have h4' := h4
  subst h4'
  unfold law4_PageKeeps.k6
  simp only
  rw [chk_true (by omega), chk_true (by omega), chk_true (by omega)]
  have et : subl (l0.getD ((i : Int)).toNat default) 0 (min ((l0.getD ((i : Int)).toNat default).length : Int) 200) = txt l0 i := rfl
  rw [et]
  by_cases h1 : hit af = true
  · have p := Put_hit (m := m) (c := []) (b := 12) (lf := lf) (af := af) (kp := kp) (tn := tn) (ct := ct) (n := (n : Int)) (r := (r : Int)) (q := qR r) (p := 10) (by omega) rfl Fulls.nil (l := txt l0 i) (by omega) h1
    rw [hf, if_neg (by omega)] at p
    have p : page_Store_Put.impl (10, lf, (n : Int), (r : Int)) (qR r) (12, false, lf, af, kp, tn, ct) m [] (txt l0 i) = some (0, 20, qR r, (12, true, IntKind.i64.wrap (lf + 1), 0, 0, 0, 0), m, []) := p
    rw [p, Option.bind_some]
    simp only
    rw [ite_df (by decide)]
    unfold law4_PageKeeps.k13
    simp only [Bool.false_eq_true, if_false]
    unfold law4_PageKeeps.k7
    simp only
    rw [ite_df (by decide)]
    exact keeps_back hi hn (.inl h)
  have h1 : hit af = false := by simpa using h1
  have p := Put_no (m := m) (c := []) (b := 12) (lf := lf) (af := af) (kp := kp) (tn := tn) (ct := ct) (n := (n : Int)) (r := (r : Int)) (q := qR r) (p := 10) (by omega) rfl (by simp) (l := txt l0 i) (by omega) h1
  rw [hf, if_neg (by omega)] at p
  have p : page_Store_Put.impl (10, lf, (n : Int), (r : Int)) (qR r) (12, false, lf, af, kp, tn, ct) m [] (txt l0 i) = some ((nx r : Int), 0, mset (qR r) (nx r : Int) 1, (12, false, lf, nxt af, kp, tn, ct), m, [((nx r : Int), laidV (txt l0 i))]) := p
  rw [p, Option.bind_some]
  simp only [decide_true, if_true]
  unfold law4_PageKeeps.k13
  simp only
  by_cases h0 : r = 0
  · subst h0
    rw [ite_nt (show ((0 : Nat) : Int) = 0 from rfl)]
    exact keeps_commit h hi hn rfl rfl
  · rw [ite_nf (by omega)]
    have pf := Free_is (m := m) (c := [((nx r : Int), laidV (txt l0 i))]) (b := 12) (lf := lf) (af := nxt af) (kp := kp) (tn := tn) (ct := ct) (n := (n : Int)) (r := (r : Int)) (p := 10) (q := mset (qR r) (nx r : Int) 1) (r : Int)
    have e1 : (mget (mset (qR r) (nx r : Int) 1) (r : Int)).getD 0 = 1 := by
      rcases hroot with rfl | rfl | rfl
      · exact absurd rfl h0
      · rfl
      · rfl
    have e2 : mset (mset (qR r) (nx r : Int) 1) (r : Int) 2 = q2 r := by
      rcases hroot with rfl | rfl | rfl
      · exact absurd rfl h0
      · rfl
      · rfl
    rw [e1, if_pos rfl, e2] at pf
    have pf : page_Store_Free.impl (10, lf, (n : Int), (r : Int)) (mset (qR r) (nx r : Int) 1) (12, false, lf, nxt af, kp, tn, ct) m [((nx r : Int), laidV (txt l0 i))] (r : Int) = some (0, q2 r) := pf
    rw [pf, Option.bind_some]
    exact keeps_commit h hi hn rfl rfl
end
theorem keeps_loop (l0 : List (List UInt8)) (l1 : List Ls) : ∀ s, (∃ i, KeI i s) → ∃ r, loop (law4_PageKeeps.st1 l0 l1) s = some r ∧ r = .inr () := by
  refine loop_inv (fun s => (1000 - s.2.2.2.2.2.2.2.2.2.2.2.2.2.2.2.2.2).toNat) ?_
  rintro s ⟨i, m, lf, af, kp, tn, ct, n, r, t, rfl, hn, hi, h⟩
  unfold law4_PageKeeps.st1
  simp only
  have fin : ∀ {x : Option (KeS ⊕ (Bool ⊕ Unit))} {i' : Nat}, (∃ s2, x = some (.inl s2) ∧ KeI (i + 1) s2) → ∃ s', x = some (.inl s') ∧ (∃ i, KeI i s') ∧ (1000 - s'.2.2.2.2.2.2.2.2.2.2.2.2.2.2.2.2.2).toNat < (1000 - (i : Int)).toNat := by
    rintro x _ ⟨s2, h1, h2⟩
    refine ⟨s2, h1, ⟨i + 1, h2⟩, ?_⟩
    obtain ⟨_, _, _, _, _, _, _, _, _, rfl, _, h12, _⟩ := h2
    simp only; omega
  by_cases h1 : (i : Int) < (l0.length : Int)
  · rw [ite_dt h1]
    by_cases h2 : (i : Int) < 12
    · rw [decide_eq_true h2]
      refine .inr (fin (i' := 0) ?_)
      unfold law4_PageKeeps.k4
      simp only [if_true]
      by_cases h3 : (i : Int) < (l1.length : Int)
      · rw [ite_dt h3, chk_true (by omega)]
        unfold disk_Disk_Arm.impl
        simp only [Bool.not_false, if_true, Option.bind_some]
        exact keeps_round h (by omega) (by omega) hn rfl
      · rw [ite_df h3]
        exact keeps_round h (by omega) (by omega) hn rfl
    · rw [decide_eq_false h2]
      exact .inl ⟨_, rfl, rfl⟩
  · rw [ite_df h1]
    exact .inl ⟨_, rfl, rfl⟩
theorem keeps_is (l0 : List (List UInt8)) (l1 : List Ls) : law4_PageKeeps.impl l0 l1 = some true := by
  unfold law4_PageKeeps.impl
  rw [New_is (by omega), Option.bind_some]
  simp only
  have ho : page_Open.impl (12, false, 0, 0, 0, 0, 0) [] [] = some (openV (rd [] [] 0) (rd [] [] 1) 12 0) := Open_is (b := 12) (by omega) (by simp)
  rw [ho, rd_new, rd_new, openV_new, Option.bind_some]
  simp only [decide_true, if_true]
  unfold law4_PageKeeps.k2
  simp only [Bool.false_eq_true, if_false]
  obtain ⟨r, hr, rfl⟩ := keeps_loop l0 l1 (12, [], [], false, 0, 0, 0, 0, 0, 10, [], 0, 0, 0, 0, 0, [], 0) ⟨0, [], 0, 0, 0, 0, 0, 0, 0, [], rfl, by omega, by omega, Kpt.start⟩
  have hr : loop (law4_PageKeeps.st1 l0 l1) (12, [], [], false, 0, 0, 0, 0, 0, ((12 - 2 : Nat) : Int), [], 0, 0, 0, 0, 0, [], 0) = some (.inr ()) := hr
  rw [hr, Option.bind_some]
  simp only
  unfold law4_PageKeeps.k3
  rw [told_is]; rfl
end Go.Proofs.Ytccifnjlfhdpiaa
