/- told, in plain terms. -/
import Derived.Test.YtccifnjlfhdpiaaStL
import Derived.Test.YtccifnjlfhdpiaaLawT
set_option linter.unusedVariables false
set_option linter.unusedSimpArgs false
namespace Go.Proofs.Ytccifnjlfhdpiaa
open Go Go.RowKit
theorem openV_1 {c0 c1 : List UInt8} {b n0 r0 n1 r1 : Nat} {lf : Int} (h0 : readH c0 b = ((n0, r0), true)) (h1 : readH c1 b = ((n1, r1), true)) (h : n0 < n1) (ho : n1 % 2 = 1) : openV c0 c1 b lf = (some ((((b - 2 : Nat) : Int), lf, (n1 : Int), (r1 : Int)), []), 0) := by
  unfold openV
  simp only [h0, h1, oneH]
  simp [h, ho]
theorem openV_0 {c0 c1 : List UInt8} {b n0 r0 n1 r1 : Nat} {lf : Int} (h0 : readH c0 b = ((n0, r0), true)) (h1 : readH c1 b = ((n1, r1), true)) (h : ¬ n0 < n1) (ho : n0 % 2 = 0) : openV c0 c1 b lf = (some ((((b - 2 : Nat) : Int), lf, (n0 : Int), (r0 : Int)), []), 0) := by
  unfold openV
  simp only [h0, h1, oneH]
  simp [h, ho]
theorem readH_headB {n r b : Nat} (hn : n ≤ 4611686018427387904) (hn0 : 0 < n) (hr : r ≠ 1 ∧ r < b) (hb : b ≤ 4096) : readH (headB n r) b = ((n, r), true) := readH_head hn hn0 hr hb
theorem one_full (q : Int) {l : List UInt8} (h : l.length = 8192) : Fulls [(q, l)] := ⟨fun w hw => by simp only [List.mem_singleton] at hw; rw [hw]; exact h, by simp⟩
theorem told_is : law4_told.impl = some true := by
  have l1 : (laidV [1]).length = 8192 := laidV_len (by decide)
  have l2 : (laidV [2]).length = 8192 := laidV_len (by decide)
  have l3 : (laidV [3]).length = 8192 := laidV_len (by decide)
  have hc : Fulls [(2, laidV [1]), (3, laidV [2])] := ⟨fun w hw => by
    simp only [List.mem_cons, List.not_mem_nil, or_false] at hw
    rcases hw with rfl | rfl
    · exact l1
    · exact l2, by simp⟩
  have hh := one_full ((1 : Nat) : Int) (headB_len 1 3)
  unfold law4_told.impl
  rw [New_is (by omega), Option.bind_some]
  simp only
  have ho : page_Open.impl (5, false, 0, 0, 0, 0, 0) [] [] = some (openV (rd [] [] 0) (rd [] [] 1) 5 0) := Open_is (b := 5) (by omega) (by simp)
  rw [ho, rd_new, rd_new, openV_new, Option.bind_some]
  simp only [decide_true, if_true]
  unfold law4_told.k2
  simp only [Bool.false_eq_true, if_false]
  have p1 := Put_no (m := []) (c := []) (b := 5) (lf := 0) (af := 0) (kp := 0) (tn := 0) (ct := 0) (n := 0) (r := 0) (q := []) (p := 3) (by omega) rfl (by simp) (l := [1]) (by decide) hit0
  have f1 : firstV [] 3 2 = 2 := rfl
  rw [f1, if_neg (by decide), nxt0] at p1
  have p1 : page_Store_Put.impl (((5 - 2 : Nat) : Int), 0, 0, 0) [] (5, false, 0, 0, 0, 0, 0) [] [] [1] = some (2, 0, [(2, 1)], (5, false, 0, 0, 0, 0, 0), [], [(2, laidV [1])]) := p1
  rw [p1, Option.bind_some]
  simp only
  have p2 := Put_no (m := []) (c := [(2, laidV [1])]) (b := 5) (lf := 0) (af := 0) (kp := 0) (tn := 0) (ct := 0) (n := 0) (r := 0) (q := [(2, 1)]) (p := 3) (by omega) rfl (by simp) (l := [2]) (by decide) hit0
  have f2 : firstV [(2, 1)] 3 2 = 3 := rfl
  rw [f2, if_neg (by decide), nxt0] at p2
  have p2 : page_Store_Put.impl (((5 - 2 : Nat) : Int), 0, 0, 0) [(2, 1)] (5, false, 0, 0, 0, 0, 0) [] [(2, laidV [1])] [2] = some (3, 0, [(2, 1), (3, 1)], (5, false, 0, 0, 0, 0, 0), [], [(2, laidV [1]), (3, laidV [2])]) := p2
  rw [p2, Option.bind_some]
  simp only
  have p3 := Commit_ok (m := []) (c := [(2, laidV [1]), (3, laidV [2])]) (b := 5) (lf := 0) (af := 0) (kp := 0) (tn := 0) (ct := 0) (p := 3) (q := [(2, 1), (3, 1)]) (n := 0) (r := 0) (a := 3) (by omega) hc (by omega) (.inr rfl) (by omega) hit0 (by rw [nxt0]; exact hit0) (by rw [nxt0, nxt0]; exact hit0)
  have s1 : settleV [(2, 1), (3, 1)] = [(2, 1), (3, 1)] := rfl
  rw [s1, nxt0, nxt0, nxt0] at p3
  have p3 : page_Store_Commit.impl (((5 - 2 : Nat) : Int), 0, 0, 0) [(2, 1), (3, 1)] (5, false, 0, 0, 0, 0, 0) [] [(2, laidV [1]), (3, laidV [2])] 3 = some (0, (3, 0, 1, 3), [(2, 1), (3, 1)], (5, false, 0, 0, 0, 0, 0), flushM (flushM [] [(2, laidV [1]), (3, laidV [2])]) [(((1 : Nat) : Int), headB 1 3)], []) := p3
  rw [p3, Option.bind_some]
  simp only
  have hr : ∀ q, rd (flushM (flushM [] [(2, laidV [1]), (3, laidV [2])]) [(((1 : Nat) : Int), headB 1 3)]) [] q = if q = 1 then headB 1 3 else if q = 3 then laidV [2] else if q = 2 then laidV [1] else zeros 8192 := fun q => by
    rw [rd_flush hh]
    have := rd_add (flushM [] [(2, laidV [1]), (3, laidV [2])]) [] ((1 : Nat) : Int) q (headB 1 3) (headB_len 1 3)
    rw [List.nil_append] at this
    rw [this, rd_flush hc]
    have := rd_add [] [(2, laidV [1])] 3 q (laidV [2]) l2
    rw [show [(2, laidV [1])] ++ [((3 : Int), laidV [2])] = [(2, laidV [1]), (3, laidV [2])] from rfl] at this
    rw [this]
    have := rd_add [] [] 2 q (laidV [1]) l1
    rw [List.nil_append] at this
    rw [this, rd_new]; rfl
  generalize flushM (flushM [] [(2, laidV [1]), (3, laidV [2])]) [(((1 : Nat) : Int), headB 1 3)] = M at hr ⊢
  have p4 := Free_is (m := M) (c := []) (b := 5) (lf := 0) (af := 0) (kp := 0) (tn := 0) (ct := 0) (n := 1) (r := 3) (p := 3) (q := [(2, 1), (3, 1)]) 2
  have p4 : page_Store_Free.impl (3, 0, 1, 3) [(2, 1), (3, 1)] (5, false, 0, 0, 0, 0, 0) M [] 2 = some (0, [(2, 2), (3, 1)]) := p4
  rw [p4, Option.bind_some]
  simp only
  have p5 := Put_no (m := M) (c := []) (b := 5) (lf := 0) (af := 0) (kp := 0) (tn := 0) (ct := 0) (n := 1) (r := 3) (q := [(2, 2), (3, 1)]) (p := 3) (by omega) rfl (by simp) (l := [3]) (by decide) hit0
  have f3 : firstV [(2, 2), (3, 1)] 3 2 = 4 := rfl
  rw [f3, if_neg (by decide), nxt0] at p5
  have p5 : page_Store_Put.impl (3, 0, 1, 3) [(2, 2), (3, 1)] (5, false, 0, 0, 0, 0, 0) M [] [3] = some (4, 0, [(2, 2), (3, 1), (4, 1)], (5, false, 0, 0, 0, 0, 0), M, [(4, laidV [3])]) := p5
  rw [p5, Option.bind_some]
  simp only
  have p6 := Put_no (m := M) (c := [(4, laidV [3])]) (b := 5) (lf := 0) (af := 0) (kp := 0) (tn := 0) (ct := 0) (n := 1) (r := 3) (q := [(2, 2), (3, 1), (4, 1)]) (p := 3) (by omega) rfl (by simp) (l := [4]) (by decide) hit0
  have f4 : firstV [(2, 2), (3, 1), (4, 1)] 3 2 = 0 := rfl
  rw [f4, if_pos rfl] at p6
  have p6 : page_Store_Put.impl (3, 0, 1, 3) [(2, 2), (3, 1), (4, 1)] (5, false, 0, 0, 0, 0, 0) M [(4, laidV [3])] [4] = some (0, 21, [(2, 2), (3, 1), (4, 1)], (5, false, 0, 0, 0, 0, 0), M, [(4, laidV [3])]) := p6
  rw [p6, Option.bind_some]
  simp only
  have hr' : ∀ q : Int, q ≠ 4 → rd M [(4, laidV [3])] q = if q = 1 then headB 1 3 else if q = 3 then laidV [2] else if q = 2 then laidV [1] else zeros 8192 := fun q hq => by
    have := rd_add M [] 4 q (laidV [3]) l3
    rw [List.nil_append] at this
    rw [this, if_neg hq, hr]
  have ho : page_Open.impl (5, false, 0, 0, 0, 0, 0) M [(4, laidV [3])] = some (openV (rd M [(4, laidV [3])] 0) (rd M [(4, laidV [3])] 1) 5 0) := Open_is (b := 5) (by omega) (by simp)
  rw [ho, hr' 0 (by decide), hr' 1 (by decide), if_neg (by decide), if_neg (by decide), if_neg (by decide), if_pos rfl, Option.bind_some, openV_1 (readH_zero 5) (readH_headB (by omega) (by omega) (by omega) (by omega)) (by omega) rfl]
  simp only
  have p7 : page_Store_Get.impl (3, 0, 1, 3) [(2, 2), (3, 1), (4, 1)] (5, false, 0, 0, 0, 0, 0) M [(4, laidV [3])] 3 = some (getV (rd M [(4, laidV [3])] 3)) := Get_is (b := 5) (p := 3) (by omega) rfl (by simp) (by omega)
  rw [p7, hr' 3 (by decide), if_neg (by decide), if_pos rfl, getV_laid (by decide), Option.bind_some]
  rfl
end Go.Proofs.Ytccifnjlfhdpiaa
