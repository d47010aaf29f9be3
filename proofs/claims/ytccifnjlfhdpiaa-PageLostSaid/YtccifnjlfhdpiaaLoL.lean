/- PageLost, in plain terms. -/
import Derived.Test.YtccifnjlfhdpiaaTdL
import Derived.Test.YtccifnjlfhdpiaaLawL
set_option linter.unusedVariables false
set_option linter.unusedSimpArgs false
namespace Go.Proofs.Ytccifnjlfhdpiaa
open Go Go.RowKit
theorem cut1_other (l : Ls) (i : Nat) (m : KM) (w : Int × List UInt8) (hw : w.2.length = 8192) {q : Int} (h : w.1 ≠ q) : blk (cut1 l i m w) q = blk m q := by
  unfold cut1
  split
  · rw [blk_over m w 8192 (by omega) hw, if_neg (Ne.symm h)]
  · split
    · rw [blk_over m w _ (cutN_le l) hw, if_neg (Ne.symm h)]
    · rfl
theorem cut_other (l : Ls) {q : Int} : ∀ (c : KM) (i : Nat) (m : KM), (∀ w ∈ c, w.2.length = 8192 ∧ w.1 ≠ q) → blk (cutM l i m c) q = blk m q
  | [], _, _, _ => rfl
  | w :: c, i, m, h => by
    rw [cutM, cut_other l c (i + 1) _ (fun v hv => h v (List.mem_cons_of_mem _ hv))]
    have := h w List.mem_cons_self
    exact cut1_other l i m w this.1 this.2
theorem lost_end {r7 : Rt} {m c : KM} {s5 : Int × KM × KM × Bool × Int × Int × Int × Int × Int × Int × MI2 × Int × Int × Int × Bool} (h7 : r7 = (20, false, 1, 0, 0, 0, 0)) (hm : s5.2.1 = m) (hc : s5.2.2.1 = []) (h0 : blk m 0 = zeros 8192) (h1 : blk m 1 = zeros 8192) :
    law4_PageLost.k6 r7 s5 false = some true := by
  unfold law4_PageLost.k6
  subst h7
  rw [hm, hc]
  simp only [Bool.false_eq_true, if_false]
  have ho : page_Open.impl (20, false, 1, 0, 0, 0, 0) m [] = some (openV (rd m [] 0) (rd m [] 1) 20 1) := Open_is (b := 20) (by omega) (by simp)
  rw [ho, rd_nil, rd_nil, h0, h1, openV_new, Option.bind_some]
  simp only [told_is, Option.bind_some]
  rfl
theorem lost_k4 {c : KM} (hc : Fulls c) (h2 : ∀ w ∈ c, 2 ≤ w.1) (q : MI2) (l : Ls) : law4_PageLost.k4 (20, [], c, false, 0, 0, 0, 0, 0, q) ((18, 0, 0, 0), []) l = some true := by
  unfold law4_PageLost.k4
  simp only
  rw [Cut_is hc, Option.bind_some]
  have hb : ∀ q : Int, q < 2 → blk (cutM l 0 [] c) q = zeros 8192 := fun q hq => by
    rw [cut_other l c 0 [] (fun w hw => ⟨hc.1 w hw, by have := h2 w hw; omega⟩), ← rd_nil, rd_new]
  have h0 := hb 0 (by decide)
  have h1 := hb 1 (by decide)
  generalize cutM l 0 [] c = M at h0 h1 ⊢
  have e : IntKind.i64.wrap (0 + 1) = 1 := by decide
  simp only [e]
  have p1 : page_Store_Put.impl (18, 0, 0, 0) q (20, true, 1, 0, 0, 0, 0) M [] [] = some (0, 20, q, (20, true, 1, 0, 0, 0, 0), M, []) := Put_dead (p := 18) (b := 20) (by omega) []
  rw [p1, Option.bind_some]
  simp only
  have p2 : page_Store_Get.impl (18, 0, 0, 0) q (20, true, 1, 0, 0, 0, 0) M [] 2 = some ([], 20) := Get_down (b := 20) 2
  rw [p2, Option.bind_some]
  simp only [decide_true, if_true]
  have p3 : page_Store_Commit.impl (18, 0, 0, 0) q (20, true, 1, 0, 0, 0, 0) M [] 0 = some (20, (18, 0, 0, 0), q, (20, true, 1, 0, 0, 0, 0), M, []) := Commit_down (b := 20)
  rw [p3, Option.bind_some]
  simp only [decide_true, if_true]
  have p4 : page_Store_Free.impl (18, 0, 0, 0) q (20, true, 1, 0, 0, 0, 0) M [] 2 = some (20, q) := Free_down (b := 20) 2
  rw [p4, Option.bind_some]
  simp only [decide_true, if_true]
  have pd : page_Store_Dead.impl (18, 0, 0, 0) q (20, true, 1, 0, 0, 0, 0) M [] = some true := Dead_down (b := 20)
  have p5 : page_Store_Hold.impl (18, 0, 0, 0) q (20, true, 1, 0, 0, 0, 0) M [] [2] = some (20, q) := by
    unfold page_Store_Hold.impl
    simp only
    rw [pd]; rfl
  rw [p5, Option.bind_some]
  simp only [decide_true, if_true]
  rw [pd, Option.bind_some]
  unfold law4_PageLost.k5
  simp only [Bool.not_true, Bool.false_eq_true, if_false]
  have po : page_Open.impl (20, true, 1, 0, 0, 0, 0) M [] = some (none, 20) := Open_down (b := 20) (by omega)
  rw [po, Option.bind_some]
  simp only
  rw [Restart_is, Option.bind_some]
  have pd : page_Store_Dead.impl (18, 0, 0, 0) q (20, false, 1, 0, 0, 0, 0) M [] = some true := Dead_old (b := 20) (by decide)
  simp only
  rw [pd, Option.bind_some]
  simp only [decide_true, if_true, Bool.not_true]
  exact lost_end (m := M) (c := []) rfl rfl rfl h0 h1
abbrev LoS := Int × KM × KM × Bool × Int × Int × Int × Int × Int × MI2 × Int
def LoI (s : LoS) : Prop := ∃ c q, ∃ i : Nat, s = (20, [], c, false, 0, 0, 0, 0, 0, q, (i : Int)) ∧ i ≤ 10 ∧ c.length ≤ i ∧ Fulls c ∧ ∀ w ∈ c, 2 ≤ w.1
theorem lost_loop (l0 : List (List UInt8)) : ∀ s, LoI s → ∃ r, loop (law4_PageLost.st1 l0 ((18, 0, 0, 0), [])) s = some r ∧ ∃ c q, r = (20, [], c, false, 0, 0, 0, 0, 0, q) ∧ Fulls c ∧ ∀ w ∈ c, 2 ≤ w.1 := by
  refine loop_inv (fun s => (10 - s.2.2.2.2.2.2.2.2.2.2).toNat) ?_
  rintro s ⟨c, q, i, rfl, hi, hl, hc, h2⟩
  unfold law4_PageLost.st1
  simp only
  have stop : law4_PageLost.k8 (20, [], c, false, 0, 0, 0, 0, 0, q, (i : Int)) l0 ((18, 0, 0, 0), []) false = some (.inr (20, [], c, false, 0, 0, 0, 0, 0, q)) := rfl
  by_cases h1 : (i : Int) < (l0.length : Int)
  · rw [ite_dt h1]
    by_cases h3 : (i : Int) < 10
    · rw [decide_eq_true h3]
      refine .inr ?_
      unfold law4_PageLost.k8
      simp only [if_true]
      rw [chk_true (by omega), chk_true (by omega), chk_true (by omega)]
      have ht : (subl (l0.getD ((i : Int)).toNat default) 0 (min ((l0.getD ((i : Int)).toNat default).length : Int) 100)).length ≤ 100 := by
        rw [subl_length (by omega) (by omega) (by omega)]; omega
      generalize subl (l0.getD ((i : Int)).toNat default) 0 (min ((l0.getD ((i : Int)).toNat default).length : Int) 100) = t at ht ⊢
      have p := Put_no (m := []) (c := c) (b := 20) (lf := 0) (af := 0) (kp := 0) (tn := 0) (ct := 0) (n := 0) (r := 0) (q := q) (p := 18) (by omega) rfl (by omega) (l := t) (by omega) hit0
      rw [nxt0] at p
      have p : page_Store_Put.impl (18, 0, 0, 0) q (20, false, 0, 0, 0, 0, 0) [] c t = _ := p
      rw [p, Option.bind_some, i64_id (n := (i : Int) + 1) (by omega)]
      by_cases h0 : firstV q 18 2 = 0
      · rw [if_pos h0]
        exact ⟨_, rfl, ⟨c, q, i + 1, rfl, by omega, by omega, hc, h2⟩, by simp only; omega⟩
      · rw [if_neg h0]
        obtain ⟨k, e, k1, k2, _⟩ := (firstV_in q 18 2).resolve_left h0
        have hw := laidV_len (b := t) (by omega)
        refine ⟨_, rfl, ⟨c ++ [(firstV q 18 2, laidV t)], mset q (firstV q 18 2) 1, i + 1, rfl, by omega, by simp; omega, ?_, fun w hw => ?_⟩, by simp only; omega⟩
        · have := hc.add (by omega) (firstV q 18 2) (laidV t)
          rw [whole_full hw] at this; exact this
        · rcases List.mem_append.1 hw with hw | hw
          · exact h2 w hw
          · simp only [List.mem_singleton] at hw
            rw [hw, e]; simp only; omega
    · rw [decide_eq_false h3, stop]
      exact .inl ⟨_, rfl, c, q, rfl, hc, h2⟩
  · rw [ite_df h1, stop]
    exact .inl ⟨_, rfl, c, q, rfl, hc, h2⟩
theorem lost_is (l0 : List (List UInt8)) (l1 : List (Int × Int × List UInt8 × Ls)) : law4_PageLost.impl l0 l1 = some true := by
  unfold law4_PageLost.impl
  rw [New_is (by omega), Option.bind_some]
  simp only
  have ho : page_Open.impl (20, false, 0, 0, 0, 0, 0) [] [] = some (openV (rd [] [] 0) (rd [] [] 1) 20 0) := Open_is (b := 20) (by omega) (by simp)
  rw [ho, rd_new, rd_new, openV_new, Option.bind_some]
  simp only [decide_true, if_true]
  unfold law4_PageLost.k2
  simp only [Bool.false_eq_true, if_false]
  obtain ⟨r, hr, c, q, rfl, hc, h2⟩ := lost_loop l0 (20, [], [], false, 0, 0, 0, 0, 0, [], 0) ⟨[], [], 0, rfl, by omega, by simp, Fulls.nil, by simp⟩
  have hr : loop (law4_PageLost.st1 l0 ((((20 - 2 : Nat) : Int), 0, 0, 0), [])) (20, [], [], false, 0, 0, 0, 0, 0, [], 0) = some (20, [], c, false, 0, 0, 0, 0, 0, q) := hr
  rw [hr, Option.bind_some]
  unfold law4_PageLost.k3
  have k : ∀ l, law4_PageLost.k4 (20, [], c, false, 0, 0, 0, 0, 0, q) ((((20 - 2 : Nat) : Int), 0, 0, 0), []) l = some true := fun l => lost_k4 hc h2 q l
  by_cases h : 0 < (l1.length : Int)
  · rw [ite_dt h, chk_true (by omega), k]
  · rw [ite_df h, k]
end Go.Proofs.Ytccifnjlfhdpiaa
