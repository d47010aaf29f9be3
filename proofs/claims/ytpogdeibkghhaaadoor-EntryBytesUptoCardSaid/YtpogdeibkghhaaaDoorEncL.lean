/- What Encode writes, in plain terms. -/
import Derived.Test.YtpogdeibkghhaaaDoorEntEL
set_option linter.unusedVariables false
set_option linter.unusedSimpArgs false
namespace Go.Proofs.YtpogdeibkghhaaaDoor
open Go Go.RowKit Go.Lib
def encM (c : Cmd) : List UInt8 := [u8 c.1] ++ uint c.2.1.toNat ++ [u8 (c.2.2.length : Int)] ++ c.2.2.flatMap encO
/-- An entry's bytes. -/
def encE (e : Ent) : List UInt8 := [u8 e.1, u8 e.2.1] ++ uint e.2.2.2.toNat ++ e.2.2.1.flatMap encM
theorem opsR_all {l : List Op} (h : opsR l = true) : l.length ≤ 3 ∧ ∀ o ∈ l, opR o = true := by
  unfold opsR at h
  simp only [Bool.and_eq_true, decide_eq_true_eq, Bool.not_eq_true', List.any_eq_false, Bool.not_eq_false'] at h
  exact ⟨h.1, fun o ho => by simpa using h.2 o ho⟩
theorem flatO_len {l : List Op} (hb : ∀ o ∈ l, BndO o) (h : ∀ o ∈ l, opR o = true) : (l.flatMap encO).length ≤ 300 * l.length := by
  induction l with
  | nil => simp
  | cons o l ih =>
    have h1 := (op_is (hb o (by simp)) (h o (by simp))).2
    have h2 := ih (fun x hx => hb x (by simp [hx])) (fun x hx => h x (by simp [hx]))
    rw [List.flatMap_cons, List.length_append, List.length_cons]; omega
theorem enc_ops {e : Ent} {i : Nat} {c : Cmd} (hc : e.2.2.1.getD i default = c) (hB : BndC c) (hR : ∀ o ∈ c.2.2, opR o = true) (h3 : c.2.2.length ≤ 3) {s : List UInt8 × Int} (hs : s.2 = (i : Int)) :
    ∀ (n j : Nat) (acc : List UInt8), j + n = c.2.2.length → acc.length ≤ 100000 + 300 * j → loop (entry_Encode.st2 e s) (acc, (j : Int)) = some (acc ++ (c.2.2.drop j).flatMap encO)
  | 0, j, acc, hj, ha => by
    rw [List.drop_of_length_le (by omega)]
    rw [loop_last (r := acc) (by unfold entry_Encode.st2; simp only [hs, Int.toNat_natCast, hc]; rw [ite_df (by omega)])]
    simp
  | n + 1, j, acc, hj, ha => by
    have hlt : j < c.2.2.length := by omega
    obtain ⟨h1, h2⟩ := op_is (hB _ (List.getElem_mem hlt)) (hR _ (List.getElem_mem hlt))
    have hd := getD_el hlt
    have hst : entry_Encode.st2 e s (acc, (j : Int)) = some (.inl (acc ++ encO c.2.2[j], ((j + 1 : Nat) : Int))) := by
      unfold entry_Encode.st2
      simp only [hs, Int.toNat_natCast, hc]
      rw [ite_dt (by omega), chk_pos (by omega)]
      simp only [hd]
      first | erw [h1] | simp only [h1]
      simp only [Option.bind_some]
      rw [chk_pos (by omega), i64_id (by omega)]; rfl
    rw [loop_more hst, enc_ops hc hB hR h3 hs n (j + 1) _ (by omega) (by rw [List.length_append]; omega), List.drop_eq_getElem_cons hlt, List.flatMap_cons, List.append_assoc]
theorem cmd_f {c : Cmd} (h : commandP c = true) : ((0 ≤ c.1 ∧ c.1 < 8) ∧ 1 ≤ c.2.1 ∧ c.2.1 ≤ 2147483647) ∧ c.2.2.length ≤ 3 ∧ ∀ o ∈ c.2.2, opR o = true := by
  unfold commandP at h
  simp only [Bool.and_eq_true, decide_eq_true_eq] at h
  exact ⟨h.1, opsR_all h.2⟩
theorem ulen5 {q : Nat} (h : q < 2147483648) : (uint q).length ≤ 5 := by
  have := hi_len (n := q / 128) 4 (by omega)
  rw [uint_len]; omega
theorem encM_len {c : Cmd} (hB : BndC c) (h : commandP c = true) : (encM c).length ≤ 907 := by
  obtain ⟨⟨h1, h2, h2'⟩, h3, h4⟩ := cmd_f h
  have h5 := flatO_len hB h4
  have h6 := ulen5 (q := c.2.1.toNat) (by omega)
  unfold encM
  simp only [List.length_append, List.length_singleton]; omega
theorem enc_cmds {e : Ent} (hB : BndE e) (hl : e.2.2.1.length ≤ 3) (hR : ∀ c ∈ e.2.2.1, commandP c = true) :
    ∀ (n i : Nat) (acc : List UInt8), i + n = e.2.2.1.length → acc.length ≤ 100 + 907 * i → loop (entry_Encode.st1 e) (acc, (i : Int)) = some (acc ++ (e.2.2.1.drop i).flatMap encM)
  | 0, i, acc, hi, ha => by
    rw [List.drop_of_length_le (by omega)]
    rw [loop_last (r := acc) (by unfold entry_Encode.st1; rw [ite_df (by simp only []; omega)])]
    simp
  | n + 1, i, acc, hi, ha => by
    have hlt : i < e.2.2.1.length := by omega
    have hm := List.getElem_mem hlt
    obtain ⟨c, hc⟩ : ∃ c, e.2.2.1[i] = c := ⟨_, rfl⟩
    rw [hc] at hm
    have hd : e.2.2.1.getD i default = c := by rw [getD_el hlt, hc]
    obtain ⟨⟨h1, h2, h2'⟩, h3, h4⟩ := cmd_f (hR c hm)
    obtain ⟨q, hq⟩ := Int.eq_ofNat_of_zero_le (show 0 ≤ c.2.1 by omega)
    have lq := ulen5 (q := q) (by omega)
    have hst : entry_Encode.st1 e (acc, (i : Int)) = some (.inl (acc ++ encM c, ((i + 1 : Nat) : Int))) := by
      unfold entry_Encode.st1
      rw [ite_dt (by simp only []; omega)]
      simp only [Int.toNat_natCast, hd]
      rw [chk_pos (by omega), chk_pos (by simp only [List.length_singleton]; omega), hq, Uint_is (by omega)]
      simp only [Option.bind_some]
      rw [chk_pos (by simp only [List.length_append, List.length_singleton]; omega), chk_pos (by simp only [List.length_append, List.length_singleton]; omega), u8_id (by omega), u8_id (by omega)]
      have lp := enc_ops (s := (acc, (i : Int))) hd (hB c hm) h4 h3 rfl c.2.2.length 0 (acc ++ [u8 c.1] ++ uint q ++ [u8 (c.2.2.length : Int)]) (by omega) (by simp only [List.length_append, List.length_singleton]; omega)
      rw [show (((0 : Nat) : Int)) = (0 : Int) from rfl] at lp
      rw [lp]
      simp only [Option.bind_some, List.drop_zero]
      unfold entry_Encode.k3
      rw [i64_id (by simp only []; omega)]
      unfold encM
      rw [hq]
      simp
    rw [loop_more hst, enc_cmds hB hl hR n (i + 1) _ (by omega) (by have := encM_len (hB c hm) (hR c hm); rw [List.length_append]; omega), List.drop_eq_getElem_cons hlt, List.flatMap_cons, List.append_assoc, hc]
theorem ent_f {e : Ent} (h : entR e = true) : (1 ≤ e.1 ∧ e.1 ≤ 5) ∧ (0 ≤ e.2.1 ∧ e.2.1 < 4) ∧ (0 ≤ e.2.2.2 ∧ e.2.2.2 ≤ 2147483647) ∧ e.2.2.1.length ≤ 3 ∧ ∀ c ∈ e.2.2.1, commandP c = true := by
  unfold entR at h
  simp only [Bool.and_eq_true, decide_eq_true_eq] at h
  obtain ⟨⟨h1, ⟨h2, h2b⟩, h3, h4⟩, h5⟩ := h
  have hk : 1 ≤ e.1 ∧ e.1 ≤ 5 ∧ 0 ≤ (lims e.1).1 ∧ (lims e.1).2.1 ≤ 2147483647 := by
    unfold lims at h1 ⊢
    by_cases g1 : e.1 = 1
    · simp [g1]
    by_cases g2 : e.1 = 2
    · simp [g2]
    by_cases g3 : e.1 = 3
    · simp [g3]
    by_cases g4 : e.1 = 4
    · simp [g4]
    by_cases g5 : e.1 = 5
    · simp [g5]
    simp [g1, g2, g3, g4, g5] at h1
  have hc : e.2.2.1.length ≤ 3 ∧ ∀ c ∈ e.2.2.1, commandP c = true := by
    by_cases g : e.1 = 1
    · rw [if_pos g] at h5
      simp only [Bool.and_eq_true, decide_eq_true_eq, Bool.not_eq_true', List.any_eq_false, Bool.not_eq_false'] at h5
      exact ⟨h5.1.2, fun c hc => by simpa using h5.2 c hc⟩
    · rw [if_neg g] at h5
      simp only [decide_eq_true_eq] at h5
      have := List.eq_nil_of_length_eq_zero h5
      exact ⟨by omega, fun c hc => by rw [this] at hc; cases hc⟩
  exact ⟨⟨hk.1, hk.2.1⟩, ⟨h2, h2b⟩, ⟨by omega, by omega⟩, hc⟩
theorem Enc_e {e : Ent} (hB : BndE e) : entry_Encode.impl e = some (if entR e = true then (encE e, 0) else ([], 1)) := by
  unfold entry_Encode.impl
  have hR := Right_e hB
  first | rw [hR] | erw [hR]
  simp only [Option.bind_some]
  cases h : entR e with
  | false => simp
  | true =>
    obtain ⟨h1, h2, h3, h4, h5⟩ := ent_f h
    obtain ⟨q, hq⟩ := Int.eq_ofNat_of_zero_le h3.1
    have lq := ulen5 (q := q) (by omega)
    simp only [Bool.not_true, Bool.false_eq_true, if_false, if_true]
    rw [hq, Uint_is (by omega)]
    simp only [Option.bind_some]
    rw [chk_pos (by simp; omega), u8_id (by omega), u8_id (by omega)]
    unfold entry_Encode.k1
    have lp := enc_cmds hB h4 h5 e.2.2.1.length 0 ([u8 e.1, u8 e.2.1] ++ uint q) (by omega) (by simp; omega)
    rw [show (((0 : Nat) : Int)) = (0 : Int) from rfl] at lp
    rw [lp]
    simp only [Option.bind_some, List.drop_zero]
    unfold entry_Encode.k2 encE
    rw [hq]; simp
end Go.Proofs.YtpogdeibkghhaaaDoor
