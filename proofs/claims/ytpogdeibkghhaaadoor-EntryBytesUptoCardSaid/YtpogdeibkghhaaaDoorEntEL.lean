/- Entries that may be, and their bytes, in plain terms. -/
import Derived.Test.YtpogdeibkghhaaaDoorTxnL
import Derived.Test.YtpogdeibkghhaaaDoorWirL
set_option linter.unusedVariables false
set_option linter.unusedSimpArgs false
namespace Go.Proofs.YtpogdeibkghhaaaDoor
open Go Go.RowKit Go.Lib
abbrev Cmd := Int × Int × List Op
abbrev Ent := Int × Int × List Cmd × Int
def BndC (c : Cmd) : Prop := ∀ o ∈ c.2.2, BndO o
def BndE (e : Ent) : Prop := ∀ c ∈ e.2.2.1, BndC c
def commandP (c : Cmd) : Bool := decide ((0 ≤ c.1 ∧ c.1 < 8) ∧ 1 ≤ c.2.1 ∧ c.2.1 ≤ 2147483647) && opsR c.2.2
theorem command_is {c : Cmd} (h : BndC c) : entry_command.impl c = some (commandP c) := by
  unfold entry_command.impl commandP
  rw [Right_ops h]
  by_cases h1 : 0 ≤ c.1 <;> by_cases h2 : c.1 < 8 <;> by_cases h3 : 1 ≤ c.2.1 <;> by_cases h4 : c.2.1 ≤ 2147483647 <;> simp [h1, h2, h3, h4]
def lims (k : Int) : Int × Int × Bool := if k = 1 then (0, 0, true) else if k = 2 ∨ k = 4 then (0, 2147483647, true) else if k = 3 then (1, 1048576, true) else if k = 5 then (1, 2, true) else (0, 0, false)
theorem bounds_is (k : Int) : entry_bounds.impl k = some (lims k) := by
  unfold entry_bounds.impl entry_bounds.k1 lims
  by_cases h1 : k = 1
  · simp [h1]
  · by_cases h2 : k = 2
    · simp [h2]
    · by_cases h4 : k = 4
      · simp [h4]
      · by_cases h3 : k = 3
        · simp [h3]
        · by_cases h5 : k = 5 <;> simp [h1, h2, h3, h4, h5]
theorem containsC2 {l : List Cmd} (hl : l.length ≤ 4194304) (hf : ∀ c ∈ l, BndC c) : slices_ContainsFunc_api_Command_api_Command__entry_Right_1.impl l = some (l.any fun c => !commandP c) := by
  unfold slices_ContainsFunc_api_Command_api_Command__entry_Right_1.impl slices_IndexFunc_api_Command_api_Command__entry_Right_1.impl
  obtain ⟨q, hq⟩ := loop_find (step := slices_IndexFunc_api_Command_api_Command__entry_Right_1.st1 l) (n := l.length) (p := fun j => !commandP (l.getD j default)) (fun i hi => by
    have w : IntKind.i64.wrap ((i : Int) + 1) = ((i + 1 : Nat) : Int) := by rw [i64_id (by omega)]; omega
    have hm := hf _ (List.getElem_mem hi)
    rw [← getD_el hi] at hm
    unfold slices_IndexFunc_api_Command_api_Command__entry_Right_1.st1 entry_Right_1.impl
    simp only [Int.toNat_natCast, w]
    rw [ite_dt (by omega), chk_pos (by omega)]
    have := command_is hm
    first | erw [this] | simp only [this]
    simp only [Option.bind_some]) (by
    unfold slices_IndexFunc_api_Command_api_Command__entry_Right_1.st1
    rw [ite_df (by omega)])
  rw [any_range l (fun c => !commandP c)] at hq
  rw [hq]
  cases h : l.any fun c => !commandP c with
  | true => simp
  | false => rfl
/-- Which entries may be. -/
def entR (e : Ent) : Bool := (lims e.1).2.2 && decide ((0 ≤ e.2.1 ∧ e.2.1 < 4) ∧ (lims e.1).1 ≤ e.2.2.2 ∧ e.2.2.2 ≤ (lims e.1).2.1) && (if e.1 = 1 then decide (1 ≤ e.2.2.1.length ∧ e.2.2.1.length ≤ 3) && !(e.2.2.1.any fun c => !commandP c) else decide (e.2.2.1.length = 0))
theorem Right_e {e : Ent} (h : BndE e) : entry_Right.impl e = some (entR e) := by
  have key : entry_Right.k1 e true = some false := by unfold entry_Right.k1; simp only [if_true]
  unfold entry_Right.impl entR
  rw [bounds_is]
  simp only [Option.bind_some]
  cases hb : (lims e.1).2.2 with
  | false => simp [key]
  | true =>
    simp only [if_true, Bool.true_and]
    by_cases h1 : e.2.1 < 0
    · rw [ite_dt h1, key, decide_eq_false (by omega)]; rfl
    rw [ite_df h1]
    by_cases h2 : 4 ≤ e.2.1
    · rw [ite_dt h2, key, decide_eq_false (by omega)]; rfl
    rw [ite_df h2]
    by_cases h3 : e.2.2.2 < (lims e.1).1
    · rw [ite_dt h3, key, decide_eq_false (by omega)]; rfl
    rw [ite_df h3]
    by_cases h4 : (lims e.1).2.1 < e.2.2.2
    · rw [decide_eq_true h4, key, decide_eq_false (by omega)]; rfl
    rw [decide_eq_false h4, decide_eq_true (show (0 ≤ e.2.1 ∧ e.2.1 < 4) ∧ (lims e.1).1 ≤ e.2.2.2 ∧ e.2.2.2 ≤ (lims e.1).2.1 by omega), Bool.true_and]
    unfold entry_Right.k1
    simp only [Bool.false_eq_true, if_false]
    by_cases h5 : e.1 = 1
    · rw [ite_nt h5, if_pos h5]
      by_cases h6 : 1 ≤ e.2.2.1.length
      · rw [ite_dt (by omega)]
        by_cases h7 : e.2.2.1.length ≤ 3
        · rw [ite_dt (by omega), containsC2 (by omega) h, decide_eq_true ⟨h6, h7⟩]; rfl
        · rw [ite_df (by omega), decide_eq_false (by omega)]; rfl
      · rw [ite_df (by omega), decide_eq_false (by omega)]; rfl
    · rw [ite_nf h5, if_neg h5]
      congr 1
      exact decide_eq_decide.2 (by omega)
def encB (s : List UInt8) : List UInt8 := uint s.length ++ s
theorem valP_small {v : Vl} (h : valP v = true) : smallV v = true := by
  unfold valP at h; unfold smallV
  simp only [Bool.and_eq_true, decide_eq_true_eq] at h
  simp [h.1, h.2]
theorem eval_is {v : Vl} (hf : Fits v) (h : valP v = true) : entry_value.impl v = some (encB (kb v)) := by
  have hs := valP_small h
  unfold entry_value.impl
  have h1 := small_len hs
  rw [Key_is (by simp) (fun x hx => by rw [List.mem_singleton.1 hx]; exact hf), keyL_ok (fun x hx => by rw [List.mem_singleton.1 hx]; exact small_right hs)]
  simp only [Option.bind_some, List.flatMap_cons, List.flatMap_nil, List.append_nil]
  rw [Bytes_is (by omega)]; rfl
def restO (o : Op) : List UInt8 := if o.1 = 1 then encB (encS o.2.2.1) else if o.1 = 2 ∨ o.1 = 3 then encB (o.2.2.2.1.flatMap kb) else if o.1 = 4 ∨ o.1 = 5 then encB (kb o.2.2.2.2.1) else encB (kb o.2.2.2.2.2.2.1) ++ encB (kb o.2.2.2.2.2.2.2.1) ++ [u8 o.2.2.2.2.2.1, u8 o.2.2.2.2.2.2.2.2]
/-- An operation's bytes. -/
def encO (o : Op) : List UInt8 := [u8 o.1] ++ encB o.2.1 ++ restO o
theorem encB_len {s : List UInt8} {n : Nat} (h : s.length ≤ n) (hn : n ≤ 4194304) : (encB s).length ≤ n + 9 := by
  have := uint_le (n := s.length) (by omega)
  unfold encB; rw [List.length_append]; omega
theorem sameB_name {a b : Op} (h : sameB a b = true) : a.2.1 = b.2.1 := by
  unfold sameB at h
  simp only [Bool.and_eq_true, decide_eq_true_eq] at h
  exact h.2.1
structure OpF (o : Op) : Prop where
  name : o.2.1.length ≤ 8
  k1 : o.1 = 1 → rightS o.2.2.1 = true
  row : o.1 ≠ 1 → rowE o.2.2.2.1 = 0
  key : o.1 ≠ 1 → valP o.2.2.2.2.1 = true
  lo : o.1 ≠ 1 → valP o.2.2.2.2.2.2.1 = true
  hi : o.1 ≠ 1 → valP o.2.2.2.2.2.2.2.1 = true
  scan : o.1 = 6 → scanP o = true
theorem opR_f {o : Op} (h : opR o = true) : OpF o := by
  unfold opR at h
  simp only [Bool.and_eq_true] at h
  obtain ⟨⟨h1, h2⟩, h3⟩ := h
  by_cases g : o.1 = 1
  · rw [if_pos g] at h3
    have hn := sameB_name h2
    have : (bareO o).1.2.1 = [] := by unfold bareO; rw [if_pos g]
    rw [this] at hn
    exact ⟨by rw [hn]; simp, fun _ => h3, fun x => absurd g x, fun x => absurd g x, fun x => absurd g x, fun x => absurd g x, fun x => by omega⟩
  · rw [if_neg g] at h3
    simp only [Bool.and_eq_true, decide_eq_true_eq, Bool.not_eq_true', List.any_eq_false, Bool.not_eq_false'] at h3
    obtain ⟨⟨⟨⟨⟨⟨a1, a2⟩, a3⟩, a4⟩, a5⟩, a6⟩, a7⟩ := h3
    refine ⟨(name_len a1).2, fun x => absurd x g, fun _ => ?_, fun _ => a3, fun _ => a4, fun _ => a5, fun x => by simpa [x] using a6⟩
    unfold rowE
    rw [if_pos a2, if_pos (List.all_eq_true.2 fun v hv => valP_small (by simpa using a7 v hv))]
theorem op_is {o : Op} (hb : BndO o) (h : opR o = true) : entry_op.impl o = some (encO o) ∧ (encO o).length ≤ 300 := by
  have hf := opR_f h
  have hk := opR_kind h
  have l0 := encB_len hf.name (by omega)
  have e0 := Bytes_is (s := o.2.1) (by have := hf.name; omega)
  have w : ∀ k : Int, 0 ≤ k ∧ k < 256 → IntKind.u8.wrap k = k := fun k h => u8_id h
  have lb : (uint o.2.1.length ++ o.2.1).length ≤ 8 + 9 := l0
  have row : ∀ g : o.1 ≠ 1, (row_len (hf.row g) : (o.2.2.2.1.flatMap kb).length ≤ 120) = row_len (hf.row g) := fun _ => rfl
  rcases hk with g | g | g | g | g | g
  · have hs := hf.k1 g
    have l1 := encS_len hs
    have l2 := encB_len l1 (by omega)
    have hr : restO o = encB (encS o.2.2.1) := by unfold restO; rw [if_pos g]
    have hE : encO o = [u8 o.1] ++ (uint o.2.1.length ++ o.2.1) ++ encB (encS o.2.2.1) := by unfold encO; rw [hr]; rfl
    refine ⟨?_, by rw [hE]; simp only [List.length_append, List.length_singleton] at lb ⊢; omega⟩
    unfold entry_op.impl
    rw [ite_dt g]
    simp only [entry_inside_k1.impl, Option.bind_some, e0]
    rw [chk_pos (by simp only [List.length_singleton]; omega)]
    unfold entry_op.k1
    rw [Encode_is hb.sch, if_pos hs]
    simp only [Option.bind_some]
    rw [Bytes_is (by omega)]
    simp only [Option.bind_some]
    have l2' : (uint (encS o.2.2.1).length ++ encS o.2.2.1).length ≤ 80 + 9 := l2
    rw [chk_pos (by simp only [List.length_append, List.length_singleton] at lb l2' ⊢; omega), hE, w _ (by omega)]; rfl
  · have l1 := row_len (hf.row (by omega))
    have l2 := encB_len l1 (by omega)
    have hr : restO o = encB (o.2.2.2.1.flatMap kb) := by unfold restO; rw [if_neg (by omega), if_pos (by omega)]
    have hE : encO o = [u8 o.1] ++ (uint o.2.1.length ++ o.2.1) ++ encB (o.2.2.2.1.flatMap kb) := by unfold encO; rw [hr]; rfl
    refine ⟨?_, by rw [hE]; simp only [List.length_append, List.length_singleton] at lb ⊢; omega⟩
    unfold entry_op.impl
    rw [ite_df (by omega), ite_dt g]
    simp only [entry_inside_k2.impl, Option.bind_some, e0]
    rw [chk_pos (by simp only [List.length_singleton]; omega)]
    unfold entry_op.k2
    rw [EncodeRow_is hb.row, if_pos (hf.row (by omega))]
    simp only [Option.bind_some]
    rw [Bytes_is (by omega)]
    simp only [Option.bind_some]
    have l2' : (uint (o.2.2.2.1.flatMap kb).length ++ o.2.2.2.1.flatMap kb).length ≤ 120 + 9 := l2
    rw [chk_pos (by simp only [List.length_append, List.length_singleton] at lb l2' ⊢; omega), hE, w _ (by omega)]; rfl
  · have l1 := row_len (hf.row (by omega))
    have l2 := encB_len l1 (by omega)
    have hr : restO o = encB (o.2.2.2.1.flatMap kb) := by unfold restO; rw [if_neg (by omega), if_pos (by omega)]
    have hE : encO o = [u8 o.1] ++ (uint o.2.1.length ++ o.2.1) ++ encB (o.2.2.2.1.flatMap kb) := by unfold encO; rw [hr]; rfl
    refine ⟨?_, by rw [hE]; simp only [List.length_append, List.length_singleton] at lb ⊢; omega⟩
    unfold entry_op.impl
    rw [ite_df (by omega), ite_df (by omega), ite_dt g]
    simp only [entry_inside_k3.impl, Option.bind_some, e0]
    rw [chk_pos (by simp only [List.length_singleton]; omega)]
    unfold entry_op.k3
    rw [EncodeRow_is hb.row, if_pos (hf.row (by omega))]
    simp only [Option.bind_some]
    rw [Bytes_is (by omega)]
    simp only [Option.bind_some]
    have l2' : (uint (o.2.2.2.1.flatMap kb).length ++ o.2.2.2.1.flatMap kb).length ≤ 120 + 9 := l2
    rw [chk_pos (by simp only [List.length_append, List.length_singleton] at lb l2' ⊢; omega), hE, w _ (by omega)]; rfl
  · have hv := hf.key (by omega)
    have l2 := encB_len (small_len (valP_small hv)) (by omega)
    have hr : restO o = encB (kb o.2.2.2.2.1) := by unfold restO; rw [if_neg (by omega), if_neg (by omega), if_pos (by omega)]
    have hE : encO o = [u8 o.1] ++ (uint o.2.1.length ++ o.2.1) ++ encB (kb o.2.2.2.2.1) := by unfold encO; rw [hr]; rfl
    refine ⟨?_, by rw [hE]; simp only [List.length_append, List.length_singleton] at lb ⊢; omega⟩
    unfold entry_op.impl
    rw [ite_df (by omega), ite_df (by omega), ite_df (by omega), ite_dt g]
    simp only [entry_inside_k4.impl, Option.bind_some, e0]
    rw [chk_pos (by simp only [List.length_singleton]; omega)]
    unfold entry_op.k4
    rw [eval_is hb.key hv]
    simp only [Option.bind_some]
    rw [chk_pos (by simp only [List.length_append, List.length_singleton] at lb ⊢; omega), hE, w _ (by omega)]
  · have hv := hf.key (by omega)
    have l2 := encB_len (small_len (valP_small hv)) (by omega)
    have hr : restO o = encB (kb o.2.2.2.2.1) := by unfold restO; rw [if_neg (by omega), if_neg (by omega), if_pos (by omega)]
    have hE : encO o = [u8 o.1] ++ (uint o.2.1.length ++ o.2.1) ++ encB (kb o.2.2.2.2.1) := by unfold encO; rw [hr]; rfl
    refine ⟨?_, by rw [hE]; simp only [List.length_append, List.length_singleton] at lb ⊢; omega⟩
    unfold entry_op.impl
    rw [ite_df (by omega), ite_df (by omega), ite_df (by omega), ite_df (by omega), ite_dt g]
    simp only [entry_inside_k5.impl, Option.bind_some, e0]
    rw [chk_pos (by simp only [List.length_singleton]; omega)]
    unfold entry_op.k5
    rw [eval_is hb.key hv]
    simp only [Option.bind_some]
    rw [chk_pos (by simp only [List.length_append, List.length_singleton] at lb ⊢; omega), hE, w _ (by omega)]
  · have hv := hf.lo (by omega)
    have hv2 := hf.hi (by omega)
    have hs := hf.scan g
    unfold scanP at hs
    simp only [decide_eq_true_eq] at hs
    have l2 := encB_len (small_len (valP_small hv)) (by omega)
    have l3 := encB_len (small_len (valP_small hv2)) (by omega)
    have hr : restO o = encB (kb o.2.2.2.2.2.2.1) ++ encB (kb o.2.2.2.2.2.2.2.1) ++ [u8 o.2.2.2.2.2.1, u8 o.2.2.2.2.2.2.2.2] := by unfold restO; rw [if_neg (by omega), if_neg (by omega), if_neg (by omega)]
    have hE : encO o = [u8 o.1] ++ (uint o.2.1.length ++ o.2.1) ++ (encB (kb o.2.2.2.2.2.2.1) ++ encB (kb o.2.2.2.2.2.2.2.1) ++ [u8 o.2.2.2.2.2.1, u8 o.2.2.2.2.2.2.2.2]) := by unfold encO; rw [hr]; rfl
    refine ⟨?_, by rw [hE]; simp only [List.length_append, List.length_singleton, List.length_cons, List.length_nil] at lb ⊢; omega⟩
    unfold entry_op.impl
    rw [ite_df (by omega), ite_df (by omega), ite_df (by omega), ite_df (by omega), ite_df (by omega), ite_dt g]
    simp only [entry_inside_k6.impl, Option.bind_some, e0]
    rw [chk_pos (by simp only [List.length_singleton]; omega)]
    unfold entry_op.k6
    rw [eval_is hb.lo hv, eval_is hb.hi hv2]
    simp only [Option.bind_some]
    rw [chk_pos (by simp only [List.length_append, List.length_singleton] at lb ⊢; omega), chk_pos (by simp only [List.length_append, List.length_singleton] at lb ⊢; omega), chk_pos (by simp only [List.length_append, List.length_singleton, List.length_cons, List.length_nil] at lb ⊢; omega), hE, w _ (by omega), w _ (by omega), w _ (by omega)]
    simp
end Go.Proofs.YtpogdeibkghhaaaDoor
