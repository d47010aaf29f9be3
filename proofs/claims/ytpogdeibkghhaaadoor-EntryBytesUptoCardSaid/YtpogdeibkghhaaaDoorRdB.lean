/- An entry that may be is read as it was written. -/
import Derived.Test.YtpogdeibkghhaaaDoorDecL
import Derived.Test.YtpogdeibkghhaaaDoorRfB
set_option linter.unusedVariables false
set_option linter.unusedSimpArgs false
set_option linter.unusedSectionVars false
namespace Go.Proofs.YtpogdeibkghhaaaDoor
open Go Go.RowKit Go.Lib
theorem fw_uint {pre suf : List UInt8} {n : Nat} (hn : n < 9223372036854775808) (hl : (pre ++ (uint n ++ suf)).length ≤ 4194304) :
    entry_reader_uint.impl (pre ++ (uint n ++ suf), (pre.length : Int), false) = some ((n : Int), (pre ++ (uint n ++ suf), ((pre ++ uint n).length : Int), false)) := by
  have e := RU_uint pre suf hn (by omega)
  unfold entry_reader_uint.impl
  simp only []
  rw [e]
  simp only [Option.bind_some, decide_true, Bool.not_true, Bool.false_eq_true, if_false]
  unfold entry_reader_uint.k1
  simp
theorem fw_byte {pre suf : List UInt8} {b : UInt8} (hl : (pre ++ (b :: suf)).length ≤ 4194304) :
    entry_reader_byte.impl (pre ++ (b :: suf), (pre.length : Int), false) = some ((b.toNat : Int), (pre ++ (b :: suf), ((pre ++ [b]).length : Int), false)) := by
  have hl' : pre.length + suf.length + 1 ≤ 4194304 := by simp at hl; omega
  have hb := b.toNat_lt
  unfold entry_reader_byte.impl
  simp only [Bool.false_eq_true, if_false]
  rw [decide_eq_false (by simp; omega)]
  unfold entry_reader_byte.k1
  simp only [Bool.false_eq_true, if_false]
  rw [i64_id (n := (pre.length : Int) + 1) (by omega), i64_id (n := (pre.length : Int) + 1 - 1) (by omega), show (pre.length : Int) + 1 - 1 = (pre.length : Int) by omega]
  rw [chk_pos (by simp; omega), Int.toNat_natCast, i64_id]
  · simp
  · have : ((pre ++ b :: suf).getD pre.length default) = b := by simp [List.getD]
    rw [this]; omega
theorem fw_text {pre s suf : List UInt8} (hs : s.length ≤ 1800) (hl : (pre ++ (encB s ++ suf)).length ≤ 4194304) :
    entry_reader_text.impl (pre ++ (encB s ++ suf), (pre.length : Int), false) = some (s, (pre ++ (encB s ++ suf), ((pre ++ encB s).length : Int), false)) := by
  unfold encB at hl ⊢
  have e := RU_uint (n := s.length) pre (s ++ suf) (by omega) (by rw [← List.append_assoc (uint s.length)]; omega)
  rw [← List.append_assoc (uint s.length)] at e
  have e2 := rb_ok (m := 1800) e (by omega) (by omega) (by simp; omega) (by omega)
  unfold entry_reader_text.impl
  simp only []
  rw [e2]
  simp only [Option.bind_some, decide_true, Bool.not_true, Bool.false_eq_true, if_false]
  unfold entry_reader_text.k1
  simp only [Bool.false_eq_true, if_false]
  have hd : ((pre ++ (uint s.length ++ s ++ suf)).drop (pre.length + (uint s.length).length)).take s.length = s := by
    rw [show pre ++ (uint s.length ++ s ++ suf) = (pre ++ uint s.length) ++ (s ++ suf) by simp, show pre.length + (uint s.length).length = (pre ++ uint s.length).length by simp, List.drop_left, List.take_left]
  rw [hd]
  simp only [List.length_append]
  rw [Nat.add_assoc]
theorem fw_row {pre suf : List UInt8} {row : List Vl} (hr : rowE row = 0) (hn : ∀ v ∈ row, In64 v.2.1) (hl : (pre ++ (encB (row.flatMap kb) ++ suf)).length ≤ 4194304) :
    entry_reader_row.impl (pre ++ (encB (row.flatMap kb) ++ suf), (pre.length : Int), false) = some (row, (pre ++ (encB (row.flatMap kb) ++ suf), ((pre ++ encB (row.flatMap kb)).length : Int), false)) := by
  have h1 := row_len hr
  have e := fw_text (pre := pre) (s := row.flatMap kb) (suf := suf) (by omega) hl
  unfold entry_reader_row.impl
  simp only [] at e ⊢
  rw [e]
  simp only [Option.bind_some]
  rw [DecodeRow_is (by omega), decR_enc hn hr]
  simp
theorem fw_value {pre suf : List UInt8} {v : Vl} (hr : valP v = true) (hf : Fits v) (hl : (pre ++ (encB (kb v) ++ suf)).length ≤ 4194304) :
    entry_reader_value.impl (pre ++ (encB (kb v) ++ suf), (pre.length : Int), false) = some (v, (pre ++ (encB (kb v) ++ suf), ((pre ++ encB (kb v)).length : Int), false)) := by
  have hk : [v].flatMap kb = kb v := by simp
  have hr1 : rowE [v] = 0 := by
    unfold rowE
    rw [if_pos (by simp), if_pos (by simpa using valP_small hr)]
  have e := fw_row (pre := pre) (suf := suf) (row := [v]) hr1 (fun x hx => by rw [List.mem_singleton.1 hx]; exact hf.1) (by rw [hk]; exact hl)
  rw [hk] at e
  unfold entry_reader_value.impl
  simp only [] at e ⊢
  rw [e]
  simp only [Option.bind_some]
  rw [ite_nt (by simp), chk_pos (by simp)]
  rfl
/-- An operation that may be has the fields alone that its kind has. -/
theorem opR_bare {o : Op} (h : opR o = true) : o = (bareO o).1 := by
  unfold opR at h
  simp only [Bool.and_eq_true] at h
  have h2 := h.1.2
  unfold sameB at h2
  simp only [Bool.and_eq_true, decide_eq_true_eq] at h2
  obtain ⟨a1, a2, a3, a4, a5, a6, a7, a8, a9⟩ := h2
  exact Prod.ext a1 (Prod.ext a2 (Prod.ext a3 (Prod.ext a4 (Prod.ext a5 (Prod.ext a6 (Prod.ext a7 (Prod.ext a8 a9)))))))
theorem encO_len {o : Op} (h : opR o = true) : (encO o).length ≤ 147 := by
  have hf := opR_f h
  have hk := opR_kind h
  have l0 := encB_len hf.name (by omega)
  have hr : (restO o).length ≤ 129 := by
    unfold restO
    rcases hk with g | g | g | g | g | g
    · rw [if_pos g]; have := encB_len (encS_len (hf.k1 g)) (by omega); omega
    · rw [if_neg (by omega), if_pos (by omega)]; have := encB_len (row_len (hf.row (by omega))) (by omega); omega
    · rw [if_neg (by omega), if_pos (by omega)]; have := encB_len (row_len (hf.row (by omega))) (by omega); omega
    · rw [if_neg (by omega), if_neg (by omega), if_pos (by omega)]; have := encB_len (small_len (valP_small (hf.key (by omega)))) (by omega); omega
    · rw [if_neg (by omega), if_neg (by omega), if_pos (by omega)]; have := encB_len (small_len (valP_small (hf.key (by omega)))) (by omega); omega
    · rw [if_neg (by omega), if_neg (by omega), if_neg (by omega)]
      have := encB_len (small_len (valP_small (hf.lo (by omega)))) (by omega)
      have := encB_len (small_len (valP_small (hf.hi (by omega)))) (by omega)
      simp only [List.length_append, List.length_cons, List.length_nil]; omega
  unfold encO
  simp only [List.length_append, List.length_singleton]; omega
theorem u8_back {n : Int} (h : 0 ≤ n ∧ n < 256) : ((u8 n).toNat : Int) = n := by
  unfold u8
  simp only [UInt8.toNat_ofNat']
  omega
theorem fw_op {pre suf : List UInt8} {o : Op} (h : opR o = true) (hb : BndO o) (hl : (pre ++ (encO o ++ suf)).length ≤ 4194304) :
    entry_reader_op.impl (pre ++ (encO o ++ suf), (pre.length : Int), false) = some (o, (pre ++ (encO o ++ suf), ((pre ++ encO o).length : Int), false)) := by
  have hf := opR_f h
  have hk := opR_kind h
  have hbare := opR_bare h
  obtain ⟨L, hL⟩ : ∃ L, pre ++ (encO o ++ suf) = L := ⟨_, rfl⟩
  have e1 := fw_byte (pre := pre) (suf := encB o.2.1 ++ (restO o ++ suf)) (b := u8 o.1) (by unfold encO at hl; simpa using hl)
  have p1 : pre ++ (u8 o.1 :: (encB o.2.1 ++ (restO o ++ suf))) = L := by rw [← hL]; unfold encO; simp
  rw [p1, u8_back (by omega)] at e1
  have p2 : (pre ++ [u8 o.1]) ++ (encB o.2.1 ++ (restO o ++ suf)) = L := by rw [← p1]; simp
  have hl' : L.length ≤ 4194304 := by rw [← hL]; exact hl
  have e2 := fw_text (pre := pre ++ [u8 o.1]) (s := o.2.1) (suf := restO o ++ suf) (by have := hf.name; omega) (by rw [p2]; exact hl')
  rw [p2] at e2
  have p3 : ((pre ++ [u8 o.1]) ++ encB o.2.1) ++ (restO o ++ suf) = L := by rw [← p2]; simp
  have hend : pre ++ encO o = ((pre ++ [u8 o.1]) ++ encB o.2.1) ++ restO o := by unfold encO; simp
  rw [hL, hend]
  generalize (pre ++ [u8 o.1]) ++ encB o.2.1 = pre2 at e2 p3 ⊢
  unfold entry_reader_op.impl
  simp only []
  rw [e1]
  simp only [Option.bind_some]
  rw [e2]
  simp only [Option.bind_some]
  have fin : ∀ {x y : Op × List UInt8 × Int × Bool}, x = y → some x = some y := fun e => by rw [e]
  rcases hk with g | g | g | g | g | g
  · have hr : restO o = encB (encS o.2.2.1) := by unfold restO; rw [if_pos g]
    rw [hr] at p3 ⊢
    have e3 := fw_text (pre := pre2) (s := encS o.2.2.1) (suf := suf) (by have := encS_len (hf.k1 g); omega) (by rw [p3]; exact hl')
    rw [p3] at e3
    rw [ite_dt g, e3]
    simp only [Option.bind_some]
    rw [Decode_is (by have := encS_len (hf.k1 g); omega), decS_enc (hf.k1 g)]
    simp only [Option.bind_some, Bool.false_eq_true, if_false, decide_true, Bool.not_true]
    unfold entry_reader_op.k1
    simp only
    have hn : o.2.1 = [] := by have := congrArg (fun z => z.2.1) hbare; simp only [bareO, if_pos g] at this; exact this
    have : o = (o.1, o.2.1, o.2.2.1, [], zV, 0, zV, zV, 0) := by rw [hn]; rw [show bareO o = ((o.1, [], o.2.2.1, [], zV, 0, zV, zV, 0), true) by unfold bareO; rw [if_pos g]] at hbare; exact hbare
    refine fin ?_
    conv => rhs; rw [this]
    rfl
  · have hr : restO o = encB (o.2.2.2.1.flatMap kb) := by unfold restO; rw [if_neg (by omega), if_pos (by omega)]
    rw [hr] at p3 ⊢
    have e3 := fw_row (pre := pre2) (row := o.2.2.2.1) (suf := suf) (hf.row (by omega)) (fun v hv => (hb.row v hv).1) (by rw [p3]; exact hl')
    rw [p3] at e3
    rw [ite_df (by omega), ite_dt g, decide_eq_true g]
    unfold entry_reader_op.k2
    simp only [if_true]
    rw [e3]
    simp only [Option.bind_some]
    have : o = (o.1, o.2.1, ([], [], []), o.2.2.2.1, zV, 0, zV, zV, 0) := by rw [show bareO o = ((o.1, o.2.1, ([], [], []), o.2.2.2.1, zV, 0, zV, zV, 0), true) by unfold bareO; rw [if_neg (by omega), if_pos (by omega)]] at hbare; exact hbare
    refine fin ?_
    conv => rhs; rw [this]
    rfl
  · have hr : restO o = encB (o.2.2.2.1.flatMap kb) := by unfold restO; rw [if_neg (by omega), if_pos (by omega)]
    rw [hr] at p3 ⊢
    have e3 := fw_row (pre := pre2) (row := o.2.2.2.1) (suf := suf) (hf.row (by omega)) (fun v hv => (hb.row v hv).1) (by rw [p3]; exact hl')
    rw [p3] at e3
    rw [ite_df (by omega), ite_df (by omega), decide_eq_true g]
    unfold entry_reader_op.k2
    simp only [if_true]
    rw [e3]
    simp only [Option.bind_some]
    have : o = (o.1, o.2.1, ([], [], []), o.2.2.2.1, zV, 0, zV, zV, 0) := by rw [show bareO o = ((o.1, o.2.1, ([], [], []), o.2.2.2.1, zV, 0, zV, zV, 0), true) by unfold bareO; rw [if_neg (by omega), if_pos (by omega)]] at hbare; exact hbare
    refine fin ?_
    conv => rhs; rw [this]
    rfl
  · have hr : restO o = encB (kb o.2.2.2.2.1) := by unfold restO; rw [if_neg (by omega), if_neg (by omega), if_pos (by omega)]
    rw [hr] at p3 ⊢
    have e3 := fw_value (pre := pre2) (v := o.2.2.2.2.1) (suf := suf) (hf.key (by omega)) hb.key (by rw [p3]; exact hl')
    rw [p3] at e3
    rw [ite_df (by omega), ite_df (by omega), decide_eq_false (show ¬ o.1 = 3 by omega)]
    unfold entry_reader_op.k2
    simp only [Bool.false_eq_true, if_false]
    rw [ite_dt g, decide_eq_true g]
    unfold entry_reader_op.k3
    simp only [if_true]
    rw [e3]
    simp only [Option.bind_some]
    have : o = (o.1, o.2.1, ([], [], []), [], o.2.2.2.2.1, 0, zV, zV, 0) := by rw [show bareO o = ((o.1, o.2.1, ([], [], []), [], o.2.2.2.2.1, 0, zV, zV, 0), true) by unfold bareO; rw [if_neg (by omega), if_neg (by omega), if_pos (by omega)]] at hbare; exact hbare
    refine fin ?_
    conv => rhs; rw [this]
    rfl
  · have hr : restO o = encB (kb o.2.2.2.2.1) := by unfold restO; rw [if_neg (by omega), if_neg (by omega), if_pos (by omega)]
    rw [hr] at p3 ⊢
    have e3 := fw_value (pre := pre2) (v := o.2.2.2.2.1) (suf := suf) (hf.key (by omega)) hb.key (by rw [p3]; exact hl')
    rw [p3] at e3
    rw [ite_df (by omega), ite_df (by omega), decide_eq_false (show ¬ o.1 = 3 by omega)]
    unfold entry_reader_op.k2
    simp only [Bool.false_eq_true, if_false]
    rw [ite_df (by omega), decide_eq_true g]
    unfold entry_reader_op.k3
    simp only [if_true]
    rw [e3]
    simp only [Option.bind_some]
    have : o = (o.1, o.2.1, ([], [], []), [], o.2.2.2.2.1, 0, zV, zV, 0) := by rw [show bareO o = ((o.1, o.2.1, ([], [], []), [], o.2.2.2.2.1, 0, zV, zV, 0), true) by unfold bareO; rw [if_neg (by omega), if_neg (by omega), if_pos (by omega)]] at hbare; exact hbare
    refine fin ?_
    conv => rhs; rw [this]
    rfl
  · have hs := hf.scan g
    unfold scanP at hs
    simp only [decide_eq_true_eq] at hs
    have hr : restO o = encB (kb o.2.2.2.2.2.2.1) ++ encB (kb o.2.2.2.2.2.2.2.1) ++ [u8 o.2.2.2.2.2.1, u8 o.2.2.2.2.2.2.2.2] := by unfold restO; rw [if_neg (by omega), if_neg (by omega), if_neg (by omega)]
    rw [hr] at p3 ⊢
    have q1 : pre2 ++ (encB (kb o.2.2.2.2.2.2.1) ++ (encB (kb o.2.2.2.2.2.2.2.1) ++ (u8 o.2.2.2.2.2.1 :: (u8 o.2.2.2.2.2.2.2.2 :: suf)))) = L := by rw [← p3]; simp
    have e3 := fw_value (pre := pre2) (v := o.2.2.2.2.2.2.1) (suf := encB (kb o.2.2.2.2.2.2.2.1) ++ (u8 o.2.2.2.2.2.1 :: (u8 o.2.2.2.2.2.2.2.2 :: suf))) (hf.lo (by omega)) hb.lo (by rw [q1]; exact hl')
    rw [q1] at e3
    have q2 : (pre2 ++ encB (kb o.2.2.2.2.2.2.1)) ++ (encB (kb o.2.2.2.2.2.2.2.1) ++ (u8 o.2.2.2.2.2.1 :: (u8 o.2.2.2.2.2.2.2.2 :: suf))) = L := by rw [← q1]; simp
    have e4 := fw_value (pre := pre2 ++ encB (kb o.2.2.2.2.2.2.1)) (v := o.2.2.2.2.2.2.2.1) (suf := u8 o.2.2.2.2.2.1 :: (u8 o.2.2.2.2.2.2.2.2 :: suf)) (hf.hi (by omega)) hb.hi (by rw [q2]; exact hl')
    rw [q2] at e4
    have q3 : ((pre2 ++ encB (kb o.2.2.2.2.2.2.1)) ++ encB (kb o.2.2.2.2.2.2.2.1)) ++ (u8 o.2.2.2.2.2.1 :: (u8 o.2.2.2.2.2.2.2.2 :: suf)) = L := by rw [← q2]; simp
    have e5 := fw_byte (pre := (pre2 ++ encB (kb o.2.2.2.2.2.2.1)) ++ encB (kb o.2.2.2.2.2.2.2.1)) (b := u8 o.2.2.2.2.2.1) (suf := u8 o.2.2.2.2.2.2.2.2 :: suf) (by rw [q3]; exact hl')
    rw [q3, u8_back (by omega)] at e5
    have q4 : (((pre2 ++ encB (kb o.2.2.2.2.2.2.1)) ++ encB (kb o.2.2.2.2.2.2.2.1)) ++ [u8 o.2.2.2.2.2.1]) ++ (u8 o.2.2.2.2.2.2.2.2 :: suf) = L := by rw [← q3]; simp
    have e6 := fw_byte (pre := ((pre2 ++ encB (kb o.2.2.2.2.2.2.1)) ++ encB (kb o.2.2.2.2.2.2.2.1)) ++ [u8 o.2.2.2.2.2.1]) (b := u8 o.2.2.2.2.2.2.2.2) (suf := suf) (by rw [q4]; exact hl')
    rw [q4, u8_back (by omega)] at e6
    rw [ite_df (by omega), ite_df (by omega), decide_eq_false (show ¬ o.1 = 3 by omega)]
    unfold entry_reader_op.k2
    simp only [Bool.false_eq_true, if_false]
    rw [ite_df (by omega), decide_eq_false (show ¬ o.1 = 5 by omega)]
    unfold entry_reader_op.k3
    simp only [Bool.false_eq_true, if_false]
    rw [e3]
    simp only [Option.bind_some]
    rw [e4]
    simp only [Option.bind_some]
    rw [e5]
    simp only [Option.bind_some]
    rw [e6]
    simp only [Option.bind_some]
    have : o = (o.1, o.2.1, ([], [], []), [], zV, o.2.2.2.2.2.1, o.2.2.2.2.2.2.1, o.2.2.2.2.2.2.2.1, o.2.2.2.2.2.2.2.2) := by rw [show bareO o = ((o.1, o.2.1, ([], [], []), [], zV, o.2.2.2.2.2.1, o.2.2.2.2.2.2.1, o.2.2.2.2.2.2.2.1, o.2.2.2.2.2.2.2.2), true) by unfold bareO; rw [if_neg (by omega), if_neg (by omega), if_neg (by omega), if_pos g]] at hbare; exact hbare
    have hpos : (((((pre2 ++ encB (kb o.2.2.2.2.2.2.1)) ++ encB (kb o.2.2.2.2.2.2.2.1)) ++ [u8 o.2.2.2.2.2.1]) ++ [u8 o.2.2.2.2.2.2.2.2]).length : Int) = ((pre2 ++ (encB (kb o.2.2.2.2.2.2.1) ++ encB (kb o.2.2.2.2.2.2.2.1) ++ [u8 o.2.2.2.2.2.1, u8 o.2.2.2.2.2.2.2.2])).length : Int) := by simp
    rw [hpos]
    refine fin ?_
    congr 1
    conv => rhs; rw [this]
    rfl
/-! ### Commands -/
theorem fw_ops {L : List UInt8} (hL : L.length ≤ 4194304) : ∀ (ops : List Op) (pre suf : List UInt8) (acc : List Op), L = pre ++ (ops.flatMap encO ++ suf) → acc.length + ops.length ≤ 300 → (∀ o ∈ ops, opR o = true ∧ BndO o) →
    loop (entry_Decode.st2 L) ((pre.length : Int), false, acc, (ops.length : Int)) = some (((pre ++ ops.flatMap encO).length : Int), false, acc ++ ops)
  | [], pre, suf, acc, h, ha, hB => by
    rw [loop_last (r := ((pre.length : Int), false, acc)) (by unfold entry_Decode.st2; rw [ite_df (by simp)]; unfold entry_Decode.k5; simp)]
    simp
  | o :: ops, pre, suf, acc, h, ha, hB => by
    obtain ⟨h1, h2⟩ := hB o List.mem_cons_self
    have hs : L = pre ++ (encO o ++ (ops.flatMap encO ++ suf)) := by rw [h]; simp
    have e := fw_op (pre := pre) (suf := ops.flatMap encO ++ suf) h1 h2 (by rw [← hs]; exact hL)
    rw [← hs] at e
    have hst : entry_Decode.st2 L ((pre.length : Int), false, acc, ((o :: ops).length : Int)) = some (.inl (((pre ++ encO o).length : Int), false, acc ++ [o], (ops.length : Int))) := by
      unfold entry_Decode.st2
      rw [ite_dt (by simp)]
      unfold entry_Decode.k5
      simp only [Bool.not_false, if_true]
      rw [e]
      simp only [Option.bind_some]
      simp only [List.length_cons] at ha ⊢
      rw [chk_pos (by simp only [List.length_nil]; omega), i64_id (by omega)]
      congr 5
      omega
    rw [loop_more hst, fw_ops hL ops (pre ++ encO o) suf (acc ++ [o]) (by rw [hs]; simp) (by simp only [List.length_append, List.length_cons, List.length_nil] at ha ⊢; omega) (fun x hx => hB x (List.mem_cons_of_mem _ hx))]
    simp
theorem fw_cmds {L : List UInt8} (hL : L.length ≤ 4194304) : ∀ (cs : List Cmd) (pre : List UInt8) (acc : List Cmd), L = pre ++ cs.flatMap encM → acc.length + cs.length ≤ 3 → (∀ c ∈ cs, commandP c = true ∧ BndC c) →
    loop (entry_Decode.st1 L) ((pre.length : Int), false, acc) = some ((L.length : Int), false, acc ++ cs)
  | [], pre, acc, h, ha, hB => by
    have hp : L = pre := by rw [h]; simp
    subst hp
    rw [loop_last (r := ((L.length : Int), false, acc)) (by
      unfold entry_Decode.st1
      simp only [Bool.false_eq_true, if_false]
      rw [ite_df (by omega)]
      unfold entry_Decode.k3
      simp)]
    simp
  | c :: cs, pre, acc, h, ha, hB => by
    obtain ⟨h1, h2⟩ := hB c List.mem_cons_self
    obtain ⟨⟨a1, a2, a3⟩, a4, a5⟩ := cmd_f h1
    have s0 : L = pre ++ (u8 c.1 :: (uint c.2.1.toNat ++ (u8 (c.2.2.length : Int) :: (c.2.2.flatMap encO ++ cs.flatMap encM)))) := by rw [h, List.flatMap_cons]; unfold encM; simp
    have e1 := fw_byte (pre := pre) (b := u8 c.1) (suf := uint c.2.1.toNat ++ (u8 (c.2.2.length : Int) :: (c.2.2.flatMap encO ++ cs.flatMap encM))) (by rw [← s0]; exact hL)
    rw [← s0, u8_back (by omega)] at e1
    have s1 : L = (pre ++ [u8 c.1]) ++ (uint c.2.1.toNat ++ (u8 (c.2.2.length : Int) :: (c.2.2.flatMap encO ++ cs.flatMap encM))) := by rw [s0]; simp
    have e2 := fw_uint (pre := pre ++ [u8 c.1]) (n := c.2.1.toNat) (suf := u8 (c.2.2.length : Int) :: (c.2.2.flatMap encO ++ cs.flatMap encM)) (by omega) (by rw [← s1]; exact hL)
    rw [← s1, show ((c.2.1.toNat : Nat) : Int) = c.2.1 by omega] at e2
    have s2 : L = ((pre ++ [u8 c.1]) ++ uint c.2.1.toNat) ++ (u8 (c.2.2.length : Int) :: (c.2.2.flatMap encO ++ cs.flatMap encM)) := by rw [s1]; simp
    have e3 := fw_byte (pre := (pre ++ [u8 c.1]) ++ uint c.2.1.toNat) (b := u8 (c.2.2.length : Int)) (suf := c.2.2.flatMap encO ++ cs.flatMap encM) (by rw [← s2]; exact hL)
    rw [← s2, u8_back (by omega)] at e3
    have s3 : L = (((pre ++ [u8 c.1]) ++ uint c.2.1.toNat) ++ [u8 (c.2.2.length : Int)]) ++ (c.2.2.flatMap encO ++ cs.flatMap encM) := by rw [s2]; simp
    have e4 := fw_ops hL c.2.2 (((pre ++ [u8 c.1]) ++ uint c.2.1.toNat) ++ [u8 (c.2.2.length : Int)]) (cs.flatMap encM) [] s3 (by simp; omega) (fun o ho => ⟨a5 o ho, h2 o ho⟩)
    have hend : (((pre ++ [u8 c.1]) ++ uint c.2.1.toNat) ++ [u8 (c.2.2.length : Int)]) ++ c.2.2.flatMap encO = pre ++ encM c := by unfold encM; simp
    rw [hend, List.nil_append] at e4
    have hlt : (pre.length : Int) < L.length := by rw [s0]; simp; omega
    simp only [List.length_cons] at ha
    have hst : entry_Decode.st1 L ((pre.length : Int), false, acc) = some (.inl (((pre ++ encM c).length : Int), false, acc ++ [c])) := by
      unfold entry_Decode.st1
      simp only [Bool.false_eq_true, if_false]
      rw [ite_dt hlt, decide_eq_true (by omega)]
      unfold entry_Decode.k3
      simp only [if_true]
      rw [e1]
      simp only [Option.bind_some]
      rw [e2]
      simp only [Option.bind_some]
      rw [e3]
      simp only [Option.bind_some]
      rw [e4]
      simp only [Option.bind_some]
      unfold entry_Decode.k4
      simp only
      rw [chk_pos (by simp only [List.length_cons, List.length_nil]; omega)]
    rw [loop_more hst, fw_cmds hL cs (pre ++ encM c) (acc ++ [c]) (by rw [h]; simp) (by simp only [List.length_append, List.length_cons, List.length_nil]; omega) (fun x hx => hB x (List.mem_cons_of_mem _ hx))]
    simp
theorem flatO_147 : ∀ l : List Op, (∀ o ∈ l, opR o = true) → (l.flatMap encO).length ≤ 147 * l.length
  | [], _ => by simp
  | o :: l, h => by
    have h1 := encO_len (h o List.mem_cons_self)
    have h2 := flatO_147 l (fun x hx => h x (List.mem_cons_of_mem _ hx))
    rw [List.flatMap_cons, List.length_append, List.length_cons]; omega
theorem flatM_448 : ∀ l : List Cmd, (∀ c ∈ l, commandP c = true) → (l.flatMap encM).length ≤ 448 * l.length
  | [], _ => by simp
  | c :: l, h => by
    have hc := h c List.mem_cons_self
    obtain ⟨⟨a1, a2, a3⟩, a4, a5⟩ := cmd_f hc
    have h1 := flatO_147 c.2.2 a5
    have h3 := ulen5 (q := c.2.1.toNat) (by omega)
    have h2 := flatM_448 l (fun x hx => h x (List.mem_cons_of_mem _ hx))
    rw [List.flatMap_cons, List.length_append, List.length_cons]
    have : (encM c).length ≤ 448 := by unfold encM; simp only [List.length_append, List.length_singleton]; omega
    omega
theorem encE_1800 {e : Ent} (h : entR e = true) : (encE e).length ≤ 1800 := by
  obtain ⟨h1, h2, h3, h4, h5⟩ := ent_f h
  have l1 := flatM_448 e.2.2.1 h5
  have l2 := ulen5 (q := e.2.2.2.toNat) (by omega)
  unfold encE
  simp only [List.length_append, List.length_cons, List.length_nil]
  omega
theorem Decode_enc {e : Ent} (hB : BndE e) (h : entR e = true) : entry_Decode.impl (encE e) = some (e, 0) := by
  obtain ⟨h1, h2, h3, h4, h5⟩ := ent_f h
  have hl := encE_1800 h
  have hE := Enc_e hB
  rw [if_pos h] at hE
  obtain ⟨L, hL⟩ : ∃ L, encE e = L := ⟨_, rfl⟩
  rw [hL] at hl hE ⊢
  have s0 : [] ++ (u8 e.1 :: (u8 e.2.1 :: (uint e.2.2.2.toNat ++ e.2.2.1.flatMap encM))) = L := by rw [← hL]; unfold encE; simp
  have e1 := fw_byte (pre := []) (b := u8 e.1) (suf := u8 e.2.1 :: (uint e.2.2.2.toNat ++ e.2.2.1.flatMap encM)) (by rw [s0]; omega)
  rw [s0, u8_back (by omega)] at e1
  have s1 : ([] ++ [u8 e.1]) ++ (u8 e.2.1 :: (uint e.2.2.2.toNat ++ e.2.2.1.flatMap encM)) = L := by rw [← s0]; simp
  have e2 := fw_byte (pre := [] ++ [u8 e.1]) (b := u8 e.2.1) (suf := uint e.2.2.2.toNat ++ e.2.2.1.flatMap encM) (by rw [s1]; omega)
  rw [s1, u8_back (by omega)] at e2
  have s2 : (([] ++ [u8 e.1]) ++ [u8 e.2.1]) ++ (uint e.2.2.2.toNat ++ e.2.2.1.flatMap encM) = L := by rw [← s1]; simp
  have e3 := fw_uint (pre := ([] ++ [u8 e.1]) ++ [u8 e.2.1]) (n := e.2.2.2.toNat) (suf := e.2.2.1.flatMap encM) (by omega) (by rw [s2]; omega)
  rw [s2, show ((e.2.2.2.toNat : Nat) : Int) = e.2.2.2 by omega] at e3
  have s3 : L = ((([] ++ [u8 e.1]) ++ [u8 e.2.1]) ++ uint e.2.2.2.toNat) ++ e.2.2.1.flatMap encM := by rw [← s2]; simp
  have e4 := fw_cmds (L := L) (by omega) e.2.2.1 ((([] ++ [u8 e.1]) ++ [u8 e.2.1]) ++ uint e.2.2.2.toNat) [] s3 (by simp; omega) (fun c hc => ⟨h5 c hc, hB c hc⟩)
  unfold entry_Decode.impl
  have e1 : entry_reader_byte.impl (L, 0, false) = some (e.1, (L, ((([] : List UInt8) ++ [u8 e.1]).length : Int), false)) := e1
  rw [e1]
  simp only [Option.bind_some]
  rw [e2]
  simp only [Option.bind_some]
  rw [e3]
  simp only [Option.bind_some]
  rw [e4]
  simp only [Option.bind_some]
  unfold entry_Decode.k1
  simp only [List.nil_append]
  have hE : entry_Encode.impl (e.1, e.2.1, e.2.2.1, e.2.2.2) = some (L, 0) := hE
  rw [hE]
  simp only [Option.bind_some, Bool.false_eq_true, if_false, decide_true, if_true, bytes_Equal.impl, Bool.not_true]
  unfold entry_Decode.k2
  simp only [Bool.false_eq_true, if_false]
end Go.Proofs.YtpogdeibkghhaaaDoor
