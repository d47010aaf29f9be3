/- What Decode does with any bytes. -/
import Derived.Test.YtpogdeibkghhaaaDoorEncL
import Derived.Test.YtpogdeibkghhaaaDoorEntryD
import Derived.Test.YtpogdeibkghhaaaDoorWirL
set_option linter.unusedVariables false
set_option linter.unusedSimpArgs false
namespace Go.Proofs.YtpogdeibkghhaaaDoor
open Go Go.RowKit Go.Lib
theorem R_uint {l : List UInt8} (hl : l.length ≤ 1048576) {p : Nat} (hp : p ≤ l.length) (bad : Bool) : ∃ (n p' : Nat) (bad' : Bool), entry_reader_uint.impl (l, (p : Int), bad) = some ((n : Int), (l, (p' : Int), bad')) ∧ p' ≤ l.length := by
  have e := ReadUint_in (l := l) (at_ := p) (by omega) hp
  obtain ⟨x, k, err, hr⟩ : ∃ x k err, rdu 9 0 0 (l.drop p) = (x, k, err) := ⟨_, _, _, rfl⟩
  rw [hr] at e
  unfold entry_reader_uint.impl
  simp only []
  rw [e]
  simp only [Option.bind_some]
  unfold entry_reader_uint.k1 rdTo
  cases bad with
  | true => exact ⟨0, p, true, by simp, hp⟩
  | false =>
    simp only [Bool.false_eq_true, if_false]
    by_cases h0 : err = 0
    · subst h0
      have h9 : 9 + (hi 0).length = 9 := by rw [hi_zero]; rfl
      have hr' : rdu 9 0 (hi 0).length (l.drop p) = (x, k, 0) := by rw [hi_zero]; exact hr
      obtain ⟨t, h1, _, h2, _, _⟩ := rdu_is h9 hr'
      rw [hi_zero] at h1
      simp only [List.length_nil, Nat.zero_add] at h1
      rw [List.length_drop] at h2
      exact ⟨x, p + k, false, by simp, by omega⟩
    · refine ⟨0, p, true, ?_, hp⟩
      simp [h0]
theorem R_byte {l : List UInt8} (hl : l.length ≤ 1048576) {p : Nat} (hp : p ≤ l.length) (bad : Bool) : ∃ (n p' : Nat) (bad' : Bool), entry_reader_byte.impl (l, (p : Int), bad) = some ((n : Int), (l, (p' : Int), bad')) ∧ p' ≤ l.length ∧ n < 256 := by
  have key : entry_reader_byte.k1 (l, (p : Int), bad) true = some (((0 : Nat) : Int), (l, (p : Int), true)) := by unfold entry_reader_byte.k1; simp
  unfold entry_reader_byte.impl
  simp only []
  cases bad with
  | true => simp only [if_true]; exact ⟨0, p, true, key, hp, by omega⟩
  | false =>
    simp only [Bool.false_eq_true, if_false]
    by_cases h : (l.length : Int) ≤ p
    · rw [decide_eq_true h]; exact ⟨0, p, true, key, hp, by omega⟩
    · rw [decide_eq_false h]
      unfold entry_reader_byte.k1
      simp only [Bool.false_eq_true, if_false]
      have hb := (l.getD p default).toNat_lt
      rw [i64_id (n := (p : Int) + 1) (by omega), i64_id (n := (p : Int) + 1 - 1) (by omega), show (p : Int) + 1 - 1 = (p : Int) by omega, chk_pos (by omega), Int.toNat_natCast, i64_id (by omega)]
      exact ⟨(l.getD p default).toNat, p + 1, false, rfl, by omega, hb⟩
theorem R_text {l : List UInt8} (hl : l.length ≤ 1048576) {p : Nat} (hp : p ≤ l.length) (bad : Bool) : ∃ (s : List UInt8) (p' : Nat) (bad' : Bool), entry_reader_text.impl (l, (p : Int), bad) = some (s, (l, (p' : Int), bad')) ∧ p' ≤ l.length ∧ s.length ≤ 1800 := by
  obtain ⟨s, q, err, e, hq⟩ : ∃ (s : List UInt8) (q : Nat) (err : Int), wire_ReadBytes.impl l (p : Int) 1800 = some (s, (q : Int), err) ∧ (err = 0 → q ≤ l.length ∧ s.length ≤ 1800) := by
    have e := ReadUint_in (l := l) (at_ := p) (by omega) hp
    obtain ⟨x, k, err, hr⟩ : ∃ x k err, rdu 9 0 0 (l.drop p) = (x, k, err) := ⟨_, _, _, rfl⟩
    rw [hr] at e
    by_cases h0 : err = 0
    · subst h0
      have h9 : 9 + (hi 0).length = 9 := by rw [hi_zero]; rfl
      have hr' : rdu 9 0 (hi 0).length (l.drop p) = (x, k, 0) := by rw [hi_zero]; exact hr
      obtain ⟨t, h1, _, h2, _, _⟩ := rdu_is h9 hr'
      rw [hi_zero] at h1
      simp only [List.length_nil, Nat.zero_add] at h1
      rw [List.length_drop] at h2
      have e : wire_ReadUint.impl l (p : Int) = some ((x : Int), ((p + k : Nat) : Int), 0) := e
      by_cases hx : x ≤ 1800
      · by_cases hs : p + k + x ≤ l.length
        · exact ⟨_, _, _, rb_ok (m := 1800) e (by omega) (by omega) hs (by omega), fun _ => ⟨hs, by rw [List.length_take]; omega⟩⟩
        · exact ⟨[], 0, 10, rb_short (m := 1800) e (by omega) (by omega) (by omega) (by omega), fun h => by cases h⟩
      · exact ⟨[], 0, 3, rb_long e (by omega) (by omega), fun h => by cases h⟩
    · have hne : ¬ ((err : Int) = 0) := by omega
      have e : wire_ReadUint.impl l (p : Int) = some ((x : Int), (if err = 0 then ((p + k : Nat) : Int) else 0), (err : Int)) := e
      exact ⟨[], 0, (err : Int), rb_err e hne, fun h => absurd h hne⟩
  unfold entry_reader_text.impl
  simp only []
  rw [e]
  simp only [Option.bind_some]
  unfold entry_reader_text.k1
  cases bad with
  | true => exact ⟨[], p, true, by simp, hp, by simp⟩
  | false =>
    simp only [Bool.false_eq_true, if_false]
    by_cases h0 : err = 0
    · exact ⟨s, q, false, by simp [h0], (hq h0).1, (hq h0).2⟩
    · exact ⟨[], p, true, by simp [h0], hp, by simp⟩
theorem R_row {l : List UInt8} (hl : l.length ≤ 1048576) {p : Nat} (hp : p ≤ l.length) (bad : Bool) : ∃ (r : List Vl) (p' : Nat) (bad' : Bool), entry_reader_row.impl (l, (p : Int), bad) = some (r, (l, (p' : Int), bad')) ∧ p' ≤ l.length ∧ (∀ v ∈ r, Fits v) ∧ r.length ≤ 4194304 := by
  obtain ⟨s, q, b1, e, hq, hs⟩ := R_text hl hp bad
  obtain ⟨r, er, hD, hF, hL⟩ : ∃ (r : List Vl) (er : Int), schema_DecodeRow.impl s = some (r, er) ∧ (∀ v ∈ r, Fits v) ∧ r.length ≤ 4194304 := by
    rw [DecodeRow_is (by omega)]
    cases hd : decR s with
    | none => exact ⟨[], 11, rfl, fun v hv => (List.not_mem_nil hv).elim, by simp⟩
    | some r =>
      obtain ⟨h1, h2, _⟩ := decR_inv hd
      exact ⟨r, 0, rfl, readL_fits (by omega) h1, by have := (rowE_zero h2).1; omega⟩
  unfold entry_reader_row.impl
  rw [e]
  simp only [Option.bind_some]
  rw [hD]
  simp only [Option.bind_some]
  cases b1 with
  | true => exact ⟨r, q, true, by simp, hq, hF, hL⟩
  | false => exact ⟨r, q, !decide (er = 0), by simp, hq, hF, hL⟩
theorem zV_fits : Fits ((0, 0, []) : Vl) := ⟨by simp, by simp⟩
theorem R_value {l : List UInt8} (hl : l.length ≤ 1048576) {p : Nat} (hp : p ≤ l.length) (bad : Bool) : ∃ (v : Vl) (p' : Nat) (bad' : Bool), entry_reader_value.impl (l, (p : Int), bad) = some (v, (l, (p' : Int), bad')) ∧ p' ≤ l.length ∧ Fits v := by
  obtain ⟨r, q, b1, e, hq, hF, hL⟩ := R_row hl hp bad
  unfold entry_reader_value.impl
  rw [e]
  simp only [Option.bind_some]
  by_cases h : r.length = 1
  · obtain ⟨v, rfl⟩ := List.length_eq_one_iff.1 h
    refine ⟨v, q, b1, ?_, hq, hF v (by simp)⟩
    rw [ite_nt (by simp), chk_pos (by simp)]; rfl
  · rw [ite_nf (by omega)]
    exact ⟨(0, 0, []), q, true, rfl, hq, zV_fits⟩
theorem zS_bnd {o : Op} (h1 : o.2.1.length ≤ 4194304) (h2 : o.2.2.1 = ([], [], [])) (h3 : o.2.2.2.1.length ≤ 4194304) (h4 : ∀ v ∈ o.2.2.2.1, Fits v) (h5 : Fits o.2.2.2.2.1) (h6 : Fits o.2.2.2.2.2.2.1) (h7 : Fits o.2.2.2.2.2.2.2.1) : BndO o := by
  refine ⟨h1, ?_, ?_, ?_, h3, h4, h5, h6, h7⟩
  · rw [h2]; exact ⟨by simp, fun c hc => (List.not_mem_nil hc).elim⟩
  · rw [h2]; simp
  · rw [h2]; simp
theorem R_op {l : List UInt8} (hl : l.length ≤ 1048576) {p : Nat} (hp : p ≤ l.length) (bad : Bool) : ∃ (o : Op) (p' : Nat) (bad' : Bool), entry_reader_op.impl (l, (p : Int), bad) = some (o, (l, (p' : Int), bad')) ∧ p' ≤ l.length ∧ BndO o := by
  obtain ⟨k, q1, b1, e1, hq1, hk⟩ := R_byte hl hp bad
  obtain ⟨s, q2, b2, e2, hq2, hs⟩ := R_text hl hq1 b1
  unfold entry_reader_op.impl
  rw [e1]
  simp only [Option.bind_some]
  rw [e2]
  simp only [Option.bind_some]
  by_cases g1 : (k : Int) = 1
  · rw [ite_dt g1]
    obtain ⟨t, q3, b3, e3, hq3, ht⟩ := R_text hl hq2 b2
    rw [e3]
    simp only [Option.bind_some]
    obtain ⟨sc, er, hD, hN, hc, hi⟩ : ∃ (sc : Sch) (er : Int), schema_Decode.impl t = some (sc, er) ∧ NamesS sc ∧ sc.2.1.length ≤ 4194304 ∧ sc.2.2.length ≤ 4194304 := by
      rw [Decode_is (by omega)]
      cases hd : decS t with
      | none => exact ⟨([], [], []), 11, rfl, ⟨by simp, fun c hc => (List.not_mem_nil hc).elim⟩, by simp, by simp⟩
      | some sc =>
        have hr : rightS sc = true := by
          unfold decS at hd
          cases hp : pS t with
          | none => rw [hp] at hd; cases hd
          | some m =>
            rw [hp] at hd
            simp only [Option.bind_some] at hd
            split at hd
            · rename_i hx; cases hd; exact hx.2
            · cases hd
        have h3 := len3 hr
        exact ⟨sc, 0, rfl, ⟨by have := name_len (name_of hr); omega, fun c hc => by have := colP_name (col_of hr c hc); omega⟩, by omega, by omega⟩
    rw [hD]
    simp only [Option.bind_some]
    unfold entry_reader_op.k1
    have hB : BndO ((k : Int), s, sc, ([] : List Vl), (0, 0, []), 0, (0, 0, []), (0, 0, []), 0) := ⟨by simp only []; omega, hN, hc, hi, by simp, fun v hv => (List.not_mem_nil hv).elim, zV_fits, zV_fits, zV_fits⟩
    cases b3 with
    | true => exact ⟨_, q3, true, by simp, hq3, hB⟩
    | false => exact ⟨_, q3, !decide (er = 0), by simp, hq3, hB⟩
  · rw [ite_df g1]
    have key : ∃ (o : Op) (p' : Nat) (bad' : Bool), entry_reader_op.k2 (l, (p : Int), bad) (s, (l, (q2 : Int), b2)) ((k : Int), (l, (q1 : Int), b1)) (decide ((k : Int) = 2 ∨ (k : Int) = 3)) = some (o, (l, (p' : Int), bad')) ∧ p' ≤ l.length ∧ BndO o := by
      unfold entry_reader_op.k2
      by_cases g2 : (k : Int) = 2 ∨ (k : Int) = 3
      · rw [ite_dt g2]
        obtain ⟨r, q3, b3, e3, hq3, hF, hL⟩ := R_row hl hq2 b2
        simp only []
        rw [e3]
        simp only [Option.bind_some]
        exact ⟨_, q3, b3, rfl, hq3, zS_bnd (by simp only []; omega) rfl hL hF zV_fits zV_fits zV_fits⟩
      · rw [ite_df g2]
        have key3 : ∃ (o : Op) (p' : Nat) (bad' : Bool), entry_reader_op.k3 (l, (p : Int), bad) (s, (l, (q2 : Int), b2)) ((k : Int), (l, (q1 : Int), b1)) (decide ((k : Int) = 4 ∨ (k : Int) = 5)) = some (o, (l, (p' : Int), bad')) ∧ p' ≤ l.length ∧ BndO o := by
          unfold entry_reader_op.k3
          obtain ⟨v, q3, b3, e3, hq3, hF⟩ := R_value hl hq2 b2
          simp only []
          by_cases g3 : (k : Int) = 4 ∨ (k : Int) = 5
          · rw [ite_dt g3, e3]
            simp only [Option.bind_some]
            exact ⟨_, q3, b3, rfl, hq3, zS_bnd (by simp only []; omega) rfl (by simp) (fun v hv => (List.not_mem_nil hv).elim) hF zV_fits zV_fits⟩
          · rw [ite_df g3, e3]
            simp only [Option.bind_some]
            obtain ⟨v2, q4, b4, e4, hq4, hF2⟩ := R_value hl hq3 b3
            obtain ⟨c, q5, b5, e5, hq5, hc⟩ := R_byte hl hq4 b4
            obtain ⟨m, q6, b6, e6, hq6, hm⟩ := R_byte hl hq5 b5
            rw [e4]
            simp only [Option.bind_some]
            rw [e5]
            simp only [Option.bind_some]
            rw [e6]
            simp only [Option.bind_some]
            exact ⟨_, q6, b6, rfl, hq6, zS_bnd (by simp only []; omega) rfl (by simp) (fun v hv => (List.not_mem_nil hv).elim) zV_fits hF hF2⟩
        simp only []
        by_cases g4 : (k : Int) = 4
        · rw [ite_dt g4]
          rw [decide_eq_true (Or.inl g4 : (k : Int) = 4 ∨ (k : Int) = 5)] at key3
          rw [decide_eq_true g4]; exact key3
        · rw [ite_df g4]
          rw [show decide ((k : Int) = 4 ∨ (k : Int) = 5) = decide ((k : Int) = 5) from decide_eq_decide.2 (by omega)] at key3
          exact key3
    by_cases g2 : (k : Int) = 2
    · rw [ite_dt g2]
      rw [decide_eq_true (Or.inl g2 : (k : Int) = 2 ∨ (k : Int) = 3)] at key
      rw [decide_eq_true g2]; exact key
    · rw [ite_df g2]
      rw [show decide ((k : Int) = 2 ∨ (k : Int) = 3) = decide ((k : Int) = 3) from decide_eq_decide.2 (by omega)] at key
      exact key
theorem ops_loop {l : List UInt8} (hl : l.length ≤ 1048576) : ∀ (n p : Nat) (bad : Bool) (acc : List Op), p ≤ l.length → acc.length + n ≤ 300 → (∀ o ∈ acc, BndO o) →
    ∃ (p' : Nat) (bad' : Bool) (acc' : List Op), loop (entry_Decode.st2 l) ((p : Int), bad, acc, (n : Int)) = some ((p' : Int), bad', acc') ∧ p' ≤ l.length ∧ (∀ o ∈ acc', BndO o)
  | 0, p, bad, acc, hp, ha, hB => by
    refine ⟨p, bad, acc, ?_, hp, hB⟩
    exact loop_last (by unfold entry_Decode.st2; rw [ite_df (by simp)]; unfold entry_Decode.k5; simp)
  | n + 1, p, true, acc, hp, ha, hB => by
    refine ⟨p, true, acc, ?_, hp, hB⟩
    exact loop_last (by unfold entry_Decode.st2; rw [ite_dt (by simp only []; omega)]; unfold entry_Decode.k5; simp)
  | n + 1, p, false, acc, hp, ha, hB => by
    obtain ⟨o, q, b, e, hq, ho⟩ := R_op hl hp false
    obtain ⟨p', bad', acc', h1, h2, h3⟩ := ops_loop hl n q b (acc ++ [o]) hq (by rw [List.length_append, List.length_singleton]; omega) (fun x hx => by
      rcases List.mem_append.1 hx with h | h
      · exact hB x h
      · rw [List.mem_singleton.1 h]; exact ho)
    refine ⟨p', bad', acc', ?_, h2, h3⟩
    have hs : entry_Decode.st2 l ((p : Int), false, acc, ((n + 1 : Nat) : Int)) = some (.inl ((q : Int), b, acc ++ [o], (n : Int))) := by
      unfold entry_Decode.st2
      rw [ite_dt (by simp only []; omega)]
      unfold entry_Decode.k5
      simp only [Bool.not_false, if_true]
      rw [e]
      simp only [Option.bind_some]
      rw [chk_pos (by simp only [List.length_singleton]; omega), i64_id (by omega)]
      congr 5
      omega
    rw [loop_more hs]; exact h1
/-- Whatever the bytes are: an entry whose bytes they are, or none. -/
theorem Decode_tot {l : List UInt8} (hl : l.length ≤ 1048576) : ∃ (e : Ent) (f : Int), entry_Decode.impl l = some (e, f) ∧ (f = 0 ∧ BndE e ∧ entR e = true ∧ encE e = l ∨ f = 11 ∧ e = (0, 0, [], 0)) := by
  obtain ⟨k, q1, b1, e1, hq1, hk⟩ := R_byte hl (Nat.zero_le l.length) false
  obtain ⟨sv, q2, b2, e2, hq2, hsv⟩ := R_byte hl hq1 b1
  obtain ⟨n, q3, b3, e3, hq3⟩ := R_uint hl hq2 b2
  unfold entry_Decode.impl
  have e1 : entry_reader_byte.impl (l, 0, false) = some ((k : Int), (l, (q1 : Int), b1)) := e1
  rw [e1]
  simp only [Option.bind_some]
  rw [e2]
  simp only [Option.bind_some]
  rw [e3]
  simp only [Option.bind_some]
  let I : (Int × Bool × List Cmd) → Prop := fun s => ∃ p : Nat, s.1 = (p : Int) ∧ p ≤ l.length ∧ s.2.2.length ≤ 4 ∧ ∀ c ∈ s.2.2, BndC c
  have lp := loop_inv (step := entry_Decode.st1 l) (I := I) (Q := fun r => ∀ c ∈ r.2.2, BndC c) (fun s => 5 - s.2.2.length) (by
    rintro ⟨p0, bad, cs⟩ ⟨p, hp0, hp, h4, hB⟩
    have hp0 : p0 = (p : Int) := hp0
    subst hp0
    have stop : entry_Decode.k3 l ((p : Int), bad, cs) false = some (.inr ((p : Int), bad, cs)) := by unfold entry_Decode.k3; simp
    unfold entry_Decode.st1
    simp only []
    cases bad with
    | true => left; simp only [if_true]; exact ⟨_, stop, hB⟩
    | false =>
      simp only [Bool.false_eq_true, if_false]
      by_cases g : (p : Int) < l.length
      · rw [ite_dt g]
        by_cases g2 : (cs.length : Int) ≤ 3
        · right
          obtain ⟨a, p1, c1, f1, hp1, ha⟩ := R_byte hl hp false
          obtain ⟨q, p2, c2, f2, hp2⟩ := R_uint hl hp1 c1
          obtain ⟨m, p3, c3, f3, hp3, hm⟩ := R_byte hl hp2 c2
          obtain ⟨p4, c4, os, f4, hp4, hO⟩ := ops_loop hl m p3 c3 [] hp3 (by simp; omega) (fun o ho => (List.not_mem_nil ho).elim)
          refine ⟨((p4 : Int), c4, cs ++ [((a : Int), (q : Int), os)]), ?_, ⟨p4, rfl, hp4, by simp only [List.length_append, List.length_singleton]; omega, fun c hc => ?_⟩, by simp only [List.length_append, List.length_singleton]; omega⟩
          · rw [decide_eq_true g2]
            unfold entry_Decode.k3
            simp only [if_true]
            rw [f1]
            simp only [Option.bind_some]
            rw [f2]
            simp only [Option.bind_some]
            rw [f3]
            simp only [Option.bind_some]
            rw [f4]
            simp only [Option.bind_some]
            unfold entry_Decode.k4
            rw [chk_pos (by simp only [List.length_singleton]; omega)]
          · rcases List.mem_append.1 hc with h | h
            · exact hB c h
            · rw [List.mem_singleton.1 h]; exact hO
        · left; rw [decide_eq_false g2]; exact ⟨_, stop, hB⟩
      · left; rw [ite_df g]; exact ⟨_, stop, hB⟩)
  obtain ⟨⟨p5, b5, cs⟩, h5, hB⟩ := lp ((q3 : Int), b3, []) ⟨q3, rfl, hq3, by simp, fun c hc => (List.not_mem_nil hc).elim⟩
  rw [h5]
  simp only [Option.bind_some]
  have hBE : BndE ((k : Int), (sv : Int), cs, (n : Int)) := hB
  unfold entry_Decode.k1
  simp only []
  rw [Enc_e hBE]
  simp only [Option.bind_some]
  have hno : entry_Decode.k2 ((k : Int), (l, (q1 : Int), b1)) ((sv : Int), (l, (q2 : Int), b2)) (p5, b5, cs) ((n : Int), (l, (q3 : Int), b3)) true = some ((0, 0, [], 0), 11) := by unfold entry_Decode.k2; simp
  cases b5 with
  | true => simp only [if_true]; exact ⟨_, _, hno, .inr ⟨rfl, rfl⟩⟩
  | false =>
    simp only [Bool.false_eq_true, if_false]
    cases hR : entR ((k : Int), (sv : Int), cs, (n : Int)) with
    | false =>
      simp only [Bool.false_eq_true, if_false]
      rw [ite_df (by decide)]
      exact ⟨_, _, hno, .inr ⟨rfl, rfl⟩⟩
    | true =>
      simp only [if_true, decide_true, bytes_Equal.impl, Option.bind_some]
      by_cases hE : encE ((k : Int), (sv : Int), cs, (n : Int)) = l
      · rw [decide_eq_true hE]
        refine ⟨_, 0, ?_, .inl ⟨rfl, hBE, hR, hE⟩⟩
        unfold entry_Decode.k2
        simp
      · rw [decide_eq_false hE]
        exact ⟨_, _, hno, .inr ⟨rfl, rfl⟩⟩
end Go.Proofs.YtpogdeibkghhaaaDoor
