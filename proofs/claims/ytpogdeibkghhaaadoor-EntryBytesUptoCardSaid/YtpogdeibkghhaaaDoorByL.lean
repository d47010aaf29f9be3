/- EntryBytes, in plain terms. -/
import Derived.Test.YtpogdeibkghhaaaDoorLawB
import Derived.Test.YtpogdeibkghhaaaDoorToldF
import Derived.Test.YtpogdeibkghhaaaDoorRdB
set_option linter.unusedVariables false
set_option linter.unusedSimpArgs false
namespace Go.Proofs.YtpogdeibkghhaaaDoor
open Go Go.RowKit Go.Lib
theorem few_few {x : Ent} (h : BndE x) : Few (fewE x) := ⟨few_bnd h, by simp [fewE]; omega, fun c hc => by
  unfold fewE at hc
  simp only [List.mem_map] at hc
  obtain ⟨d, _, rfl⟩ := hc
  simp only [List.length_take]; omega⟩
theorem bytes_k2 {a b : Ent} (ha : Few a) (hb : Few b) : law17_EntryBytes.k2 (entR a) (if entR a = true then (encE a, 0) else ([], 1)) (a.1, a.2.1, a.2.2.1, a.2.2.2, b) false = some true := by
  unfold law17_EntryBytes.k2
  simp only [Bool.false_eq_true, if_false]
  cases h : entR a with
  | false => simp
  | true =>
    simp only [Bool.not_true, Bool.false_eq_true, if_false, if_true]
    have hE : entry_Encode.impl (b.1, b.2.1, b.2.2.1, b.2.2.2) = some (if entR b = true then (encE b, 0) else ([], 1)) := Enc_e hb.bnd
    have e2 : ref17_Same.impl a (a.1, a.2.1, a.2.2.1, a.2.2.2) = some (decide (a = a)) := RSame_is ha
    have e3 : ref17_Same.impl (a.1, a.2.1, a.2.2.1, a.2.2.2) b = some (decide (a = b)) := RSame_is ha
    have hl := encE_1800 h
    have hE : entry_Encode.impl b = some (if entR b = true then (encE b, 0) else ([], 1)) := hE
    rw [Decode_enc ha.bnd h, Option.bind_some]
    first | rw [hE] | erw [hE]
    rw [Option.bind_some, ite_dt rfl]
    first | rw [e2] | erw [e2]
    rw [Option.bind_some, ite_dt rfl, ite_dt (by omega)]
    cases hb2 : entR b with
    | false => simp
    | true =>
      simp only [if_true, decide_true]
      first | rw [e3] | erw [e3]
      rw [Option.bind_some]
      congr 1
      rw [decide_eq_true_eq]
      rw [Bool.eq_iff_iff, decide_eq_true_eq, decide_eq_true_eq]
      constructor
      · intro e
        have d1 := Decode_enc ha.bnd h
        have d2 := Decode_enc hb.bnd hb2
        rw [e, d2] at d1
        simpa using d1.symm
      · intro e; rw [e]
theorem bytes_k1 {x a b : Ent} (hx : BndE x) (hax : a = fewE x) (hb : Few b) : law17_EntryBytes.k1 x (a.1, a.2.1, a.2.2.1, a.2.2.2, b) = some true := by
  have ha : Few a := by rw [hax]; exact few_few hx
  unfold law17_EntryBytes.k1
  have e1 : entry_Encode.impl (a.1, a.2.1, a.2.2.1, a.2.2.2) = some (if entR a = true then (encE a, 0) else ([], 1)) := Enc_e ha.bnd
  have e2 : ref17_Right.impl (a.1, a.2.1, a.2.2.1, a.2.2.2) = some (entR a) := RRight_is ha
  have e3 : entry_Right.impl (a.1, a.2.1, a.2.2.1, a.2.2.2) = some (entR a) := Right_e ha.bnd
  have e4 : entry_Same.impl (a.1, a.2.1, a.2.2.1, a.2.2.2) b = some (decide (a = b)) := ESame_is ha
  have e5 : ref17_Same.impl (a.1, a.2.1, a.2.2.1, a.2.2.2) b = some (decide (a = b)) := RSame_is ha
  have e6 : ref17_Same.impl (a.1, a.2.1, a.2.2.1, a.2.2.2) a = some (decide (a = a)) := RSame_is ha
  simp only
  first | rw [e1] | erw [e1]
  rw [Option.bind_some]
  first | rw [e2] | erw [e2]
  rw [Option.bind_some, told_is, Option.bind_some]
  simp only [if_true]
  first | rw [e3] | erw [e3]
  rw [Option.bind_some]
  have k := bytes_k2 ha hb
  cases h : entR a with
  | true =>
    rw [h] at k
    simp only [decide_true, if_true] at k ⊢
    first | rw [e4] | erw [e4]
    rw [Option.bind_some]
    first | rw [e5] | erw [e5]
    rw [Option.bind_some]
    simp only [decide_true, if_true]
    rw [few_is hx, Option.bind_some, ← hax]
    first | rw [e6] | erw [e6]
    rw [Option.bind_some]
    simp only [decide_true, Bool.not_true]
    exact k
  | false =>
    rw [h] at k
    simp only [decide_true, if_true, Bool.false_eq_true, if_false] at k ⊢
    rw [ite_dt (by simp)]
    rw [ite_df (by simp)]
    first | rw [e4] | erw [e4]
    rw [Option.bind_some]
    first | rw [e5] | erw [e5]
    rw [Option.bind_some]
    simp only [decide_true, if_true]
    rw [few_is hx, Option.bind_some, ← hax]
    first | rw [e6] | erw [e6]
    rw [Option.bind_some]
    simp only [decide_true, Bool.not_true]
    exact k
theorem ebytes_is {x y : Ent} (hx : BndE x) (hy : BndE y) : law17_EntryBytes.impl x y = some true := by
  unfold law17_EntryBytes.impl
  rw [few_is hx, Option.bind_some, few_is hy, Option.bind_some]
  exact bytes_k1 hx rfl (few_few hy)
end Go.Proofs.YtpogdeibkghhaaaDoor
