/- Layer 1: what is written one behind the other is read one behind the other, in plain terms. -/
import Derived.Test.YthhgagkacogigaaLaws2
set_option linter.unusedVariables false
set_option linter.unusedSimpArgs false
namespace Go.Proofs.Ythhgagkacogigaa
open Go Go.RowKit
section
variable (l0 : List Int) (l1 : List (List UInt8))
def rowNum (i : Nat) : Nat := (l0.getD i default % 9223372036854775808).toNat
def rowText (i : Nat) : List UInt8 := (l1.getD i default).take 50
def rowA (i : Nat) : List UInt8 := uint (rowNum l0 i)
def rowB (i : Nat) : List UInt8 := if i < l1.length then uint (rowText l1 i).length ++ rowText l1 i else []
def rowAll : Nat → List UInt8
  | 0 => []
  | i + 1 => rowAll i ++ rowA l0 i ++ rowB l1 i
def rowEnds : Nat → List Int
  | 0 => []
  | i + 1 => rowEnds i ++ [((rowAll l0 l1 i ++ rowA l0 i).length : Int)] ++ [((rowAll l0 l1 (i + 1)).length : Int)]
theorem rowNum_lt (i : Nat) : rowNum l0 i < 9223372036854775808 := by unfold rowNum; omega
theorem rowNum_is (i : Nat) : bitsOf .and .i64 (l0.getD i default) 9223372036854775807 = (rowNum l0 i : Int) := by rw [i64_mask63]; unfold rowNum; omega
theorem rowText_le (i : Nat) : (rowText l1 i).length ≤ 50 := by unfold rowText; rw [List.length_take]; omega
theorem rowA_le (i : Nat) : (rowA l0 i).length ≤ 9 := uint_le (rowNum_lt l0 i)
theorem rowB_le (i : Nat) : (rowB l1 i).length ≤ 59 := by
  have := rowText_le l1 i
  have := uint_le (n := (rowText l1 i).length) (by omega)
  unfold rowB; split
  · rw [List.length_append]; omega
  · simp
theorem rowAll_le (i : Nat) : (rowAll l0 l1 i).length ≤ 68 * i := by
  induction i with
  | zero => simp [rowAll]
  | succ i ih =>
    have := rowA_le l0 i
    have := rowB_le l1 i
    simp only [rowAll, List.length_append]; omega
theorem rowEnds_length (i : Nat) : (rowEnds l0 l1 i).length = 2 * i := by
  induction i with
  | zero => rfl
  | succ i ih => simp only [rowEnds, List.length_append, List.length_singleton, ih]; omega
theorem rowEnds_get {n i : Nat} (h : i < n) (d : Int) : (rowEnds l0 l1 n).getD (2 * i) d = ((rowAll l0 l1 i ++ rowA l0 i).length : Int) ∧ (rowEnds l0 l1 n).getD (2 * i + 1) d = ((rowAll l0 l1 (i + 1)).length : Int) := by
  induction n with
  | zero => omega
  | succ n ih =>
    have hl := rowEnds_length l0 l1 n
    simp only [rowEnds, List.getD_eq_getElem?_getD]
    by_cases hi : i = n
    · subst hi
      constructor
      · rw [List.getElem?_append_left (by rw [List.length_append]; simp; omega), List.getElem?_append_right (by omega), hl, Nat.sub_self]; rfl
      · rw [List.getElem?_append_right (by rw [List.length_append]; simp; omega), List.length_append, hl, List.length_singleton, Nat.sub_self]; rfl
    · have := ih (by omega)
      simp only [List.getD_eq_getElem?_getD] at this
      rw [List.getElem?_append_left (by rw [List.length_append]; simp; omega), List.getElem?_append_left (by omega), List.getElem?_append_left (by rw [List.length_append]; simp; omega), List.getElem?_append_left (by omega)]
      exact this
theorem rowAll_more {n i : Nat} (h : i ≤ n) : ∃ suf, rowAll l0 l1 n = rowAll l0 l1 i ++ suf := by
  induction n with
  | zero => exact ⟨[], by rw [show i = 0 by omega]; simp⟩
  | succ n ih =>
    by_cases hi : i = n + 1
    · exact ⟨[], by rw [hi]; simp⟩
    · obtain ⟨suf, hs⟩ := ih (by omega)
      exact ⟨suf ++ rowA l0 n ++ rowB l1 n, by simp only [rowAll]; rw [hs]; simp⟩
end
section
variable {l0 : List Int} {l1 : List (List UInt8)}
theorem row_write (hl1 : ∀ t ∈ l1, t.length ≤ 9223372036854775807) {i : Nat} (hi : i < l0.length) (h20 : i < 20) :
    law1_WireRow.st2 l0 l1 (rowAll l0 l1 i, rowEnds l0 l1 i, (i : Int)) = some (.inl (rowAll l0 l1 (i + 1), rowEnds l0 l1 (i + 1), ((i + 1 : Nat) : Int))) := by
  have w : IntKind.i64.wrap ((i : Int) + 1) = ((i + 1 : Nat) : Int) := by rw [i64_id (by omega)]; omega
  have ha := rowAll_le l0 l1 i
  have hA := rowA_le l0 i
  have hB := rowB_le l1 i
  have hT := rowText_le l1 i
  have he := rowEnds_length l0 l1 i
  unfold law1_WireRow.st2
  simp only [Int.toNat_natCast, rowNum_is, Uint_is (rowNum_lt l0 i), Option.bind_some]
  change (if decide ((i : Int) < min (l0.length : Int) 20) = true then chk (0 ≤ (i : Int) ∧ (i : Int) < (l0.length : Int)) (chk (((rowAll l0 l1 i).length + (rowA l0 i).length) * 1 ≤ 140737488355328) (chk (((rowEnds l0 l1 i).length + 1) * 8 ≤ 140737488355328) (if decide ((i : Int) < (l1.length : Int)) = true then _ else _))) else _) = _
  rw [ite_dt (by omega), chk_pos (by omega), chk_pos (by omega), chk_pos (by omega)]
  by_cases h : i < l1.length
  · have ht : l1.getD i default ∈ l1 := by rw [List.getD_eq_getElem?_getD, List.getElem?_eq_getElem h]; exact List.getElem_mem h
    have hlt := hl1 _ ht
    have es : subl (l1.getD i default) 0 (min ((l1.getD i default).length : Int) 50) = rowText l1 i := by
      unfold subl rowText
      have : (min ((l1.getD i default).length : Int) 50).toNat = min (l1.getD i default).length 50 := by omega
      rw [this, List.take_eq_take_iff.2 (show min (min (l1.getD i default).length 50) (l1.getD i default).length = min 50 (l1.getD i default).length by omega)]; rfl
    rw [ite_dt (by omega), chk_pos (by omega), chk_pos (by omega), chk_pos (by omega), es, Bytes_is (by omega)]
    simp only [Option.bind_some, law1_WireRow.k6, w]
    have hb : rowB l1 i = uint (rowText l1 i).length ++ rowText l1 i := if_pos h
    rw [← hb]
    rw [show uint (rowNum l0 i) = rowA l0 i from rfl]
    rw [chk_pos (by simp only [List.length_append]; omega), chk_pos (by simp only [List.length_append, List.length_singleton]; omega)]
    simp only [rowAll, rowEnds, List.append_assoc]
  · rw [ite_df (by omega)]
    simp only [law1_WireRow.k6, w]
    have hb : rowB l1 i = [] := if_neg h
    rw [show uint (rowNum l0 i) = rowA l0 i from rfl]
    rw [chk_pos (by simp only [List.length_append, List.length_singleton]; omega)]
    simp only [rowAll, rowEnds, hb, List.append_assoc, List.append_nil]
theorem row_read (hl1 : ∀ t ∈ l1, t.length ≤ 9223372036854775807) {n cut i : Nat} {a2 : Int} (sp : List UInt8) (hn : (n : Int) = min (l0.length : Int) 20) (hcut : Int.tmod (bitsOf .and .i64 a2 1099511627775) (((rowAll l0 l1 n).length + 1 : Nat) : Int) = (cut : Int)) (hc : cut ≤ (rowAll l0 l1 n).length)
    (hi : i < n) (ha : (rowAll l0 l1 i).length ≤ cut) :
    law1_WireRow.st1 l0 ((rowAll l0 l1 n).take cut, sp) (rowAll l0 l1 n, rowEnds l0 l1 n) a2 l1 (((rowAll l0 l1 i).length : Int), (i : Int)) = some (.inr (.inl true)) ∨
    (law1_WireRow.st1 l0 ((rowAll l0 l1 n).take cut, sp) (rowAll l0 l1 n, rowEnds l0 l1 n) a2 l1 (((rowAll l0 l1 i).length : Int), (i : Int)) = some (.inl (((rowAll l0 l1 (i + 1)).length : Int), ((i + 1 : Nat) : Int))) ∧ (rowAll l0 l1 (i + 1)).length ≤ cut) := by
  have hall := rowAll_le l0 l1 n
  have w1 : IntKind.i64.wrap (((rowAll l0 l1 n).length : Int) + 1) = (((rowAll l0 l1 n).length + 1 : Nat) : Int) := by rw [i64_id (by omega)]; omega
  have w2 : IntKind.i64.wrap (2 * (i : Int)) = ((2 * i : Nat) : Int) := by rw [i64_id (by omega)]; omega
  have w3 : IntKind.i64.wrap (((2 * i : Nat) : Int) + 1) = ((2 * i + 1 : Nat) : Int) := by rw [i64_id (by omega)]; omega
  have w4 : IntKind.i64.wrap ((i : Int) + 1) = ((i + 1 : Nat) : Int) := by rw [i64_id (by omega)]; omega
  have hel := rowEnds_length l0 l1 n
  obtain ⟨hg1, hg2⟩ := rowEnds_get l0 l1 hi (default : Int)
  have hA := rowA_le l0 i
  have hN := rowNum_lt l0 i
  have hT := rowText_le l1 i
  have e1 : (rowAll l0 l1 i ++ rowA l0 i).length = (rowAll l0 l1 i).length + (rowA l0 i).length := List.length_append
  have e2 : (rowAll l0 l1 (i + 1)).length = (rowAll l0 l1 i).length + (rowA l0 i).length + (rowB l1 i).length := by simp only [rowAll, List.length_append]
  obtain ⟨suf, hsuf⟩ := rowAll_more l0 l1 (n := n) (i := i + 1) (by omega)
  have hsplit : rowAll l0 l1 n = rowAll l0 l1 i ++ (rowA l0 i ++ (rowB l1 i ++ suf)) := by rw [hsuf]; simp [rowAll]
  have hpl : ((rowAll l0 l1 n).take cut).length = cut := by rw [List.length_take]; omega
  have unf : ∀ r3, wire_ReadUint.impl ((rowAll l0 l1 n).take cut) ((rowAll l0 l1 i).length : Int) = some r3 → law1_WireRow.st1 l0 ((rowAll l0 l1 n).take cut, sp) (rowAll l0 l1 n, rowEnds l0 l1 n) a2 l1 (((rowAll l0 l1 i).length : Int), (i : Int)) =
      (if decide ((cut : Int) < ((rowAll l0 l1 i).length + (rowA l0 i).length : Nat)) = true then some (.inr (.inl (decide (r3.2.2 = 10)))) else (if decide (r3.2.2 = 0) = true then (if decide (r3.1 = (rowNum l0 i : Int)) = true then law1_WireRow.k4 (((rowAll l0 l1 i).length : Int), (i : Int)) l1 ((rowAll l0 l1 n).take cut, sp) r3 (rowAll l0 l1 n, rowEnds l0 l1 n) a2 (!(decide (r3.2.1 = ((rowAll l0 l1 i).length + (rowA l0 i).length : Nat)))) else law1_WireRow.k4 (((rowAll l0 l1 i).length : Int), (i : Int)) l1 ((rowAll l0 l1 n).take cut, sp) r3 (rowAll l0 l1 n, rowEnds l0 l1 n) a2 true) else law1_WireRow.k4 (((rowAll l0 l1 i).length : Int), (i : Int)) l1 ((rowAll l0 l1 n).take cut, sp) r3 (rowAll l0 l1 n, rowEnds l0 l1 n) a2 true)) := by
    intro r3 h3
    unfold law1_WireRow.st1
    simp only [h3, Option.bind_some, w1, w2, hcut, hg1, e1, Int.toNat_natCast, rowNum_is, told_is]
    rw [ite_dt (by omega), chk_pos (by omega), chk_pos (by omega), chk_pos (by omega), if_pos trivial]
  by_cases hs : cut < (rowAll l0 l1 i).length + (rowA l0 i).length
  · left
    have hp : (rowAll l0 l1 n).take cut = rowAll l0 l1 i ++ (rowA l0 i).take (cut - (rowAll l0 l1 i).length) := by
      rw [hsplit, List.take_append, List.take_of_length_le ha, List.take_append_of_le_length (by omega)]
    have hr := RU_short (n := rowNum l0 i) (j := cut - (rowAll l0 l1 i).length) (rowAll l0 l1 i) hN (by show _ < (rowA l0 i).length; omega) (by rw [show uint (rowNum l0 i) = rowA l0 i from rfl, ← hp, hpl]; omega)
    rw [show uint (rowNum l0 i) = rowA l0 i from rfl, ← hp] at hr
    rw [unf _ hr, ite_dt (by omega)]; rfl
  · have hp : (rowAll l0 l1 n).take cut = rowAll l0 l1 i ++ (rowA l0 i ++ (rowB l1 i ++ suf).take (cut - (rowAll l0 l1 i).length - (rowA l0 i).length)) := by
      rw [hsplit, List.take_append, List.take_of_length_le ha, List.take_append, List.take_of_length_le (l := rowA l0 i) (by omega)]
    have hr := RU_uint (n := rowNum l0 i) (rowAll l0 l1 i) ((rowB l1 i ++ suf).take (cut - (rowAll l0 l1 i).length - (rowA l0 i).length)) hN (by rw [show uint (rowNum l0 i) = rowA l0 i from rfl, ← hp, hpl]; omega)
    rw [show uint (rowNum l0 i) = rowA l0 i from rfl, ← hp] at hr
    rw [unf _ hr]
    rw [ite_df (by omega), ite_dt rfl, ite_dt rfl, show (!(decide ((((rowAll l0 l1 i).length + (rowA l0 i).length : Nat) : Int) = ((rowAll l0 l1 i).length + (rowA l0 i).length : Nat)))) = false by simp]
    unfold law1_WireRow.k4
    rw [ite_f rfl]
    by_cases h : i < l1.length
    · have ht : l1.getD i default ∈ l1 := by rw [List.getD_eq_getElem?_getD, List.getElem?_eq_getElem h]; exact List.getElem_mem h
      have hlt := hl1 _ ht
      have es : subl (l1.getD i default) 0 (min ((l1.getD i default).length : Int) 50) = rowText l1 i := by
        unfold subl rowText
        have : (min ((l1.getD i default).length : Int) 50).toNat = min (l1.getD i default).length 50 := by omega
        rw [this, List.take_eq_take_iff.2 (show min (min (l1.getD i default).length 50) (l1.getD i default).length = min 50 (l1.getD i default).length by omega)]; rfl
      have hb : rowB l1 i = uint (rowText l1 i).length ++ rowText l1 i := if_pos h
      have hbl : (rowB l1 i).length = (uint (rowText l1 i).length).length + (rowText l1 i).length := by rw [hb, List.length_append]
      have hp2 : (rowAll l0 l1 n).take cut = (rowAll l0 l1 i ++ rowA l0 i) ++ (uint (rowText l1 i).length ++ (rowText l1 i ++ suf)).take (cut - (rowAll l0 l1 i).length - (rowA l0 i).length) := by
        rw [hp, hb]; simp
      have unf2 : ∀ r5, wire_ReadBytes.impl ((rowAll l0 l1 n).take cut) ((((rowAll l0 l1 i).length + (rowA l0 i).length : Nat) : Int)) 50 = some r5 →
          (if decide ((i : Int) < (l1.length : Int)) = true then (wire_ReadBytes.impl ((rowAll l0 l1 n).take cut) ((((rowAll l0 l1 i).length + (rowA l0 i).length : Nat) : Int)) 50).bind fun r5 => chk (0 ≤ (IntKind.i64.wrap ((IntKind.i64.wrap (2 * (i : Int))) + 1)) ∧ (IntKind.i64.wrap ((IntKind.i64.wrap (2 * (i : Int))) + 1)) < ((rowEnds l0 l1 n).length : Int)) ((if ((decide (((Int.tmod (bitsOf .and .i64 a2 1099511627775) (IntKind.i64.wrap (((rowAll l0 l1 n).length : Int) + 1)))) < (((rowEnds l0 l1 n)).getD (IntKind.i64.wrap ((IntKind.i64.wrap (2 * (i : Int))) + 1) : Int).toNat default)))) = true then (law1_told.impl ).bind fun r6 => (if r6 = true then some (.inr (.inl (decide (r5.2.2 = 10)))) else some (.inr (.inl false))) else (if ((decide (r5.2.2 = 0))) = true then chk (0 ≤ (i : Int) ∧ (i : Int) < (l1.length : Int)) (chk (0 ≤ (i : Int) ∧ (i : Int) < (l1.length : Int)) (chk (0 ≤ (min (((((l1).getD ((i : Int)).toNat default)).length : Int)) 50) ∧ (min (((((l1).getD ((i : Int)).toNat default)).length : Int)) 50) ≤ ((((l1).getD ((i : Int)).toNat default)).length : Int)) ((if ((decide (r5.1 = (subl (((l1).getD ((i : Int)).toNat default)) 0 (min (((((l1).getD ((i : Int)).toNat default)).length : Int)) 50))))) = true then chk (0 ≤ (IntKind.i64.wrap ((IntKind.i64.wrap (2 * (i : Int))) + 1)) ∧ (IntKind.i64.wrap ((IntKind.i64.wrap (2 * (i : Int))) + 1)) < ((rowEnds l0 l1 n).length : Int)) (law1_WireRow.k5 (((rowAll l0 l1 i).length : Int), (i : Int)) r5 (!(decide (r5.2.1 = (((rowEnds l0 l1 n)).getD (IntKind.i64.wrap ((IntKind.i64.wrap (2 * (i : Int))) + 1) : Int).toNat default))))) else law1_WireRow.k5 (((rowAll l0 l1 i).length : Int), (i : Int)) r5 true)))) else law1_WireRow.k5 (((rowAll l0 l1 i).length : Int), (i : Int)) r5 true))) else law1_WireRow.k3 (((rowAll l0 l1 i).length : Int), (i : Int)) (((rowAll l0 l1 i).length + (rowA l0 i).length : Nat) : Int))
          = (if decide ((cut : Int) < ((rowAll l0 l1 (i + 1)).length : Int)) = true then some (.inr (.inl (decide (r5.2.2 = 10)))) else (if decide (r5.2.2 = 0) = true then (if decide (r5.1 = rowText l1 i) = true then law1_WireRow.k5 (((rowAll l0 l1 i).length : Int), (i : Int)) r5 (!(decide (r5.2.1 = ((rowAll l0 l1 (i + 1)).length : Int)))) else law1_WireRow.k5 (((rowAll l0 l1 i).length : Int), (i : Int)) r5 true) else law1_WireRow.k5 (((rowAll l0 l1 i).length : Int), (i : Int)) r5 true)) := by
        intro r5 h5
        simp only [h5, Option.bind_some, w1, w2, w3, hcut, hg2, Int.toNat_natCast, told_is, es]
        rw [ite_dt (by omega), chk_pos (by omega), chk_pos (by omega), chk_pos (by omega), chk_pos (by omega), chk_pos (by omega), if_pos trivial]
      by_cases hm : cut - (rowAll l0 l1 i).length - (rowA l0 i).length < (uint (rowText l1 i).length).length
      · left
        have hp3 : (rowAll l0 l1 n).take cut = (rowAll l0 l1 i ++ rowA l0 i) ++ (uint (rowText l1 i).length).take (cut - (rowAll l0 l1 i).length - (rowA l0 i).length) := by
          rw [hp2, List.take_append_of_le_length (by omega)]
        have hr2 := RU_short (n := (rowText l1 i).length) (j := cut - (rowAll l0 l1 i).length - (rowA l0 i).length) (rowAll l0 l1 i ++ rowA l0 i) (by omega) hm (by rw [← hp3, hpl]; omega)
        rw [← hp3, e1] at hr2
        rw [unf2 _ (rb_err hr2 (by decide)), ite_dt (by omega)]; rfl
      · have hp3 : (rowAll l0 l1 n).take cut = (rowAll l0 l1 i ++ rowA l0 i) ++ (uint (rowText l1 i).length ++ (rowText l1 i ++ suf).take (cut - (rowAll l0 l1 i).length - (rowA l0 i).length - (uint (rowText l1 i).length).length)) := by
          rw [hp2, List.take_append, List.take_of_length_le (l := uint _) (by omega)]
        have hr2 := RU_uint (n := (rowText l1 i).length) (rowAll l0 l1 i ++ rowA l0 i) ((rowText l1 i ++ suf).take (cut - (rowAll l0 l1 i).length - (rowA l0 i).length - (uint (rowText l1 i).length).length)) (by omega) (by rw [← hp3, hpl]; omega)
        rw [← hp3, e1] at hr2
        by_cases hm2 : cut < (rowAll l0 l1 (i + 1)).length
        · left
          rw [unf2 _ (rb_short hr2 (by omega) (by omega) (by omega) (by omega)), ite_dt (by omega)]; rfl
        · right
          have ok := rb_ok hr2 (m := 50) (by omega) (by omega) (by omega) (by omega)
          have ed : (((rowAll l0 l1 n).take cut).drop ((rowAll l0 l1 i).length + (rowA l0 i).length + (uint (rowText l1 i).length).length)).take (rowText l1 i).length = rowText l1 i := by
            rw [hp3, ← List.append_assoc, List.drop_append_of_le_length (by simp; omega), List.drop_of_length_le (by simp; omega), List.nil_append, List.take_take, List.take_append_of_le_length (by omega), List.take_of_length_le (by omega)]
          rw [ed] at ok
          rw [unf2 _ ok, ite_df (by omega), ite_dt rfl, ite_dt rfl]
          have e3 : (rowAll l0 l1 i).length + (rowA l0 i).length + (uint (rowText l1 i).length).length + (rowText l1 i).length = (rowAll l0 l1 (i + 1)).length := by omega
          rw [e3, show (!(decide (((rowAll l0 l1 (i + 1)).length : Int) = ((rowAll l0 l1 (i + 1)).length : Int)))) = false by simp]
          unfold law1_WireRow.k5 law1_WireRow.k3
          rw [ite_f rfl, w4]
          exact ⟨rfl, by omega⟩
    · right
      have hb : rowB l1 i = [] := if_neg h
      rw [hb, List.length_nil] at e2
      rw [ite_df (by omega)]
      unfold law1_WireRow.k3
      rw [w4, e2]
      exact ⟨rfl, by omega⟩
theorem row_true (a2 : Int) (hl0 : l0.length ≤ 9223372036854775807) (hl1 : ∀ t ∈ l1, t.length ≤ 9223372036854775807) : law1_WireRow.impl l0 l1 a2 = some true := by
  obtain ⟨n, hn, hn2⟩ : ∃ n : Nat, (n : Int) = min (l0.length : Int) 20 ∧ n = min l0.length 20 := ⟨min l0.length 20, by omega, rfl⟩
  have write := loop_up (step := law1_WireRow.st2 l0 l1) (r := (rowAll l0 l1 n, rowEnds l0 l1 n)) (fun i => (rowAll l0 l1 i, rowEnds l0 l1 i, (i : Int))) n (fun i hi => row_write hl1 (by omega) (by omega)) (by
    unfold law1_WireRow.st2
    rw [ite_df (by simp only; omega)])
  have hall := rowAll_le l0 l1 n
  have w1 : IntKind.i64.wrap (((rowAll l0 l1 n).length : Int) + 1) = (((rowAll l0 l1 n).length + 1 : Nat) : Int) := by rw [i64_id (by omega)]; omega
  obtain ⟨cut, hcut, hlt⟩ := place a2 ((rowAll l0 l1 n).length + 1) (by omega)
  have hpl : ((rowAll l0 l1 n).take cut).length = cut := by rw [List.length_take]; omega
  have es : subl (rowAll l0 l1 n) 0 (cut : Int) = (rowAll l0 l1 n).take cut := by simp [subl]
  unfold law1_WireRow.impl
  erw [write]
  simp only [Option.bind_some]
  unfold law1_WireRow.k1
  simp only [w1, hcut, es]
  rw [chk_pos (by omega), chk_pos (by omega), roomy_is (by omega)]
  simp only [Option.bind_some]
  obtain ⟨r, hr, hq⟩ := loop_inv (step := law1_WireRow.st1 l0 ((rowAll l0 l1 n).take cut, (rowAll l0 l1 n).take cut ++ [77, 78]) (rowAll l0 l1 n, rowEnds l0 l1 n) a2 l1)
    (I := fun s => ∃ i, i ≤ n ∧ s = (((rowAll l0 l1 i).length : Int), (i : Int)) ∧ (rowAll l0 l1 i).length ≤ cut) (Q := fun r => match r with | .inl b => b = true | .inr v => v = (cut : Int)) (fun s => n - s.2.toNat) (fun s hs => by
      obtain ⟨i, hi, rfl, hc⟩ := hs
      by_cases h : i = n
      · left
        subst h
        refine ⟨.inr ((rowAll l0 l1 i).length : Int), ?_, by show _ = _; omega⟩
        unfold law1_WireRow.st1
        rw [ite_df (by simp only; omega)]
      · rcases row_read (a2 := a2) hl1 ((rowAll l0 l1 n).take cut ++ [77, 78]) hn hcut (by omega) (show i < n by omega) hc with h1 | ⟨h1, h2⟩
        · exact .inl ⟨_, h1, rfl⟩
        · exact .inr ⟨_, h1, ⟨i + 1, by omega, rfl, h2⟩, by simp only [Int.toNat_natCast]; omega⟩) (0, 0) ⟨0, by omega, rfl, by simp [rowAll]⟩
  rw [hr]
  simp only [Option.bind_some]
  cases r with
  | inl b => rw [show b = true from hq]
  | inr v =>
    rw [show v = (cut : Int) from hq]
    simp only [law1_WireRow.k2, told_is, Option.bind_some, w1, hcut]
    rw [if_pos trivial]
    simp
end
end Go.Proofs.Ythhgagkacogigaa
