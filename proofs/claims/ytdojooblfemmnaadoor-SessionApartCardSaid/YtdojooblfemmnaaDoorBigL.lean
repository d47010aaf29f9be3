/- Values of any size: what is asked and written of them. -/
import Derived.Test.YtdojooblfemmnaaDoorKeyL
set_option linter.unusedVariables false
set_option linter.unusedSimpArgs false
namespace Go.Proofs.YtdojooblfemmnaaDoor
open Go Go.RowKit Go.Lib
theorem Valid_isG {l : List UInt8} (hl : l.length ≤ 9223372036854775807) : utf8_ValidString.impl l = some (validD l) := by
  unfold utf8_ValidString.impl; rw [chk_pos (by omega)]
/-- How many runes; -1: no valid text. -/
theorem Runes_isG {l : List UInt8} (hl : l.length ≤ 9223372036854775807) : keys_Runes.impl l = some (countR l) := by
  unfold keys_Runes.impl countR
  rw [Valid_isG hl]
  simp only [Option.bind_some]
  by_cases hv : validD l = true
  · rw [hv]
    simp only [Bool.not_true, Bool.false_eq_true, if_false, if_true]
    have := loop_runes (step := keys_Runes.st1 l) (l := l) (f := fun a _ => IntKind.i64.wrap (a + 1)) (Q := fun a p => 0 ≤ a ∧ a ≤ (p : Int)) (last := fun a => a) (fun a p h hp => by
        have hw := decodeL_width (l.drop p)
        rw [← runeAt_drop] at hw
        rw [i64_id (by omega)]
        refine ⟨by omega, ?_⟩
        unfold keys_Runes.st1
        rw [ite_dt hp, i64_id (by omega)]) (fun a p h hp => by
        unfold keys_Runes.st1
        rw [ite_df hp]) 0 ⟨by omega, by omega⟩
    rw [this]
    simp only [Option.bind_some, keys_Runes.k1]
    have hle := runesOf_le l
    have key : ∀ (rs : List Int) (a : Int), 0 ≤ a → a + rs.length ≤ 9223372036854775807 → rs.foldl (fun a _ => IntKind.i64.wrap (a + 1)) a = a + rs.length := by
      intro rs
      induction rs with
      | nil => intro a _ _; simp
      | cons r rs ih =>
        intro a h0 h1
        simp only [List.length_cons] at h1
        rw [List.foldl_cons, i64_id (by omega), ih _ (by omega) (by omega), List.length_cons]; omega
    rw [key _ 0 (by omega) (by omega)]; simp
  · have hv : validD l = false := by simpa using hv
    rw [hv]; rfl
theorem Right_isG {v : Vl} (hl : v.2.2.length ≤ 9223372036854775807) : keys_Right.impl v = some (rightE v) := by
  obtain ⟨k, n, s⟩ := v
  simp only at hl
  have hneg := countR_neg s
  have k5 : keys_Right.k5 (decide (countR s < 0)) = some (if validD s = true then 0 else 12) := by
    unfold keys_Right.k5
    by_cases h : validD s = true
    · rw [h]; rw [h] at hneg; simp at hneg; simp; omega
    · have h : validD s = false := by simpa using h
      rw [decide_eq_true (hneg.2 h), h]; rfl
  have k5f : keys_Right.k5 false = some 0 := rfl
  unfold keys_Right.impl keys_Right.k1 keys_Right.k2 keys_Right.k3 keys_Right.k4 keys_inside.impl rightE
  simp only
  by_cases h0 : k = 0
  · subst h0
    by_cases h1 : n = 0 <;> by_cases h2 : s = [] <;> simp [h1, h2, Dy.isStr, k5f]
  by_cases h1 : k = 1
  · subst h1
    by_cases h2 : s = [] <;> simp [h2, Dy.isStr, k5f]
  by_cases h2 : k = 2
  · subst h2
    by_cases h3 : n = 0 <;> simp [h3, Dy.isStr, Dy.asStr, Runes_isG hl, k5]
  by_cases h3 : k = 3
  · subst h3
    by_cases h4 : s = [] <;> by_cases h5 : n = 0 <;> by_cases h6 : n = 1 <;> simp [h4, h5, h6, Dy.isStr, k5f] <;> omega
  · by_cases h4 : k < 0 <;> by_cases h5 : 3 < k <;> simp [h0, h1, h2, h3, h4, h5] <;> omega
/-! ### Runes -/
def FitsG (v : Vl) : Prop := (-9223372036854775808 ≤ v.2.1 ∧ v.2.1 ≤ 9223372036854775807) ∧ v.2.2.length ≤ 9223372036854775807
def FitsK (v : Vl) : Prop := FitsG v ∧ (rightE v = 0 → v.2.2.length ≤ 4194304)
theorem FitsK.fits {v : Vl} (h : FitsK v) (hz : rightE v = 0) : Fits v := ⟨h.1.1, h.2 hz⟩
theorem key_roundG {l : List Vl} {acc : List UInt8} {i : Nat} {v : Vl} (hi : i < l.length) (hl : l.length ≤ 4194304) (hv : l.getD i default = v) (hf : FitsK v) (ha : acc.length ≤ 105553116266496) :
    keys_Key.st1 l (acc, (i : Int)) = if rightE v = 0 then some (.inl (acc ++ kb v, ((i + 1 : Nat) : Int))) else some (.inr (.inl ([], rightE v))) := by
  have w : IntKind.i64.wrap ((i : Int) + 1) = ((i + 1 : Nat) : Int) := by rw [i64_id (by omega)]; omega
  have hr := Right_isG (v := v) hf.1.2
  obtain ⟨k, n, t⟩ := v
  unfold keys_Key.st1
  simp only [Int.toNat_natCast, hv, hr, Option.bind_some]
  rw [ite_dt (by omega), chk_pos (by omega)]
  by_cases hz : rightE (k, n, t) = 0
  · rw [if_pos hz, hz, ite_nt (by trivial)]
    have hk : k = 0 ∨ k = 1 ∨ k = 2 ∨ k = 3 := by
      unfold rightE at hz
      simp only at hz
      by_cases h0 : k = 0 <;> by_cases h1 : k = 1 <;> by_cases h2 : k = 2 <;> by_cases h3 : k = 3 <;> simp_all
    unfold keys_inside.impl
    simp only
    rcases hk with rfl | rfl | rfl | rfl
    · simp [Dy.isUnit, Dy.isBool, Dy.isInt, Dy.isStr, keys_Key.k2, keys_Key.k3, keys_Key.k4, kb, w]
      rw [chk_pos (by omega)]
    · have hx := xor63 hf.1.1
      simp only at hx
      simp [Dy.isUnit, Dy.isBool, Dy.isInt, Dy.isStr, Dy.asInt, keys_Key.k2, keys_Key.k3, keys_Key.k4, kb, w, hx, eight_is, be8_length]
      rw [chk_pos (by omega), chk_pos (by omega)]
    · have h1 := flat3_length (runesOf t)
      have h2 := runesOf_le t
      have h3 : t.length ≤ 4194304 := hf.2 hz
      simp [Dy.isUnit, Dy.isBool, Dy.isInt, Dy.isStr, Dy.asStr, keys_Key.k2, keys_Key.k3, keys_Key.k4, kb, w, runes_is h3, h1]
      rw [chk_pos (by omega), chk_pos (by omega)]
    · have hv' : l[i]?.getD default = (3, n, t) := by rw [← List.getD_eq_getElem?_getD]; exact hv
      simp [Dy.isUnit, Dy.isBool, Dy.isInt, Dy.isStr, keys_Key.k2, keys_Key.k3, keys_Key.k4, kb, w, hv']
      rw [chk_pos (by omega)]
  · rw [if_neg hz, ite_nf hz]
theorem Key_isG {l : List Vl} (hl : l.length ≤ 4194304) (hf : ∀ v ∈ l, FitsK v) : keys_Key.impl l = some (keyL l) := by
  unfold keys_Key.impl
  have key : ∀ n (acc : List UInt8) (i : Nat), l.length - i < n → i ≤ l.length → acc.length ≤ 16777216 * i → ∃ r, loop (keys_Key.st1 l) (acc, (i : Int)) = some r ∧ (match r with | .inl v => some v | .inr v => keys_Key.k1 v) = some (if (keyL (l.drop i)).2 = 0 then (acc ++ (keyL (l.drop i)).1, 0) else ([], (keyL (l.drop i)).2)) := by
    intro n
    induction n with
    | zero => intro acc i h; omega
    | succ n ih =>
      intro acc i h hi ha
      by_cases hlt : i < l.length
      · have hm : l[i] ∈ l := List.getElem_mem hlt
        have st := key_roundG (acc := acc) (v := l[i]) hlt hl (by rw [List.getD_eq_getElem?_getD, List.getElem?_eq_getElem hlt]; rfl) (hf _ hm) (by omega)
        rw [List.drop_eq_getElem_cons hlt]
        by_cases hz : rightE l[i] = 0
        · have hk := kb_length ((hf _ hm).fits hz)
          rw [if_pos hz] at st
          obtain ⟨r, h1, h2⟩ := ih (acc ++ kb l[i]) (i + 1) (by omega) (by omega) (by rw [List.length_append]; omega)
          refine ⟨r, by rw [loop_more st]; exact h1, ?_⟩
          rw [h2, keyL_cons, if_pos hz]
          by_cases hz2 : (keyL (l.drop (i + 1))).2 = 0
          · rw [if_pos hz2, if_pos hz2, if_pos rfl]; simp
          · rw [if_neg hz2, if_neg hz2, if_neg hz2]
        · rw [if_neg hz] at st
          refine ⟨_, loop_last st, ?_⟩
          rw [keyL_cons, if_neg hz]
          simp only
          rw [if_neg hz]
      · refine ⟨Sum.inr acc, loop_last ?_, ?_⟩
        · unfold keys_Key.st1
          rw [ite_df (by simp only; omega)]
        · rw [List.drop_of_length_le (by omega)]; simp [keyL, keys_Key.k1]
  obtain ⟨r, h1, h2⟩ := key _ [] 0 (Nat.lt_succ_self _) (Nat.zero_le _) (by simp)
  erw [h1]
  refine h2.trans ?_
  rw [List.drop_zero]
  by_cases hz : (keyL l).2 = 0
  · rw [if_pos hz, List.nil_append, ← hz]
  · rw [if_neg hz, ← keyL_bad hz]
theorem EncodeRow_isG {row : List Vl} (hf : ∀ v ∈ row, FitsG v) : schema_EncodeRow.impl row = some (if rowE row = 0 then row.flatMap kb else [], rowE row) := by
  unfold schema_EncodeRow.impl
  by_cases h3 : row.length ≤ 3
  · rw [ite_df (by omega)]
    have := loop_all (step := schema_EncodeRow.st1 row) (n := row.length) (v := (([] : List UInt8), (62 : Int))) (ok := fun i => !(decide ((row.getD i default).1 = 2) && decide ((8 : Int) < countR (row.getD i default).2.2))) (fun i hi => by
      have w : IntKind.i64.wrap ((i : Int) + 1) = ((i + 1 : Nat) : Int) := by rw [i64_id (by omega)]; omega
      have hm := (hf _ (List.getElem_mem hi)).2
      rw [← getD_el hi] at hm
      unfold schema_EncodeRow.st1 schema_EncodeRow.k2
      simp only [Int.toNat_natCast, w]
      rw [ite_dt (by omega), chk_pos (by omega), Runes_isG hm]
      simp only [Option.bind_some]
      by_cases k2 : (row.getD i default).1 = 2
      · rw [ite_dt k2, decide_eq_true k2, Bool.true_and]
        cases decide ((8 : Int) < countR (row.getD i default).2.2) <;> rfl
      · rw [ite_df k2, decide_eq_false k2]; rfl) (by
      unfold schema_EncodeRow.st1
      rw [ite_df (by omega)])
    rw [this, all_range row (fun v => !(decide (v.1 = 2) && decide ((8 : Int) < countR v.2.2)))]
    have hE : rowE row = if row.all smallV = true then 0 else 62 := by unfold rowE; rw [if_pos h3]
    by_cases h : row.all (fun v => !(decide (v.1 = 2) && decide ((8 : Int) < countR v.2.2))) = true
    · rw [if_pos h]
      simp only [Option.bind_some, schema_EncodeRow.k1]
      have hfK : ∀ v ∈ row, FitsK v := fun v hv => ⟨hf v hv, fun hz => by
        have hq := List.all_eq_true.1 h v hv
        have hk := kind_of_right hz
        obtain ⟨k, n, t⟩ := v
        simp only at hk hq
        rcases hk with rfl | rfl | rfl | rfl
        · obtain ⟨_, rfl⟩ := right0.1 hz; simp
        · obtain rfl := right1.1 hz; simp
        · obtain ⟨_, hv2⟩ := right2.1 hz
          have h5 := ofRunes_le (runesOf t)
          rw [ofRunes_runesOf hv2] at h5
          have hc : countR t = ((runesOf t).length : Int) := by unfold countR; rw [if_pos hv2]
          rw [hc] at hq
          simp at hq
          show t.length ≤ 4194304
          omega
        · obtain ⟨rfl, _⟩ := right3.1 hz; simp⟩
      rw [Key_isG (by omega) hfK]
      simp only [Option.bind_some]
      by_cases hr : ∀ v ∈ row, rightE v = 0
      · have hs : row.all smallV = true := by
          simp only [List.all_eq_true] at h ⊢
          intro v hv
          have h1 := h v hv
          have h2 := hr v hv
          unfold smallV
          rw [decide_eq_true h2, Bool.true_and]
          by_cases k2 : v.1 = 2
          · rw [decide_eq_true k2] at h1 ⊢
            simp only [Bool.true_and, Bool.not_eq_true', decide_eq_false_iff_not] at h1
            simp only [Bool.not_true, Bool.false_or, decide_eq_true_eq]; omega
          · rw [decide_eq_false k2]; rfl
        rw [hE, if_pos hs, keyL_ok hr]; rfl
      · have hs : ¬ row.all smallV = true := fun hs => hr fun v hv => by
          have := List.all_eq_true.1 hs v hv
          unfold smallV at this
          simp only [Bool.and_eq_true, decide_eq_true_eq] at this
          exact this.1
        have he : (keyL row).2 ≠ 0 := keyL_err (by
          apply Classical.byContradiction
          intro hx
          exact hr fun v hv => Classical.byContradiction fun hne => hx ⟨v, hv, hne⟩)
        rw [hE, if_neg hs, ite_nf he]; rfl
    · rw [if_neg h]
      have hs : ¬ row.all smallV = true := fun hs => h (by
        simp only [List.all_eq_true] at hs ⊢
        intro v hv
        have := hs v hv
        unfold smallV at this
        simp only [Bool.and_eq_true, Bool.or_eq_true, Bool.not_eq_true', decide_eq_true_eq, decide_eq_false_iff_not] at this
        simp only [Bool.not_eq_true', Bool.and_eq_false_iff, decide_eq_false_iff_not]
        rcases this.2 with g | g
        · exact .inl g
        · exact .inr (by omega))
      rw [hE, if_neg hs]; rfl
  · rw [ite_dt (by omega)]
    have hE : rowE row = 2 := by unfold rowE; rw [if_neg h3]
    rw [hE]; rfl
end Go.Proofs.YtdojooblfemmnaaDoor
