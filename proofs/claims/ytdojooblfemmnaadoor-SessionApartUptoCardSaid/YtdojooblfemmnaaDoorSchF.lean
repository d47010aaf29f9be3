/- Layer 14: rows in plain terms. -/
import Derived.Test.YtdojooblfemmnaaDoorSchP
set_option linter.unusedVariables false
set_option linter.unusedSimpArgs false
namespace Go.Proofs.YtdojooblfemmnaaDoor
open Go Go.RowKit Go.Lib
def Tx (v : Vl) : Prop := v.2.2.length ≤ 4194304
/-! ### Rows that fit -/
def fitsV (v : Vl) (c : Col) (i : Nat) : Bool := decide (rightE v = 0) && !(decide (i = 0) && decide (v.1 = 0)) && (decide (v.1 = 0) || decide (v.1 = c.2.1)) && !(decide (v.1 = 2) && decide (c.2.2 < countR v.2.2))
def fitsR (s : Sch) (row : List Vl) : Int := if rightS s = true then (if row.length = s.2.1.length then (if (List.range row.length).all (fun i => fitsV (row.getD i default) (s.2.1.getD i default) i) = true then 0 else 62) else 62) else 61
theorem len3 {s : Sch} (h : rightS s = true) : 1 ≤ s.2.1.length ∧ s.2.1.length ≤ 3 ∧ s.2.2.length ≤ 3 := by
  unfold rightS sizesS at h
  simp only [Bool.and_eq_true, decide_eq_true_eq] at h
  omega
/-! ### Folding -/
def foldV (v : Vl) : Vl := if v.1 = 2 then (v.1, v.2.1, foldT v.2.2) else v
theorem right_fold {v : Vl} (h : rightE v = 0) : rightE (foldV v) = 0 := by
  unfold foldV
  by_cases g : v.1 = 2
  · rw [if_pos g]
    obtain ⟨k, n, t⟩ := v
    simp only at g
    subst g
    obtain ⟨h1, h2⟩ := right2.1 h
    exact right2.2 ⟨h1, validD_foldT t⟩
  · rw [if_neg g]; exact h
theorem fits_fold {v : Vl} {c : Col} {i : Nat} (h : fitsV v c i = true) : fitsV (foldV v) c i = true := by
  unfold fitsV at h ⊢
  simp only [Bool.and_eq_true] at h ⊢
  obtain ⟨⟨⟨h1, h2⟩, h3⟩, h4⟩ := h
  have hr := right_fold (v := v) (by simpa using h1)
  have hk : (foldV v).1 = v.1 := by
    unfold foldV
    by_cases g : v.1 = 2
    · rw [if_pos g]
    · rw [if_neg g]
  rw [hk]
  refine ⟨⟨⟨by simpa using hr, h2⟩, h3⟩, ?_⟩
  by_cases g : v.1 = 2
  · have hv : validD v.2.2 = true := by
      obtain ⟨k, n, t⟩ := v
      simp only at g
      subst g
      exact (right2.1 (by simpa using h1)).2
    have : countR (foldV v).2.2 = countR v.2.2 := by
      unfold foldV
      rw [if_pos g]
      exact countR_fold hv
    rw [this]; exact h4
  · rw [decide_eq_false g]; rfl
theorem map_getD {l : List Vl} {i : Nat} (hi : i < l.length) : (l.map foldV).getD i default = foldV (l.getD i default) := by
  rw [getD_el (by simpa using hi), getD_el hi, List.getElem_map]
theorem fitsR_fold {s : Sch} {row : List Vl} (h : fitsR s row = 0) : fitsR s (row.map foldV) = 0 := by
  unfold fitsR at h ⊢
  by_cases h1 : rightS s = true
  · rw [if_pos h1] at h ⊢
    by_cases h2 : row.length = s.2.1.length
    · rw [if_pos h2] at h
      rw [if_pos (by simpa using h2)]
      by_cases h3 : (List.range row.length).all (fun i => fitsV (row.getD i default) (s.2.1.getD i default) i) = true
      · rw [if_pos]
        rw [List.length_map]
        simp only [List.all_eq_true, List.mem_range] at h3 ⊢
        intro i hi
        rw [map_getD hi]
        exact fits_fold (h3 i hi)
      · rw [if_neg h3] at h; cases h
    · rw [if_neg h2] at h; cases h
  · rw [if_neg h1] at h; cases h
/-! ### Rows' bytes -/
def smallV (v : Vl) : Bool := decide (rightE v = 0) && (!decide (v.1 = 2) || decide (countR v.2.2 ≤ 8))
def rowE (row : List Vl) : Int := if row.length ≤ 3 then (if row.all smallV = true then 0 else 62) else 2
theorem all_range {α : Type} [Inhabited α] (l : List α) (f : α → Bool) : ((List.range l.length).all fun j => f (l.getD j default)) = l.all f := by
  rw [Bool.eq_iff_iff]
  simp only [List.all_eq_true, List.mem_range]
  constructor
  · intro h x hx
    obtain ⟨j, hj, rfl⟩ := List.getElem_of_mem hx
    have := h j hj
    rwa [getD_el hj] at this
  · intro h j hj; rw [getD_el hj]; exact h _ (List.getElem_mem hj)
theorem Small_is {v : Vl} (h : Tx v) : ref14_Small.impl v = some (smallV v) := by
  unfold ref14_Small.impl smallV
  rw [RefRight_is (v := (v.1, v.2.1, v.2.2)) h, RefRunes_is h]
  simp only [Option.bind_some]
  by_cases g : rightE v = 0
  · rw [ite_dt g, decide_eq_true g, Bool.true_and]
    by_cases k : v.1 = 2
    · rw [ite_dt k, decide_eq_true k]; rfl
    · rw [ite_df k, decide_eq_false k]; rfl
  · rw [ite_df g, decide_eq_false g]; rfl
theorem RowRight_is {row : List Vl} (ht : ∀ v ∈ row, Tx v) : ref14_RowRight.impl row = some (rowE row) := by
  unfold ref14_RowRight.impl rowE
  by_cases h3 : row.length ≤ 3
  · rw [ite_df (by omega), if_pos h3]
    have := loop_all (step := ref14_RowRight.st1 row) (n := row.length) (v := (62 : Int)) (ok := fun i => smallV (row.getD i default)) (fun i hi => by
      have w : IntKind.i64.wrap ((i : Int) + 1) = ((i + 1 : Nat) : Int) := by rw [i64_id (by omega)]; omega
      have hm := ht _ (List.getElem_mem hi)
      rw [← getD_el hi] at hm
      unfold ref14_RowRight.st1
      simp only [Int.toNat_natCast, w]
      rw [ite_dt (by omega), chk_pos (by omega), Small_is hm]
      simp only [Option.bind_some]
      cases smallV (row.getD i default) <;> rfl) (by
      unfold ref14_RowRight.st1
      rw [ite_df (by omega)])
    rw [this, all_range row smallV]
    by_cases h : row.all smallV = true
    · rw [if_pos h, if_pos h]; rfl
    · rw [if_neg h, if_neg h]; rfl
  · rw [ite_dt (by omega), if_neg h3]
theorem keyL_err {l : List Vl} (h : ∃ v ∈ l, rightE v ≠ 0) : (keyL l).2 ≠ 0 := by
  induction l with
  | nil => obtain ⟨v, hv, _⟩ := h; cases hv
  | cons a l ih =>
    rw [keyL_cons]
    by_cases g : rightE a = 0
    · rw [if_pos g]
      obtain ⟨v, hv, hr⟩ := h
      rcases List.mem_cons.1 hv with rfl | hv
      · exact absurd g hr
      · have := ih ⟨v, hv, hr⟩
        rw [if_neg this]; exact this
    · rw [if_neg g]; exact g
theorem keyL_ok {l : List Vl} (h : ∀ v ∈ l, rightE v = 0) : keyL l = (l.flatMap kb, 0) := by
  induction l with
  | nil => rfl
  | cons v l ih => rw [keyL_cons, if_pos (h v (by simp)), ih (fun x hx => h x (by simp [hx])), List.flatMap_cons, if_pos rfl]
theorem EncodeRow_is {row : List Vl} (hf : ∀ v ∈ row, Fits v) : schema_EncodeRow.impl row = some (if rowE row = 0 then row.flatMap kb else [], rowE row) := by
  have ht : ∀ v ∈ row, Tx v := fun v hv => (hf v hv).2
  unfold schema_EncodeRow.impl
  by_cases h3 : row.length ≤ 3
  · rw [ite_df (by omega)]
    have := loop_all (step := schema_EncodeRow.st1 row) (n := row.length) (v := (([] : List UInt8), (62 : Int))) (ok := fun i => !(decide ((row.getD i default).1 = 2) && decide ((8 : Int) < countR (row.getD i default).2.2))) (fun i hi => by
      have w : IntKind.i64.wrap ((i : Int) + 1) = ((i + 1 : Nat) : Int) := by rw [i64_id (by omega)]; omega
      have hm := ht _ (List.getElem_mem hi)
      rw [← getD_el hi] at hm
      unfold schema_EncodeRow.st1 schema_EncodeRow.k2
      simp only [Int.toNat_natCast, w]
      rw [ite_dt (by omega), chk_pos (by omega), Runes_is hm]
      simp only [Option.bind_some]
      by_cases k2 : (row.getD i default).1 = 2
      · rw [ite_dt k2, decide_eq_true k2, Bool.true_and]
        cases decide ((8 : Int) < countR (row.getD i default).2.2) <;> rfl
      · rw [ite_df k2, decide_eq_false k2]; rfl) (by
      unfold schema_EncodeRow.st1
      rw [ite_df (by omega)])
    rw [this, all_range row (fun v => !(decide (v.1 = 2) && decide ((8 : Int) < countR v.2.2)))]
    have hE : rowE row = if row.all smallV = true then 0 else 62 := by unfold rowE; rw [if_pos h3]
    by_cases h : row.all (fun v => !(decide (v.1 = 2) && decide ((8 : Int) < countR v.2.2))) = true
    · rw [if_pos h]
      simp only [Option.bind_some, schema_EncodeRow.k1]
      rw [Key_is (by omega) hf]
      simp only [Option.bind_some]
      by_cases hr : ∀ v ∈ row, rightE v = 0
      · have hs : row.all smallV = true := by
          simp only [List.all_eq_true] at h ⊢
          intro v hv
          have h1 := h v hv
          have h2 := hr v hv
          unfold smallV
          rw [decide_eq_true h2, Bool.true_and]
          by_cases k2 : v.1 = 2
          · rw [decide_eq_true k2] at h1 ⊢
            simp only [Bool.true_and, Bool.not_eq_true', decide_eq_false_iff_not] at h1
            simp only [Bool.not_true, Bool.false_or, decide_eq_true_eq]; omega
          · rw [decide_eq_false k2]; rfl
        rw [hE, if_pos hs, keyL_ok hr]; rfl
      · have hs : ¬ row.all smallV = true := fun hs => hr fun v hv => by
          have := List.all_eq_true.1 hs v hv
          unfold smallV at this
          simp only [Bool.and_eq_true, decide_eq_true_eq] at this
          exact this.1
        have he : (keyL row).2 ≠ 0 := keyL_err (by
          apply Classical.byContradiction
          intro hx
          exact hr fun v hv => Classical.byContradiction fun hne => hx ⟨v, hv, hne⟩)
        rw [hE, if_neg hs, ite_nf he]; rfl
    · rw [if_neg h]
      have hs : ¬ row.all smallV = true := fun hs => h (by
        simp only [List.all_eq_true] at hs ⊢
        intro v hv
        have := hs v hv
        unfold smallV at this
        simp only [Bool.and_eq_true, Bool.or_eq_true, Bool.not_eq_true', decide_eq_true_eq, decide_eq_false_iff_not] at this
        simp only [Bool.not_eq_true', Bool.and_eq_false_iff, decide_eq_false_iff_not]
        rcases this.2 with g | g
        · exact .inl g
        · exact .inr (by omega))
      rw [hE, if_neg hs]; rfl
  · rw [ite_dt (by omega)]
    have hE : rowE row = 2 := by unfold rowE; rw [if_neg h3]
    rw [hE]; rfl
theorem readL_fits {b : List UInt8} (hb : b.length ≤ 1048576) {l : List Vl} (h : readL b = some l) : ∀ v ∈ l, Fits v := by
  obtain ⟨h1, h2⟩ := readL_inv _ b (Nat.lt_succ_self _) l h
  have hkb : ∀ v ∈ l, (kb v).length ≤ b.length := fun v hv => by
    obtain ⟨s, t, rfl⟩ := List.append_of_mem hv
    rw [h2, List.flatMap_append, List.flatMap_cons, List.length_append, List.length_append]; omega
  intro v hv
  refine ⟨(h1 v hv).2, ?_⟩
  have hk := kind_of_right (h1 v hv).1
  have hr := (h1 v hv).1
  have hl := hkb v hv
  obtain ⟨k, n, t⟩ := v
  simp only at hk
  rcases hk with rfl | rfl | rfl | rfl
  · obtain ⟨_, rfl⟩ := right0.1 hr; simp
  · obtain rfl := right1.1 hr; simp
  · obtain ⟨_, hv⟩ := right2.1 hr
    have h5 := ofRunes_le (runesOf t)
    rw [ofRunes_runesOf hv] at h5
    rw [kb2, List.length_cons, List.length_append, flat3_length] at hl
    dsimp only
    omega
  · obtain ⟨rfl, _⟩ := right3.1 hr; simp
/-- What bytes say as a row. -/
def decR (b : List UInt8) : Option (List Vl) := (readL b).bind fun l => if rowE l = 0 then some l else none
theorem DecodeRow_is {b : List UInt8} (hb : b.length ≤ 1048576) : schema_DecodeRow.impl b = some (match decR b with | some l => (l, 0) | none => ([], 11)) := by
  unfold schema_DecodeRow.impl decR
  rw [Read_is (by omega)]
  simp only [Option.bind_some]
  cases e : readL b with
  | none => rfl
  | some l =>
    simp only [readOut, List.nil_append, decide_true, Bool.not_true, Bool.false_eq_true, if_false, Option.bind_some]
    rw [EncodeRow_is (readL_fits hb e)]
    simp only [Option.bind_some]
    by_cases h : rowE l = 0
    · rw [ite_nt h, if_pos h]
    · rw [ite_nf h, if_neg h]
theorem rowE_zero {row : List Vl} (h : rowE row = 0) : row.length ≤ 3 ∧ ∀ v ∈ row, smallV v = true := by
  unfold rowE at h
  by_cases h3 : row.length ≤ 3
  · rw [if_pos h3] at h
    by_cases hs : row.all smallV = true
    · exact ⟨h3, List.all_eq_true.1 hs⟩
    · rw [if_neg hs] at h; cases h
  · rw [if_neg h3] at h; cases h
theorem small_right {v : Vl} (h : smallV v = true) : rightE v = 0 := by
  unfold smallV at h
  simp only [Bool.and_eq_true, decide_eq_true_eq] at h
  exact h.1
theorem small_len {v : Vl} (h : smallV v = true) : (kb v).length ≤ 28 := by
  have hr := small_right h
  have hk := kind_of_right hr
  obtain ⟨k, n, t⟩ := v
  simp only at hk
  rcases hk with rfl | rfl | rfl | rfl
  · rw [kb0]; simp
  · rw [kb1, List.length_cons, be8_length]; omega
  · obtain ⟨_, hv⟩ := right2.1 hr
    unfold smallV countR at h
    simp only [hv, if_true, Bool.and_eq_true, Bool.or_eq_true, decide_eq_true_eq, decide_true, Bool.not_true, Bool.false_eq_true, false_or] at h
    rw [kb2, List.length_cons, List.length_append, flat3_length]
    simp only [List.length_cons, List.length_nil]
    omega
  · rw [kb3]; simp
theorem row_len {row : List Vl} (h : rowE row = 0) : (row.flatMap kb).length ≤ 120 := by
  obtain ⟨h3, hs⟩ := rowE_zero h
  have : ∀ l : List Vl, (∀ v ∈ l, smallV v = true) → (l.flatMap kb).length ≤ 28 * l.length := by
    intro l
    induction l with
    | nil => intro _; simp
    | cons v l ih =>
      intro hl
      have := ih (fun x hx => hl x (by simp [hx]))
      have h2 := small_len (hl v (by simp))
      rw [List.flatMap_cons, List.length_append, List.length_cons]; omega
  have := this row hs
  omega
theorem decR_enc {row : List Vl} (hn : ∀ v ∈ row, In64 v.2.1) (h : rowE row = 0) : decR (row.flatMap kb) = some row := by
  unfold decR
  rw [readL_kb row (fun v hv => ⟨small_right ((rowE_zero h).2 v hv), hn v hv⟩)]
  simp only [Option.bind_some]
  rw [if_pos h]
theorem decR_inv {b : List UInt8} {l : List Vl} (h : decR b = some l) : readL b = some l ∧ rowE l = 0 ∧ l.flatMap kb = b := by
  unfold decR at h
  cases e : readL b with
  | none => rw [e] at h; cases h
  | some m =>
    rw [e] at h
    simp only [Option.bind_some] at h
    by_cases g : rowE m = 0
    · rw [if_pos g] at h
      cases h
      exact ⟨rfl, g, (readL_inv _ b (Nat.lt_succ_self _) l e).2.symm⟩
    · rw [if_neg g] at h; cases h
theorem rows_same {p q : List Vl} (hp : ∀ v ∈ p, In64 v.2.1) (hq : ∀ v ∈ q, In64 v.2.1) (h1 : rowE p = 0) (h2 : rowE q = 0) : p.flatMap kb = q.flatMap kb ↔ p = q := by
  constructor
  · intro e
    have a := decR_enc hp h1
    rw [e, decR_enc hq h2] at a
    exact (Option.some.inj a).symm
  · intro e; rw [e]
/-! ### Are they the same? -/
theorem loop_same {α : Type} [Inhabited α] [DecidableEq α] {l m : List α} {step : Int → Option (Int ⊕ (Bool ⊕ Unit))} (hlen : l.length = m.length)
    (hs : ∀ i : Nat, i < l.length → step (i : Int) = if decide (l.getD i default = m.getD i default) = true then some (.inl ((i + 1 : Nat) : Int)) else some (.inr (.inl false))) (he : step (l.length : Int) = some (.inr (.inr ()))) :
    loop step 0 = some (if l = m then .inr () else .inl false) := by
  rw [loop_all hs he]
  congr 1
  have : ((List.range l.length).all fun i => decide (l.getD i default = m.getD i default)) = decide (l = m) := by
    rw [Bool.eq_iff_iff]
    simp only [List.all_eq_true, List.mem_range, decide_eq_true_eq]
    constructor
    · intro h
      refine List.ext_getElem hlen fun i h1 h2 => ?_
      have := h i h1
      rwa [getD_el h1, getD_el h2] at this
    · intro h i _; rw [h]
  rw [this]
  by_cases h : l = m
  · rw [if_pos h, decide_eq_true h, if_pos rfl]
  · rw [if_neg h, decide_eq_false h]; rfl
end Go.Proofs.YtdojooblfemmnaaDoor
