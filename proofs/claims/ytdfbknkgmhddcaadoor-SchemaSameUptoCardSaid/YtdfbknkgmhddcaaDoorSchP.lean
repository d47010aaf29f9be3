/- Layer 14: schemas and rows in plain terms: which are right, which fit. -/
import Derived.Test.YtdfbknkgmhddcaaDoorSchemaL
import Derived.Test.YtdfbknkgmhddcaaDoorReadC
import Derived.Test.YtdfbknkgmhddcaaDoorRead
set_option linter.unusedVariables false
set_option linter.unusedSimpArgs false
namespace Go.Proofs.YtdfbknkgmhddcaaDoor
open Go Go.RowKit Go.Lib
abbrev Col := List UInt8 × Int × Int
abbrev Ix := Int × Bool
abbrev Sch := List UInt8 × List Col × List Ix
/-! ### Loops that ask each -/
section
variable {ρ : Type} {step : Int → Option (Int ⊕ (ρ ⊕ Unit))}
theorem range_drop {n i : Nat} (h : i < n) : (List.range n).drop i = i :: (List.range n).drop (i + 1) := by
  rw [List.drop_eq_getElem_cons (by simpa using h)]; simp
theorem loop_all {n : Nat} {v : ρ} {ok : Nat → Bool} (hs : ∀ i, i < n → step (i : Int) = if ok i = true then some (.inl ((i + 1 : Nat) : Int)) else some (.inr (.inl v))) (he : step (n : Int) = some (.inr (.inr ()))) :
    loop step 0 = some (if (List.range n).all ok = true then .inr () else .inl v) := by
  have key : ∀ k i, n - i < k → i ≤ n → loop step (i : Int) = some (if ((List.range n).drop i).all ok = true then .inr () else .inl v) := by
    intro k
    induction k with
    | zero => intro i h; omega
    | succ k ih =>
      intro i h hi
      by_cases hlt : i < n
      · rw [range_drop hlt, List.all_cons]
        by_cases h1 : ok i = true
        · have st := hs i hlt
          rw [if_pos h1] at st
          rw [loop_more st, ih (i + 1) (by omega) hlt, h1, Bool.true_and]
        · have st := hs i hlt
          rw [if_neg h1] at st
          rw [loop_last st]
          have : ok i = false := by simpa using h1
          rw [this]; rfl
      · rw [show i = n by omega, loop_last he, List.drop_of_length_le (by simp)]; rfl
  have := key _ 0 (Nat.lt_succ_self _) (Nat.zero_le _)
  simpa using this
theorem loop_find {step : Int → Option (Int ⊕ (Int ⊕ Unit))} {n : Nat} {p : Nat → Bool} (hs : ∀ i, i < n → step (i : Int) = if p i = true then some (.inr (.inl (i : Int))) else some (.inl ((i + 1 : Nat) : Int))) (he : step (n : Int) = some (.inr (.inr ()))) :
    ∃ q : Nat, loop step 0 = some (if (List.range n).any p = true then .inl (q : Int) else .inr ()) := by
  have key : ∀ k i, n - i < k → i ≤ n → ∃ q : Nat, loop step (i : Int) = some (if ((List.range n).drop i).any p = true then .inl (q : Int) else .inr ()) := by
    intro k
    induction k with
    | zero => intro i h; omega
    | succ k ih =>
      intro i h hi
      by_cases hlt : i < n
      · rw [range_drop hlt, List.any_cons]
        by_cases h1 : p i = true
        · have st := hs i hlt
          rw [if_pos h1] at st
          refine ⟨i, ?_⟩
          rw [loop_last st, h1]; rfl
        · have st := hs i hlt
          rw [if_neg h1] at st
          obtain ⟨q, hq⟩ := ih (i + 1) (by omega) hlt
          have : p i = false := by simpa using h1
          exact ⟨q, by rw [loop_more st, hq, this, Bool.false_or]⟩
      · exact ⟨0, by rw [show i = n by omega, loop_last he, List.drop_of_length_le (by simp)]; rfl⟩
  have := key _ 0 (Nat.lt_succ_self _) (Nat.zero_le _)
  simpa using this
end
theorem any_range {α : Type} [Inhabited α] (l : List α) (f : α → Bool) : ((List.range l.length).any fun j => f (l.getD j default)) = l.any f := by
  rw [Bool.eq_iff_iff]
  simp only [List.any_eq_true, List.mem_range]
  constructor
  · rintro ⟨j, hj, h⟩; rw [getD_el hj] at h; exact ⟨_, List.getElem_mem hj, h⟩
  · rintro ⟨x, hx, h⟩
    obtain ⟨j, hj, rfl⟩ := List.getElem_of_mem hx
    exact ⟨j, hj, by rw [getD_el hj]; exact h⟩
theorem all_range_congr {n : Nat} {f g : Nat → Bool} (h : ∀ i, i < n → f i = g i) : (List.range n).all f = (List.range n).all g := by
  rw [Bool.eq_iff_iff]
  simp only [List.all_eq_true, List.mem_range]
  exact ⟨fun a i hi => by rw [← h i hi]; exact a i hi, fun a i hi => by rw [h i hi]; exact a i hi⟩
/-! ### Names -/
def lowB (b : UInt8) : Bool := decide (97 ≤ b.toNat) && decide (b.toNat ≤ 122)
def nameP (l : List UInt8) : Bool := decide (1 ≤ l.length) && decide (l.length ≤ 8) && l.all lowB
theorem decode_lo {b : UInt8} {r : List UInt8} (h : b.toNat < 128) : decodeL (b :: r) = (b.toNat, 1) := by
  rw [decodeL_N]
  exact decodeN_ascii _ _ _ _ _ h
theorem decode_hi {b : UInt8} {r : List UInt8} (h : ¬ b.toNat < 128) : 128 ≤ (decodeL (b :: r)).1 := by
  rw [decodeL_N, refN_is _ _ _ _ _ (UInt8.toNat_lt _)]
  have e : ((b :: r).getD 0 0).toNat = b.toNat := rfl
  rw [e]
  unfold refN
  rw [if_neg h]
  repeat' split
  all_goals (simp only; omega)
theorem Name_is {l : List UInt8} (hl : l.length ≤ 4194304) : schema_Name.impl l = some (nameP l) := by
  unfold schema_Name.impl
  have key : ∀ k p, l.length - p < k → p ≤ l.length → loop (schema_Name.st1 l) ((p : Int), p) = some (if (l.drop p).all lowB = true then .inr (l.length : Int) else .inl false) := by
    intro k
    induction k with
    | zero => intro p h; omega
    | succ k ih =>
      intro p h hp
      by_cases hlt : p < l.length
      · have w : IntKind.i64.wrap ((p : Int) + 1) = ((p + 1 : Nat) : Int) := by rw [i64_id (by omega)]; omega
        rw [drop1' hlt, List.all_cons]
        have hr : runeAt l p = decodeL (l.getD p default :: l.drop (p + 1)) := by rw [runeAt_drop, drop1' hlt]
        by_cases hb : (l.getD p default).toNat < 128
        · have hd := hr.trans (decode_lo hb)
          by_cases hg : lowB (l.getD p default) = true
          · have hg' := hg
            simp only [lowB, Bool.and_eq_true, decide_eq_true_eq] at hg'
            have st : schema_Name.st1 l ((p : Int), p) = some (.inl (((p + 1 : Nat) : Int), p + 1)) := by
              unfold schema_Name.st1 schema_Name.k2
              simp only [hd, w]
              rw [ite_dt hlt, ite_df (by omega), ite_df (by omega)]
            rw [loop_more st, ih (p + 1) (by omega) (by omega), hg, Bool.true_and]
          · have hg' : ¬ (97 ≤ (l.getD p default).toNat ∧ (l.getD p default).toNat ≤ 122) := by simpa [lowB] using hg
            have st : schema_Name.st1 l ((p : Int), p) = some (.inr (.inl false)) := by
              unfold schema_Name.st1 schema_Name.k2
              simp only [hd]
              rw [ite_dt hlt]
              by_cases g : ((l.getD p default).toNat : Int) < 97
              · rw [ite_dt g]; rfl
              · rw [ite_df g, ite_dt (by omega)]
            have : lowB (l.getD p default) = false := by simpa using hg
            rw [loop_last st, this]; rfl
        · have hd := decode_hi (r := l.drop (p + 1)) hb
          rw [← hr] at hd
          have : lowB (l.getD p default) = false := by
            have : ¬ (97 ≤ (l.getD p default).toNat ∧ (l.getD p default).toNat ≤ 122) := by omega
            simpa [lowB] using this
          have st : schema_Name.st1 l ((p : Int), p) = some (.inr (.inl false)) := by
            unfold schema_Name.st1 schema_Name.k2
            simp only
            rw [ite_dt hlt, ite_df (by omega), ite_dt (by omega)]
          rw [loop_last st, this]; rfl
      · rw [List.drop_of_length_le (by omega)]
        refine loop_last ?_
        unfold schema_Name.st1
        rw [ite_df hlt]
        rw [show p = l.length by omega]; rfl
  have := key _ 0 (Nat.lt_succ_self _) (Nat.zero_le _)
  rw [List.drop_zero] at this
  erw [this]
  unfold nameP
  by_cases h : l.all lowB = true
  · rw [if_pos h, h]
    simp only [Option.bind_some, schema_Name.k1, Bool.and_true]
    by_cases h1 : 1 ≤ l.length
    · rw [ite_dt (by omega)]
      congr 1
      rw [decide_eq_true h1, Bool.true_and, Bool.eq_iff_iff]; simp; omega
    · rw [ite_df (by omega), decide_eq_false h1]; rfl
  · rw [if_neg h]
    have : l.all lowB = false := by simpa using h
    rw [this]; simp
theorem RefName_is {l : List UInt8} : ref14_Name.impl l = some (nameP l) := by
  unfold ref14_Name.impl ref14_Name.k1 nameP
  by_cases h1 : 1 ≤ l.length
  · rw [ite_df (by omega)]
    by_cases h8 : l.length ≤ 8
    · rw [ite_df (by omega)]
      have := loop_all (step := ref14_Name.st1 l) (n := l.length) (v := false) (ok := fun i => lowB (l.getD i default)) (fun i hi => by
        have w : IntKind.i64.wrap ((i : Int) + 1) = ((i + 1 : Nat) : Int) := by rw [i64_id (by omega)]; omega
        unfold ref14_Name.st1 ref14_Name.k3
        simp only [Int.toNat_natCast, w]
        rw [ite_dt (by omega), chk_pos (by omega)]
        unfold lowB
        by_cases g : ((l.getD i default).toNat : Int) < 97
        · rw [ite_dt g, decide_eq_false (show ¬ 97 ≤ (l.getD i default).toNat by omega)]; rfl
        · rw [ite_df g, chk_pos (by omega), decide_eq_true (show 97 ≤ (l.getD i default).toNat by omega), Bool.true_and]
          by_cases g2 : (122 : Int) < ((l.getD i default).toNat : Int)
          · rw [decide_eq_true g2, decide_eq_false (by omega)]; rfl
          · rw [decide_eq_false g2, decide_eq_true (by omega)]; rfl) (by
        unfold ref14_Name.st1
        rw [ite_df (by omega)])
      rw [this]
      have e : ((List.range l.length).all fun i => lowB (l.getD i default)) = l.all lowB := by
        rw [Bool.eq_iff_iff]
        simp only [List.all_eq_true, List.mem_range]
        constructor
        · intro h x hx
          obtain ⟨j, hj, rfl⟩ := List.getElem_of_mem hx
          have := h j hj
          rwa [getD_el hj] at this
        · intro h j hj; rw [getD_el hj]; exact h _ (List.getElem_mem hj)
      rw [e, decide_eq_true h1, decide_eq_true h8]
      by_cases h : l.all lowB = true
      · rw [if_pos h, h]; rfl
      · rw [if_neg h]
        have : l.all lowB = false := by simpa using h
        rw [this]; rfl
    · rw [ite_dt (by omega), decide_eq_false h8]; simp
  · rw [ite_dt (by omega), decide_eq_false h1]; rfl
/-! ### Columns, indexes, schemas -/
def colP (c : Col) : Bool := nameP c.1 && (if c.2.1 = 2 then decide (1 ≤ c.2.2) && decide (c.2.2 ≤ 8) else (decide (c.2.1 = 1) || decide (c.2.1 = 3)) && decide (c.2.2 = 0))
def okC (s : Sch) (i : Nat) : Bool := !((s.2.1.take i).any fun x => decide (x.1 = (s.2.1.getD i default).1)) && colP (s.2.1.getD i default)
def okI (s : Sch) (i : Nat) : Bool := !((s.2.2.take i).any fun x => decide (x.1 = (s.2.2.getD i default).1)) && (decide (1 ≤ (s.2.2.getD i default).1) && decide ((s.2.2.getD i default).1 < (s.2.1.length : Int)))
def sizesS (s : Sch) : Bool := decide (1 ≤ s.2.1.length) && decide (s.2.1.length ≤ 3) && decide (s.2.2.length ≤ 3)
def rightS (s : Sch) : Bool := nameP s.1 && sizesS s && (List.range s.2.1.length).all (okC s) && (List.range s.2.2.length).all (okI s)
theorem column_is {c : Col} (h : c.1.length ≤ 4194304) : schema_column.impl c = some (colP c) := by
  unfold schema_column.impl schema_column.k1 colP
  rw [Name_is h]
  simp only [Option.bind_some]
  by_cases h2 : c.2.1 = 2
  · rw [ite_dt h2, if_pos h2]
    cases nameP c.1 with
    | false => rfl
    | true =>
      simp only [if_true, Bool.true_and]
      by_cases g : (1 : Int) ≤ c.2.2
      · rw [ite_dt g, decide_eq_true g, Bool.true_and]
      · rw [ite_df g, decide_eq_false g, Bool.false_and]
  · rw [ite_df h2, if_neg h2]
    by_cases h1 : c.2.1 = 1
    · rw [ite_dt h1, decide_eq_true h1]
      cases nameP c.1 <;> simp
    · rw [ite_df h1, decide_eq_false h1, Bool.false_or]
      by_cases h3 : c.2.1 = 3
      · rw [decide_eq_true h3]
        cases nameP c.1 <;> simp
      · rw [decide_eq_false h3]
        cases nameP c.1 <;> simp
theorem containsC {l : List Col} (hl : l.length ≤ 4194304) (c : Col) : slices_ContainsFunc_api_Column_api_Column__schema_Right_1.impl l c = some (l.any fun x => decide (x.1 = c.1)) := by
  unfold slices_ContainsFunc_api_Column_api_Column__schema_Right_1.impl slices_IndexFunc_api_Column_api_Column__schema_Right_1.impl
  obtain ⟨q, hq⟩ := loop_find (step := slices_IndexFunc_api_Column_api_Column__schema_Right_1.st1 l c) (n := l.length) (p := fun j => decide ((l.getD j default).1 = c.1)) (fun i hi => by
    have w : IntKind.i64.wrap ((i : Int) + 1) = ((i + 1 : Nat) : Int) := by rw [i64_id (by omega)]; omega
    unfold slices_IndexFunc_api_Column_api_Column__schema_Right_1.st1 schema_Right_1.impl
    simp only [Int.toNat_natCast, w, Option.bind_some]
    rw [ite_dt (by omega), chk_pos (by omega)]) (by
    unfold slices_IndexFunc_api_Column_api_Column__schema_Right_1.st1
    rw [ite_df (by omega)])
  rw [any_range l (fun x => decide (x.1 = c.1))] at hq
  erw [hq]
  cases h : l.any fun x => decide (x.1 = c.1) with
  | true => simp
  | false => rfl
theorem containsI {l : List Ix} (hl : l.length ≤ 4194304) (c : Ix) : slices_ContainsFunc_api_Index_api_Index__schema_Right_2.impl l c = some (l.any fun x => decide (x.1 = c.1)) := by
  unfold slices_ContainsFunc_api_Index_api_Index__schema_Right_2.impl slices_IndexFunc_api_Index_api_Index__schema_Right_2.impl
  obtain ⟨q, hq⟩ := loop_find (step := slices_IndexFunc_api_Index_api_Index__schema_Right_2.st1 l c) (n := l.length) (p := fun j => decide ((l.getD j default).1 = c.1)) (fun i hi => by
    have w : IntKind.i64.wrap ((i : Int) + 1) = ((i + 1 : Nat) : Int) := by rw [i64_id (by omega)]; omega
    unfold slices_IndexFunc_api_Index_api_Index__schema_Right_2.st1 schema_Right_2.impl
    simp only [Int.toNat_natCast, w, Option.bind_some]
    rw [ite_dt (by omega), chk_pos (by omega)]
    by_cases g : (l.getD i default).1 = c.1
    · rw [decide_eq_true g, decide_eq_true g.symm]
    · rw [decide_eq_false g, decide_eq_false (fun e => g e.symm)]) (by
    unfold slices_IndexFunc_api_Index_api_Index__schema_Right_2.st1
    rw [ite_df (by omega)])
  rw [any_range l (fun x => decide (x.1 = c.1))] at hq
  erw [hq]
  cases h : l.any fun x => decide (x.1 = c.1) with
  | true => simp
  | false => rfl
theorem subl_take0 {α : Type} (l : List α) (n : Nat) : subl l 0 (n : Int) = l.take n := by unfold subl; simp
/-- Names that are not too long. -/
def NamesS (s : Sch) : Prop := s.1.length ≤ 4194304 ∧ ∀ c ∈ s.2.1, c.1.length ≤ 4194304
theorem right_cols {s : Sch} (hn : NamesS s) (h3 : s.2.1.length ≤ 3) : loop (schema_Right.st2 s) 0 = some (if (List.range s.2.1.length).all (okC s) = true then .inr () else .inl 61) :=
  loop_all (fun i hi => by
    have w : IntKind.i64.wrap ((i : Int) + 1) = ((i + 1 : Nat) : Int) := by rw [i64_id (by omega)]; omega
    have hm := hn.2 _ (List.getElem_mem hi)
    rw [← getD_el hi] at hm
    have k5 : ∀ b : Bool, schema_Right.k5 (i : Int) b = if b = true then some (.inr (.inl 61)) else some (.inl ((i + 1 : Nat) : Int)) := fun b => by unfold schema_Right.k5; rw [w]
    unfold schema_Right.st2 okC
    simp only [Int.toNat_natCast, subl_take0, k5]
    rw [ite_dt (by omega), chk_pos (by omega), chk_pos (by omega), containsC (by simp; omega), column_is hm]
    simp only [Option.bind_some]
    cases (s.2.1.take i).any (fun x => decide (x.1 = (s.2.1.getD i default).1)) <;> cases colP (s.2.1.getD i default) <;> rfl) (by
    unfold schema_Right.st2
    rw [ite_df (by omega)])
theorem right_idx {s : Sch} (h3 : s.2.2.length ≤ 3) : loop (schema_Right.st1 s) 0 = some (if (List.range s.2.2.length).all (okI s) = true then .inr () else .inl 61) :=
  loop_all (fun i hi => by
    have w : IntKind.i64.wrap ((i : Int) + 1) = ((i + 1 : Nat) : Int) := by rw [i64_id (by omega)]; omega
    have k4 : ∀ b : Bool, schema_Right.k4 (i : Int) b = if b = true then some (.inr (.inl 61)) else some (.inl ((i + 1 : Nat) : Int)) := fun b => by unfold schema_Right.k4; rw [w]
    unfold schema_Right.st1 okI
    simp only [Int.toNat_natCast, subl_take0, k4]
    rw [ite_dt (by omega), chk_pos (by omega), chk_pos (by omega), containsI (by simp; omega)]
    simp only [Option.bind_some]
    cases (s.2.2.take i).any (fun x => decide (x.1 = (s.2.2.getD i default).1)) with
    | true => rfl
    | false =>
      by_cases g : (s.2.2.getD i default).1 < 1
      · rw [ite_dt g, decide_eq_false (show ¬ 1 ≤ (s.2.2.getD i default).1 by omega)]; rfl
      · rw [ite_df g, decide_eq_true (show 1 ≤ (s.2.2.getD i default).1 by omega)]
        by_cases g2 : (s.2.1.length : Int) ≤ (s.2.2.getD i default).1
        · rw [decide_eq_true g2, decide_eq_false (show ¬ (s.2.2.getD i default).1 < (s.2.1.length : Int) by omega)]; rfl
        · rw [decide_eq_false g2, decide_eq_true (show (s.2.2.getD i default).1 < (s.2.1.length : Int) by omega)]; rfl) (by
    unfold schema_Right.st1
    rw [ite_df (by omega)])
theorem SRight_is {s : Sch} (hn : NamesS s) : schema_Right.impl s = some (if rightS s = true then 0 else 61) := by
  unfold schema_Right.impl rightS
  rw [Name_is hn.1]
  simp only [Option.bind_some]
  cases nameP s.1 with
  | false => rfl
  | true =>
    simp only [if_true, Bool.true_and]
    by_cases h1 : 1 ≤ s.2.1.length
    · rw [ite_df (by omega)]
      by_cases h3 : s.2.1.length ≤ 3
      · rw [ite_df (by omega)]
        by_cases h4 : s.2.2.length ≤ 3
        · have hz : sizesS s = true := by unfold sizesS; simp [h1, h3, h4]
          rw [decide_eq_false (show ¬ (3 : Int) < (s.2.2.length : Int) by omega), hz]
          unfold schema_Right.k1
          simp only [Bool.false_eq_true, if_false, Bool.true_and]
          rw [right_cols hn h3]
          cases (List.range s.2.1.length).all (okC s) with
          | false => rfl
          | true =>
            simp only [if_true, Option.bind_some, schema_Right.k2]
            rw [right_idx h4]
            cases (List.range s.2.2.length).all (okI s) <;> rfl
        · have hz : sizesS s = false := by unfold sizesS; simp [h4]
          rw [decide_eq_true (show (3 : Int) < (s.2.2.length : Int) by omega), hz]; rfl
      · have hz : sizesS s = false := by unfold sizesS; simp [h3]
        rw [ite_dt (by omega), hz]; rfl
    · have hz : sizesS s = false := by unfold sizesS; simp [h1]
      rw [ite_dt (by omega), hz]; rfl
theorem ref_same_cols {s : Sch} {i : Nat} (hi : i < s.2.1.length) (h3 : s.2.1.length ≤ 3) : loop (ref14_Right.st4 (i : Int) s) 0 = some (if ((s.2.1.take i).any fun x => decide (x.1 = (s.2.1.getD i default).1)) = true then .inl false else .inr ()) := by
  have := loop_all (step := ref14_Right.st4 (i : Int) s) (n := i) (v := false) (ok := fun j => !decide ((s.2.1.getD j default).1 = (s.2.1.getD i default).1)) (fun j hj => by
    have w : IntKind.i64.wrap ((j : Int) + 1) = ((j + 1 : Nat) : Int) := by rw [i64_id (by omega)]; omega
    unfold ref14_Right.st4
    simp only [Int.toNat_natCast, w]
    rw [ite_dt (by omega), chk_pos (by omega)]
    cases decide ((s.2.1.getD j default).1 = (s.2.1.getD i default).1) <;> rfl) (by
    unfold ref14_Right.st4
    rw [ite_df (by omega)])
  rw [this]
  have e : ((List.range i).all fun j => !decide ((s.2.1.getD j default).1 = (s.2.1.getD i default).1)) = !((s.2.1.take i).any fun x => decide (x.1 = (s.2.1.getD i default).1)) := by
    have a := any_range (s.2.1.take i) (fun x => decide (x.1 = (s.2.1.getD i default).1))
    rw [List.length_take, Nat.min_eq_left (by omega)] at a
    rw [← a, ← List.not_any_eq_all_not]
    congr 1
    rw [Bool.eq_iff_iff]
    simp only [List.any_eq_true, List.mem_range]
    constructor
    · rintro ⟨j, hj, h⟩; exact ⟨j, hj, by rw [getD_el (by simp; omega), List.getElem_take, ← getD_el (by omega)]; exact h⟩
    · rintro ⟨j, hj, h⟩; exact ⟨j, hj, by rw [getD_el (by simp; omega), List.getElem_take, ← getD_el (by omega)] at h; exact h⟩
  rw [e]
  cases (s.2.1.take i).any (fun x => decide (x.1 = (s.2.1.getD i default).1)) <;> rfl
theorem ref_same_idx {s : Sch} {i : Nat} (hi : i < s.2.2.length) (h3 : s.2.2.length ≤ 3) : loop (ref14_Right.st2 (i : Int) s) 0 = some (if ((s.2.2.take i).any fun x => decide (x.1 = (s.2.2.getD i default).1)) = true then .inl false else .inr ()) := by
  have := loop_all (step := ref14_Right.st2 (i : Int) s) (n := i) (v := false) (ok := fun j => !decide ((s.2.2.getD j default).1 = (s.2.2.getD i default).1)) (fun j hj => by
    have w : IntKind.i64.wrap ((j : Int) + 1) = ((j + 1 : Nat) : Int) := by rw [i64_id (by omega)]; omega
    unfold ref14_Right.st2
    simp only [Int.toNat_natCast, w]
    rw [ite_dt (by omega), chk_pos (by omega)]
    cases decide ((s.2.2.getD j default).1 = (s.2.2.getD i default).1) <;> rfl) (by
    unfold ref14_Right.st2
    rw [ite_df (by omega)])
  rw [this]
  have e : ((List.range i).all fun j => !decide ((s.2.2.getD j default).1 = (s.2.2.getD i default).1)) = !((s.2.2.take i).any fun x => decide (x.1 = (s.2.2.getD i default).1)) := by
    have a := any_range (s.2.2.take i) (fun x => decide (x.1 = (s.2.2.getD i default).1))
    rw [List.length_take, Nat.min_eq_left (by omega)] at a
    rw [← a, ← List.not_any_eq_all_not]
    congr 1
    rw [Bool.eq_iff_iff]
    simp only [List.any_eq_true, List.mem_range]
    constructor
    · rintro ⟨j, hj, h⟩; exact ⟨j, hj, by rw [getD_el (by simp; omega), List.getElem_take, ← getD_el (by omega)]; exact h⟩
    · rintro ⟨j, hj, h⟩; exact ⟨j, hj, by rw [getD_el (by simp; omega), List.getElem_take, ← getD_el (by omega)] at h; exact h⟩
  rw [e]
  cases (s.2.2.take i).any (fun x => decide (x.1 = (s.2.2.getD i default).1)) <;> rfl
theorem ref_cols {s : Sch} (h3 : s.2.1.length ≤ 3) : loop (ref14_Right.st3 s) 0 = some (if (List.range s.2.1.length).all (okC s) = true then .inr () else .inl false) :=
  loop_all (fun i hi => by
    have w : IntKind.i64.wrap ((i : Int) + 1) = ((i + 1 : Nat) : Int) := by rw [i64_id (by omega)]; omega
    have k7t : ref14_Right.k7 (i : Int) s true = some (.inr (.inl false)) := rfl
    have k7f : ref14_Right.k7 (i : Int) s false = if (!((s.2.1.take i).any fun x => decide (x.1 = (s.2.1.getD i default).1))) = true then some (.inl ((i + 1 : Nat) : Int)) else some (.inr (.inl false)) := by
      unfold ref14_Right.k7
      simp only [Bool.false_eq_true, if_false]
      rw [ref_same_cols hi h3]
      cases (s.2.1.take i).any (fun x => decide (x.1 = (s.2.1.getD i default).1)) with
      | true => rfl
      | false => simp only [Bool.false_eq_true, if_false, Option.bind_some, ref14_Right.k6, w]; rfl
    unfold ref14_Right.st3 okC colP
    simp only [Int.toNat_natCast, k7t]
    rw [ite_dt (by omega), chk_pos (by omega), RefName_is]
    simp only [Option.bind_some]
    cases nameP (s.2.1.getD i default).1 with
    | false => simp
    | true =>
      simp only [if_true, Bool.true_and]
      by_cases g1 : (s.2.1.getD i default).2.1 < 1
      · rw [ite_dt g1, if_neg (show ¬ (s.2.1.getD i default).2.1 = 2 by omega), decide_eq_false (show ¬ (s.2.1.getD i default).2.1 = 1 by omega), decide_eq_false (show ¬ (s.2.1.getD i default).2.1 = 3 by omega)]; simp
      rw [ite_df g1]
      by_cases g3 : (3 : Int) < (s.2.1.getD i default).2.1
      · rw [ite_dt g3, if_neg (show ¬ (s.2.1.getD i default).2.1 = 2 by omega), decide_eq_false (show ¬ (s.2.1.getD i default).2.1 = 1 by omega), decide_eq_false (show ¬ (s.2.1.getD i default).2.1 = 3 by omega)]; simp
      rw [ite_df g3]
      by_cases g2 : (s.2.1.getD i default).2.1 = 2
      · rw [ite_dt g2, if_pos g2]
        by_cases a1 : (s.2.1.getD i default).2.2 < 1
        · rw [ite_dt a1, decide_eq_false (show ¬ 1 ≤ (s.2.1.getD i default).2.2 by omega)]; simp
        rw [ite_df a1, decide_eq_true (show 1 ≤ (s.2.1.getD i default).2.2 by omega)]
        by_cases a2 : (8 : Int) < (s.2.1.getD i default).2.2
        · rw [ite_dt a2, decide_eq_false (show ¬ (s.2.1.getD i default).2.2 ≤ 8 by omega)]; simp
        · rw [ite_df a2, decide_eq_true (show (s.2.1.getD i default).2.2 ≤ 8 by omega), k7f, Bool.and_true, Bool.and_true]
      · rw [ite_df g2, if_neg g2]
        have e : (decide ((s.2.1.getD i default).2.1 = 1) || decide ((s.2.1.getD i default).2.1 = 3)) = true := by simp only [Bool.or_eq_true, decide_eq_true_eq]; omega
        rw [e, Bool.true_and]
        by_cases a1 : (s.2.1.getD i default).2.2 = 0
        · rw [decide_eq_true a1, Bool.and_true]; exact k7f
        · rw [decide_eq_false a1, Bool.and_false]; rfl) (by
    unfold ref14_Right.st3
    rw [ite_df (by omega)])
theorem ref_idx {s : Sch} (h3 : s.2.2.length ≤ 3) : loop (ref14_Right.st1 s) 0 = some (if (List.range s.2.2.length).all (okI s) = true then .inr () else .inl false) :=
  loop_all (fun i hi => by
    have w : IntKind.i64.wrap ((i : Int) + 1) = ((i + 1 : Nat) : Int) := by rw [i64_id (by omega)]; omega
    have k5t : ref14_Right.k5 (i : Int) s true = some (.inr (.inl false)) := rfl
    have k5f : ref14_Right.k5 (i : Int) s false = if (!((s.2.2.take i).any fun x => decide (x.1 = (s.2.2.getD i default).1))) = true then some (.inl ((i + 1 : Nat) : Int)) else some (.inr (.inl false)) := by
      unfold ref14_Right.k5
      simp only [Bool.false_eq_true, if_false]
      rw [ref_same_idx hi h3]
      cases (s.2.2.take i).any (fun x => decide (x.1 = (s.2.2.getD i default).1)) with
      | true => rfl
      | false => simp only [Bool.false_eq_true, if_false, Option.bind_some, ref14_Right.k4, w]; rfl
    unfold ref14_Right.st1 okI
    simp only [Int.toNat_natCast]
    rw [ite_dt (by omega), chk_pos (by omega)]
    by_cases g : (s.2.2.getD i default).1 < 1
    · rw [ite_dt g, k5t, decide_eq_false (show ¬ 1 ≤ (s.2.2.getD i default).1 by omega), Bool.false_and, Bool.and_false]; rfl
    rw [ite_df g, decide_eq_true (show 1 ≤ (s.2.2.getD i default).1 by omega), Bool.true_and]
    by_cases g2 : (s.2.1.length : Int) ≤ (s.2.2.getD i default).1
    · rw [decide_eq_true g2, k5t, decide_eq_false (show ¬ (s.2.2.getD i default).1 < (s.2.1.length : Int) by omega), Bool.and_false]; rfl
    · rw [decide_eq_false g2, k5f, decide_eq_true (show (s.2.2.getD i default).1 < (s.2.1.length : Int) by omega), Bool.and_true]) (by
    unfold ref14_Right.st1
    rw [ite_df (by omega)])
theorem RefSRight_is {s : Sch} : ref14_Right.impl s = some (rightS s) := by
  unfold ref14_Right.impl rightS
  rw [RefName_is]
  simp only [Option.bind_some]
  cases nameP s.1 with
  | false => rfl
  | true =>
    simp only [if_true, Bool.true_and]
    by_cases h1 : 1 ≤ s.2.1.length
    · rw [ite_df (by omega)]
      by_cases h3 : s.2.1.length ≤ 3
      · rw [ite_df (by omega)]
        by_cases h4 : s.2.2.length ≤ 3
        · have hz : sizesS s = true := by unfold sizesS; simp [h1, h3, h4]
          rw [decide_eq_false (show ¬ (3 : Int) < (s.2.2.length : Int) by omega), hz]
          unfold ref14_Right.k1
          simp only [Bool.false_eq_true, if_false, Bool.true_and]
          rw [ref_cols h3]
          cases (List.range s.2.1.length).all (okC s) with
          | false => rfl
          | true =>
            simp only [if_true, Option.bind_some, ref14_Right.k2]
            rw [ref_idx h4]
            cases (List.range s.2.2.length).all (okI s) <;> rfl
        · have hz : sizesS s = false := by unfold sizesS; simp [h4]
          rw [decide_eq_true (show (3 : Int) < (s.2.2.length : Int) by omega), hz]; rfl
      · have hz : sizesS s = false := by unfold sizesS; simp [h3]
        rw [ite_dt (by omega), hz]; rfl
    · have hz : sizesS s = false := by unfold sizesS; simp [h1]
      rw [ite_dt (by omega), hz]; rfl
end Go.Proofs.YtdfbknkgmhddcaaDoor
