/- Operations that may be, in plain terms. -/
import Derived.Test.YtpogdeibkghhaaaDoorEntryE
import Derived.Test.YtpogdeibkghhaaaDoorKeyF
set_option linter.unusedVariables false
set_option linter.unusedSimpArgs false
namespace Go.Proofs.YtpogdeibkghhaaaDoor
open Go Go.RowKit Go.Lib
abbrev Op := Int × List UInt8 × Sch × List Vl × Vl × Int × Vl × Vl × Int
structure BndO (o : Op) : Prop where
  name : o.2.1.length ≤ 4194304
  sch : NamesS o.2.2.1
  cols : o.2.2.1.2.1.length ≤ 4194304
  idx : o.2.2.1.2.2.length ≤ 4194304
  rowl : o.2.2.2.1.length ≤ 4194304
  row : ∀ v ∈ o.2.2.2.1, Fits v
  key : Fits o.2.2.2.2.1
  lo : Fits o.2.2.2.2.2.2.1
  hi : Fits o.2.2.2.2.2.2.2.1
def valP (v : Vl) : Bool := decide (rightE v = 0) && decide (countR v.2.2 ≤ 8)
theorem value_is {v : Vl} (h : Fits v) : txn_value.impl v = some (valP v) := by
  unfold txn_value.impl valP
  rw [Right_is h.2, Runes_is h.2]
  simp only [Option.bind_some]
  by_cases g : rightE v = 0
  · rw [ite_dt g, decide_eq_true g, Bool.true_and]
  · rw [ite_df g, decide_eq_false g, Bool.false_and]
def zV : Vl := (0, 0, [])
def bareO (o : Op) : Op × Bool :=
  if o.1 = 1 then ((o.1, [], o.2.2.1, [], zV, 0, zV, zV, 0), true)
  else if o.1 = 2 ∨ o.1 = 3 then ((o.1, o.2.1, ([], [], []), o.2.2.2.1, zV, 0, zV, zV, 0), true)
  else if o.1 = 4 ∨ o.1 = 5 then ((o.1, o.2.1, ([], [], []), [], o.2.2.2.2.1, 0, zV, zV, 0), true)
  else if o.1 = 6 then ((o.1, o.2.1, ([], [], []), [], zV, o.2.2.2.2.2.1, o.2.2.2.2.2.2.1, o.2.2.2.2.2.2.2.1, o.2.2.2.2.2.2.2.2), true)
  else ((0, [], ([], [], []), [], zV, 0, zV, zV, 0), false)
theorem bare_is (o : Op) : txn_bare.impl o = some (bareO o) := by
  unfold txn_bare.impl txn_bare.k2 txn_bare.k3 txn_bare.k1 bareO zV
  by_cases h1 : o.1 = 1
  · rw [ite_dt h1, if_pos h1]
  · rw [ite_df h1, if_neg h1]
    by_cases h2 : o.1 = 2
    · simp [h2]
    · by_cases h3 : o.1 = 3
      · simp [h3]
      · by_cases h4 : o.1 = 4
        · simp [h4]
        · by_cases h5 : o.1 = 5
          · simp [h5]
          · by_cases h6 : o.1 = 6
            · simp [h6]
            · simp [h2, h3, h4, h5, h6]
def sameB (a b : Op) : Bool := decide (a.1 = b.1) && (decide (a.2.1 = b.2.1) && (decide (a.2.2.1 = b.2.2.1) && (decide (a.2.2.2.1 = b.2.2.2.1) && (decide (a.2.2.2.2.1 = b.2.2.2.2.1) && (decide (a.2.2.2.2.2.1 = b.2.2.2.2.2.1) && (decide (a.2.2.2.2.2.2.1 = b.2.2.2.2.2.2.1) && (decide (a.2.2.2.2.2.2.2.1 = b.2.2.2.2.2.2.2.1) && decide (a.2.2.2.2.2.2.2.2 = b.2.2.2.2.2.2.2.2))))))))
theorem ite_and (p : Prop) [Decidable p] (q : Bool) : (if (decide p) = true then some q else some false) = some (decide p && q) := by by_cases h : p <;> simp [h]
theorem ite_andB (p q : Bool) : (if p = true then some q else some false) = some (p && q) := by cases p <;> rfl
theorem same_is {a b : Op} (h : BndO a) : txn_same.impl a b = some (sameB a b) := by
  unfold txn_same.impl sameB
  rw [SSame_is h.cols h.idx, SameRow_is h.rowl]
  simp only [Option.bind_some, ite_and, ite_andB]
theorem containsV {l : List Vl} (hl : l.length ≤ 4194304) (hf : ∀ v ∈ l, Fits v) : slices_ContainsFunc_api_Value_api_Value__txn_right_1.impl l = some (l.any fun v => !valP v) := by
  unfold slices_ContainsFunc_api_Value_api_Value__txn_right_1.impl slices_IndexFunc_api_Value_api_Value__txn_right_1.impl
  obtain ⟨q, hq⟩ := loop_find (step := slices_IndexFunc_api_Value_api_Value__txn_right_1.st1 l) (n := l.length) (p := fun j => !valP (l.getD j default)) (fun i hi => by
    have w : IntKind.i64.wrap ((i : Int) + 1) = ((i + 1 : Nat) : Int) := by rw [i64_id (by omega)]; omega
    have hm := hf _ (List.getElem_mem hi)
    rw [← getD_el hi] at hm
    unfold slices_IndexFunc_api_Value_api_Value__txn_right_1.st1 txn_right_1.impl
    simp only [Int.toNat_natCast, w]
    rw [ite_dt (by omega), chk_pos (by omega), value_is hm]
    simp only [Option.bind_some]) (by
    unfold slices_IndexFunc_api_Value_api_Value__txn_right_1.st1
    rw [ite_df (by omega)])
  rw [any_range l (fun v => !valP v)] at hq
  rw [hq]
  cases h : l.any fun v => !valP v with
  | true => simp
  | false => rfl
def scanP (o : Op) : Bool := decide ((0 ≤ o.2.2.2.2.2.1 ∧ o.2.2.2.2.2.1 < 3) ∧ 1 ≤ o.2.2.2.2.2.2.2.2 ∧ o.2.2.2.2.2.2.2.2 ≤ 4)
/-- Which operations may be. -/
def opR (o : Op) : Bool := (bareO o).2 && sameB o (bareO o).1 && (if o.1 = 1 then rightS o.2.2.1 else
  nameP o.2.1 && decide (o.2.2.2.1.length ≤ 3) && valP o.2.2.2.2.1 && valP o.2.2.2.2.2.2.1 && valP o.2.2.2.2.2.2.2.1 && (!decide (o.1 = 6) || scanP o) && !(o.2.2.2.1.any fun v => !valP v))
theorem k3_is {o : Op} (h : BndO o) (s : Bool) : txn_right.k3 o s = some (s && !(o.2.2.2.1.any fun v => !valP v)) := by
  unfold txn_right.k3
  rw [containsV h.rowl h.row]
  cases s <;> rfl
theorem k2_is {o : Op} (h : BndO o) (s : Bool) : txn_right.k2 o s = some (s && (!decide (o.1 = 6) || scanP o) && !(o.2.2.2.1.any fun v => !valP v)) := by
  unfold txn_right.k2 scanP
  simp only [k3_is h]
  by_cases h6 : o.1 = 6
  · rw [ite_dt h6]
    cases s with
    | false => simp
    | true =>
      by_cases h1 : 0 ≤ o.2.2.2.2.2.1 <;> by_cases h2 : o.2.2.2.2.2.1 < 3 <;> by_cases h3 : 1 ≤ o.2.2.2.2.2.2.2.2 <;> by_cases h4 : o.2.2.2.2.2.2.2.2 ≤ 4 <;> simp [h1, h2, h3, h4, h6]
  · rw [ite_df h6]; simp [h6]
theorem right_is {o : Op} (h : BndO o) : txn_right.impl o = some (opR o) := by
  unfold txn_right.impl opR
  rw [bare_is]
  simp only [Option.bind_some, same_is h]
  have key : txn_right.k1 o true = some false := by unfold txn_right.k1; simp only [if_true]
  cases hb : (bareO o).2 with
  | false => simp [key]
  | true =>
    simp only [if_true, Bool.true_and]
    cases hs : sameB o (bareO o).1 with
    | false => simp [key]
    | true =>
      simp only [Bool.not_true, Bool.true_and]
      unfold txn_right.k1
      simp only [Bool.false_eq_true, if_false]
      by_cases h1 : o.1 = 1
      · rw [ite_dt h1, if_pos h1, SRight_is h.sch]
        cases rightS o.2.2.1 <;> simp
      · rw [ite_df h1, if_neg h1, Name_is h.name, value_is h.key, value_is h.lo, value_is h.hi]
        have e3 : decide ((o.2.2.2.1.length : Int) ≤ 3) = decide (o.2.2.2.1.length ≤ 3) := decide_eq_decide.2 (by omega)
        simp only [Option.bind_some, k2_is h, e3]
        cases nameP o.2.1 <;> cases valP o.2.2.2.2.1 <;> cases valP o.2.2.2.2.2.2.1 <;> cases valP o.2.2.2.2.2.2.2.1 <;> by_cases h3 : o.2.2.2.1.length ≤ 3 <;> simp [h3]
theorem containsO {l : List Op} (hl : l.length ≤ 4194304) (hf : ∀ o ∈ l, BndO o) : slices_ContainsFunc_api_Op_api_Op__txn_Right_1.impl l = some (l.any fun o => !opR o) := by
  unfold slices_ContainsFunc_api_Op_api_Op__txn_Right_1.impl slices_IndexFunc_api_Op_api_Op__txn_Right_1.impl
  obtain ⟨q, hq⟩ := loop_find (step := slices_IndexFunc_api_Op_api_Op__txn_Right_1.st1 l) (n := l.length) (p := fun j => !opR (l.getD j default)) (fun i hi => by
    have w : IntKind.i64.wrap ((i : Int) + 1) = ((i + 1 : Nat) : Int) := by rw [i64_id (by omega)]; omega
    have hm := hf _ (List.getElem_mem hi)
    rw [← getD_el hi] at hm
    unfold slices_IndexFunc_api_Op_api_Op__txn_Right_1.st1 txn_Right_1.impl
    simp only [Int.toNat_natCast, w]
    rw [ite_dt (by omega), chk_pos (by omega)]
    have := right_is hm
    first | erw [this] | simp only [this]
    simp only [Option.bind_some]) (by
    unfold slices_IndexFunc_api_Op_api_Op__txn_Right_1.st1
    rw [ite_df (by omega)])
  rw [any_range l (fun o => !opR o)] at hq
  rw [hq]
  cases h : l.any fun o => !opR o with
  | true => simp
  | false => rfl
def opsR (l : List Op) : Bool := decide (l.length ≤ 3) && !(l.any fun o => !opR o)
theorem Right_ops {l : List Op} (hf : ∀ o ∈ l, BndO o) : txn_Right.impl l = some (opsR l) := by
  unfold txn_Right.impl opsR
  by_cases h : l.length ≤ 3
  · rw [ite_dt (by omega), containsO (by omega) hf]
    simp [h]
  · rw [ite_df (by omega)]; simp [h]
theorem opR_kind {o : Op} (h : opR o = true) : o.1 = 1 ∨ o.1 = 2 ∨ o.1 = 3 ∨ o.1 = 4 ∨ o.1 = 5 ∨ o.1 = 6 := by
  unfold opR at h
  simp only [Bool.and_eq_true] at h
  have h1 := h.1.1
  unfold bareO at h1
  by_cases g1 : o.1 = 1
  · exact .inl g1
  by_cases g2 : o.1 = 2
  · exact .inr (.inl g2)
  by_cases g3 : o.1 = 3
  · exact .inr (.inr (.inl g3))
  by_cases g4 : o.1 = 4
  · exact .inr (.inr (.inr (.inl g4)))
  by_cases g5 : o.1 = 5
  · exact .inr (.inr (.inr (.inr (.inl g5))))
  by_cases g6 : o.1 = 6
  · exact .inr (.inr (.inr (.inr (.inr g6))))
  simp [g1, g2, g3, g4, g5, g6] at h1
end Go.Proofs.YtpogdeibkghhaaaDoor
