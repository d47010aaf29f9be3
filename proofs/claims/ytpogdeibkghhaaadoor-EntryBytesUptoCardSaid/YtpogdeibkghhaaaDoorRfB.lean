/- What the document says of operations and entries, in plain terms; sameness. -/
import Derived.Test.YtpogdeibkghhaaaDoorEncL
import Derived.Test.YtpogdeibkghhaaaDoorEntryS
import Derived.Test.YtpogdeibkghhaaaDoorRefE
set_option linter.unusedVariables false
set_option linter.unusedSimpArgs false
set_option linter.unusedSectionVars false
namespace Go.Proofs.YtpogdeibkghhaaaDoor
open Go Go.RowKit Go.Lib
theorem countR_nil : countR [] ≤ 8 := by
  unfold countR
  rw [runesOf_nil]
  split <;> simp
theorem valP_eq (v : Vl) : valP v = smallV v := by
  unfold valP smallV
  by_cases g : rightE v = 0
  · rw [decide_eq_true g, Bool.true_and, Bool.true_and]
    by_cases h2 : v.1 = 2
    · simp [h2]
    · have ht : v.2.2 = [] := by
        unfold rightE at g
        by_cases h0 : v.1 = 0
        · rw [if_pos h0] at g; split at g
          · rename_i hx; exact hx.2
          · cases g
        · rw [if_neg h0] at g
          by_cases h1 : v.1 = 1
          · rw [if_pos h1] at g; split at g
            · rename_i hx; exact hx
            · cases g
          · rw [if_neg h1, if_neg h2] at g
            by_cases h3 : v.1 = 3
            · rw [if_pos h3] at g; split at g
              · rename_i hx; exact hx.1
              · cases g
            · rw [if_neg h3] at g; cases g
      rw [ht]; simp [h2, countR_nil]
  · rw [decide_eq_false g]; simp
theorem Fits.tx {v : Vl} (h : Fits v) : Tx v := h.2
section
variable {o : Op} (h : BndO o)
def tailR (o : Op) : Bool := if o.1 = 6 then decide (0 ≤ o.2.2.2.2.2.1 ∧ o.2.2.2.2.2.1 ≤ 2 ∧ 1 ≤ o.2.2.2.2.2.2.2.2 ∧ o.2.2.2.2.2.2.2.2 ≤ 4) && (smallV o.2.2.2.2.2.2.1 && smallV o.2.2.2.2.2.2.2.1) else decide (o.2.2.2.2.2.1 = 0 ∧ o.2.2.2.2.2.2.1 = zV ∧ o.2.2.2.2.2.2.2.1 = zV ∧ o.2.2.2.2.2.2.2.2 = 0)
include h
theorem one4 (s : Bool) : ref16_one.k4 o s = some (!s && tailR o) := by
  unfold ref16_one.k4 tailR
  rw [Small_is h.lo.tx, Small_is h.hi.tx]
  simp only [Option.bind_some]
  cases s with
  | true => simp
  | false =>
    simp only [Bool.false_eq_true, if_false, Bool.not_false, Bool.true_and]
    by_cases g : o.1 = 6
    · rw [ite_nt g, if_pos g]
      by_cases h1 : 0 ≤ o.2.2.2.2.2.1 <;> by_cases h2 : o.2.2.2.2.2.1 ≤ 2 <;> by_cases h3 : 1 ≤ o.2.2.2.2.2.2.2.2 <;> by_cases h4 : o.2.2.2.2.2.2.2.2 ≤ 4 <;> cases smallV o.2.2.2.2.2.2.1 <;> simp [h1, h2, h3, h4]
    · rw [ite_nf g, if_neg g]
      have hz : ((0 : Int), (0 : Int), ([] : List UInt8)) = zV := rfl
      rw [hz]
      by_cases h1 : o.2.2.2.2.2.1 = 0 <;> by_cases h2 : o.2.2.2.2.2.2.1 = zV <;> by_cases h3 : o.2.2.2.2.2.2.2.1 = zV <;> simp [h1, h2, h3]
def keyR (o : Op) : Bool := if o.1 = 4 ∨ o.1 = 5 then smallV o.2.2.2.2.1 else decide (o.2.2.2.2.1 = zV)
theorem zV_small : smallV zV = true := by unfold smallV zV rightE; simp
theorem one3 (s : Bool) : ref16_one.k3 o s = some (!s && (keyR o && tailR o)) := by
  unfold ref16_one.k3 keyR
  rw [Small_is h.key.tx]
  simp only [Option.bind_some, one4 h]
  cases s with
  | true => simp
  | false =>
    simp only [Bool.false_eq_true, if_false, Bool.not_false, Bool.true_and]
    by_cases g4 : o.1 = 4
    · simp [g4]
    · by_cases g5 : o.1 = 5
      · simp [g5]
      · have hz : ((0 : Int), (0 : Int), ([] : List UInt8)) = zV := rfl
        rw [hz]
        by_cases h2 : o.2.2.2.2.1 = zV
        · have := zV_small h
          simp [g4, g5, h2, this]
        · simp [g4, g5, h2]
def rowR (o : Op) : Bool := if o.1 = 2 ∨ o.1 = 3 then decide (rowE o.2.2.2.1 = 0) else decide (o.2.2.2.1 = [])
theorem one2 (s : Bool) : ref16_one.k2 o s = some (!s && (rowR o && (keyR o && tailR o))) := by
  unfold ref16_one.k2 rowR
  rw [RowRight_is (fun v hv => (h.row v hv).tx)]
  simp only [Option.bind_some, one3 h]
  cases s with
  | true => simp
  | false =>
    simp only [Bool.false_eq_true, if_false, Bool.not_false, Bool.true_and]
    by_cases g2 : o.1 = 2
    · simp [g2]
    · by_cases g3 : o.1 = 3
      · simp [g3]
      · by_cases hl : o.2.2.2.1 = []
        · have : rowE ([] : List Vl) = 0 := rfl
          simp [g2, g3, hl, this]
        · have : 0 < (o.2.2.2.1.length : Int) := by have := List.length_pos_iff.2 hl; omega
          rw [ite_df g2, ite_df g3, ite_dt this]
          simp [g2, g3, hl]
theorem empty_is (s : Sch) : ref16_empty.impl s = some (decide (s = ([], [], []))) := by
  unfold ref16_empty.impl
  obtain ⟨a, b, c⟩ := s
  cases a <;> cases b <;> cases c <;> simp <;> omega
def oneR (o : Op) : Bool := if o.1 < 1 ∨ 6 < o.1 then false else if o.1 = 1 then rightS o.2.2.1 && decide (o.2.1 = [] ∧ o.2.2.2.1 = [] ∧ o.2.2.2.2.1 = zV ∧ o.2.2.2.2.2.1 = 0 ∧ o.2.2.2.2.2.2.1 = zV ∧ o.2.2.2.2.2.2.2.1 = zV ∧ o.2.2.2.2.2.2.2.2 = 0) else nameP o.2.1 && (decide (o.2.2.1 = ([], [], [])) && (rowR o && (keyR o && tailR o)))
theorem one1 (s : Bool) : ref16_one.k1 o s = some (if s = true then false else if o.1 = 1 then rightS o.2.2.1 && decide (o.2.1 = [] ∧ o.2.2.2.1 = [] ∧ o.2.2.2.2.1 = zV ∧ o.2.2.2.2.2.1 = 0 ∧ o.2.2.2.2.2.2.1 = zV ∧ o.2.2.2.2.2.2.2.1 = zV ∧ o.2.2.2.2.2.2.2.2 = 0) else nameP o.2.1 && (decide (o.2.2.1 = ([], [], [])) && (rowR o && (keyR o && tailR o)))) := by
  unfold ref16_one.k1
  rw [RefSRight_is, RefName_is, empty_is h]
  simp only [Option.bind_some, one2 h]
  cases s with
  | true => simp
  | false =>
    simp only [Bool.false_eq_true, if_false]
    by_cases g : o.1 = 1
    · rw [ite_dt g, if_pos g]
      have hz : ((0 : Int), (0 : Int), ([] : List UInt8)) = zV := rfl
      have hl : decide ((o.2.2.2.1.length : Int) = 0) = decide (o.2.2.2.1 = []) := decide_eq_decide.2 ⟨fun e => List.eq_nil_of_length_eq_zero (by omega), fun e => by rw [e]; rfl⟩
      rw [hz, hl]
      cases rightS o.2.2.1 <;> by_cases h1 : o.2.1 = [] <;> by_cases h2 : o.2.2.2.1 = [] <;> by_cases h3 : o.2.2.2.2.1 = zV <;> by_cases h4 : o.2.2.2.2.2.1 = 0 <;> by_cases h5 : o.2.2.2.2.2.2.1 = zV <;> by_cases h6 : o.2.2.2.2.2.2.2.1 = zV <;> simp [h1, h2, h3, h4, h5, h6]
    · rw [ite_df g, if_neg g]
      cases nameP o.2.1 <;> simp
theorem one_is' : ref16_one.impl o = some (oneR o) := by
  unfold ref16_one.impl oneR
  rw [one1 h, one1 h]
  by_cases g : o.1 < 1
  · rw [ite_dt g]
    simp only [if_true]
    rw [if_pos (show o.1 < 1 ∨ 6 < o.1 from .inl g)]
  · by_cases g6 : 6 < o.1
    · rw [ite_df g, decide_eq_true g6]
      simp only [if_true]
      rw [if_pos (show o.1 < 1 ∨ 6 < o.1 from .inr g6)]
    · rw [ite_df g, decide_eq_false g6]
      simp only [Bool.false_eq_true, if_false]
      rw [if_neg (show ¬ (o.1 < 1 ∨ 6 < o.1) by omega)]
theorem rowE_all (l : List Vl) : (rowE l = 0) ↔ l.length ≤ 3 ∧ ∀ v ∈ l, valP v = true := by
  constructor
  · intro e
    obtain ⟨h1, h2⟩ := rowE_zero e
    exact ⟨h1, fun v hv => by rw [valP_eq]; exact h2 v hv⟩
  · rintro ⟨h1, h2⟩
    unfold rowE
    rw [if_pos h1, if_pos (List.all_eq_true.2 fun v hv => by rw [← valP_eq]; exact h2 v hv)]
theorem oneR_eq : oneR o = opR o := by
  have hz := zV_small h
  have hzv : valP zV = true := by rw [valP_eq]; exact hz
  rw [Bool.eq_iff_iff]
  unfold oneR opR bareO sameB rowR keyR tailR scanP
  by_cases g : o.1 < 1 ∨ 6 < o.1
  · rw [if_pos g, if_neg (by omega), if_neg (by omega), if_neg (by omega), if_neg (by omega)]; simp
  · rw [if_neg g]
    have hk : o.1 = 1 ∨ o.1 = 2 ∨ o.1 = 3 ∨ o.1 = 4 ∨ o.1 = 5 ∨ o.1 = 6 := by omega
    have hr := rowE_all h o.2.2.2.1
    rcases hk with k | k | k | k | k | k
    · simp only [k, if_true]
      simp [and_assoc, and_comm, and_left_comm]
    · simp only [k]
      simp [hr]
      constructor
      · rintro ⟨a1, a2, ⟨a3, a4⟩, a5, a6, a7, a8, a9⟩
        exact ⟨⟨a2, a5, a6, a7, a8, a9⟩, ⟨⟨⟨⟨a1, a3⟩, by rw [a5]; exact hzv⟩, by rw [a7]; exact hzv⟩, by rw [a8]; exact hzv⟩, a4⟩
      · rintro ⟨⟨a2, a5, a6, a7, a8, a9⟩, ⟨⟨⟨⟨a1, a3⟩, _⟩, _⟩, _⟩, a4⟩
        exact ⟨a1, a2, ⟨a3, a4⟩, a5, a6, a7, a8, a9⟩
    · simp only [k]
      simp [hr]
      constructor
      · rintro ⟨a1, a2, ⟨a3, a4⟩, a5, a6, a7, a8, a9⟩
        exact ⟨⟨a2, a5, a6, a7, a8, a9⟩, ⟨⟨⟨⟨a1, a3⟩, by rw [a5]; exact hzv⟩, by rw [a7]; exact hzv⟩, by rw [a8]; exact hzv⟩, a4⟩
      · rintro ⟨⟨a2, a5, a6, a7, a8, a9⟩, ⟨⟨⟨⟨a1, a3⟩, _⟩, _⟩, _⟩, a4⟩
        exact ⟨a1, a2, ⟨a3, a4⟩, a5, a6, a7, a8, a9⟩
    · simp only [k]
      simp [← valP_eq]
      constructor
      · rintro ⟨a1, a2, a3, a5, a6, a7, a8, a9⟩
        exact ⟨⟨a2, a3, a6, a7, a8, a9⟩, ⟨⟨⟨⟨a1, by rw [a3]; simp⟩, a5⟩, by rw [a7]; exact hzv⟩, by rw [a8]; exact hzv⟩, by rw [a3]; simp⟩
      · rintro ⟨⟨a2, a3, a6, a7, a8, a9⟩, ⟨⟨⟨⟨a1, _⟩, a5⟩, _⟩, _⟩, _⟩
        exact ⟨a1, a2, a3, a5, a6, a7, a8, a9⟩
    · simp only [k]
      simp [← valP_eq]
      constructor
      · rintro ⟨a1, a2, a3, a5, a6, a7, a8, a9⟩
        exact ⟨⟨a2, a3, a6, a7, a8, a9⟩, ⟨⟨⟨⟨a1, by rw [a3]; simp⟩, a5⟩, by rw [a7]; exact hzv⟩, by rw [a8]; exact hzv⟩, by rw [a3]; simp⟩
      · rintro ⟨⟨a2, a3, a6, a7, a8, a9⟩, ⟨⟨⟨⟨a1, _⟩, a5⟩, _⟩, _⟩, _⟩
        exact ⟨a1, a2, a3, a5, a6, a7, a8, a9⟩
    · simp only [k]
      simp [← valP_eq]
      constructor
      · rintro ⟨a1, a2, a3, a5, ⟨a6, a7, a8, a9⟩, b1, b2⟩
        exact ⟨⟨a2, a3, a5⟩, ⟨⟨⟨⟨⟨a1, by rw [a3]; simp⟩, by rw [a5]; exact hzv⟩, b1⟩, b2⟩, ⟨a6, by omega⟩, a8, a9⟩, by rw [a3]; simp⟩
      · rintro ⟨⟨a2, a3, a5⟩, ⟨⟨⟨⟨⟨a1, _⟩, _⟩, b1⟩, b2⟩, ⟨a6, a7⟩, a8, a9⟩, _⟩
        exact ⟨a1, a2, a3, a5, ⟨a6, by omega, a8, a9⟩, b1, b2⟩
theorem refone_is : ref16_one.impl o = some (opR o) := by rw [one_is' h, oneR_eq h]
end
theorem RefRight_ops {l : List Op} (hl : l.length ≤ 4194304) (hf : ∀ o ∈ l, BndO o) : ref16_Right.impl l = some (opsR l) := by
  unfold ref16_Right.impl
  have := loop_all (step := ref16_Right.st1 l) (n := l.length) (v := false) (ok := fun i => opR (l.getD i default)) (fun i hi => by
    have hm := hf _ (List.getElem_mem hi)
    rw [← getD_el hi] at hm
    unfold ref16_Right.st1
    simp only [Int.toNat_natCast]
    rw [ite_dt (by omega), chk_pos (by omega), refone_is hm]
    simp only [Option.bind_some]
    cases opR (l.getD i default) with
    | true => simp; rw [i64_id (by omega)]
    | false => simp) (by
    unfold ref16_Right.st1
    rw [ite_df (by omega)])
  rw [all_range l opR] at this
  rw [this]
  unfold opsR
  have ha : (l.any fun o => !opR o) = !l.all opR := by rw [Bool.eq_iff_iff]; simp
  rw [ha]
  cases l.all opR with
  | true =>
    simp only [if_true, Option.bind_some, ref16_Right.k1, Bool.not_not, Bool.and_true]
    congr 1
    exact decide_eq_decide.2 (by omega)
  | false => simp
/-! ### Sameness -/
instance d9 : DecidableEq (Vl × Int) := inferInstance
instance d8 : DecidableEq (Vl × Vl × Int) := inferInstance
instance d7 : DecidableEq (Int × Vl × Vl × Int) := inferInstance
instance d6 : DecidableEq (Vl × Int × Vl × Vl × Int) := inferInstance
instance d5 : DecidableEq (List Vl × Vl × Int × Vl × Vl × Int) := inferInstance
instance d4 : DecidableEq (Sch × List Vl × Vl × Int × Vl × Vl × Int) := @instDecidableEqProd Sch _ (fun a b => inferInstanceAs (Decidable (a = b))) d5
instance d3 : DecidableEq (List UInt8 × Sch × List Vl × Vl × Int × Vl × Vl × Int) := inferInstance
instance d2 : DecidableEq Op := inferInstanceAs (DecidableEq (Int × List UInt8 × Sch × List Vl × Vl × Int × Vl × Vl × Int))
instance dO : DecidableEq (List Op) := inferInstance
instance dC : DecidableEq Cmd := inferInstanceAs (DecidableEq (Int × Int × List Op))
instance dL : DecidableEq (List Cmd) := inferInstance
instance dE : DecidableEq Ent := inferInstanceAs (DecidableEq (Int × Int × List Cmd × Int))
theorem opEq (a b : Op) : decide (a = b) = (decide (a.1 = b.1) && (decide (a.2.1 = b.2.1) && (decide (a.2.2.1 = b.2.2.1) && (decide (a.2.2.2.1 = b.2.2.2.1) && (decide (a.2.2.2.2.1 = b.2.2.2.2.1) && (decide (a.2.2.2.2.2.1 = b.2.2.2.2.2.1) && (decide (a.2.2.2.2.2.2.1 = b.2.2.2.2.2.2.1) && (decide (a.2.2.2.2.2.2.2.1 = b.2.2.2.2.2.2.2.1) && decide (a.2.2.2.2.2.2.2.2 = b.2.2.2.2.2.2.2.2))))))))) := by
  obtain ⟨a1, a2, a3, a4, a5, a6, a7, a8, a9⟩ := a
  obtain ⟨b1, b2, b3, b4, b5, b6, b7, b8, b9⟩ := b
  rw [Bool.eq_iff_iff]
  simp only [decide_eq_true_eq, Bool.and_eq_true, Prod.mk.injEq]
theorem sameOp_is {a b : Op} (h : BndO a) : entry_sameOp.impl a b = some (decide (a = b)) := by
  unfold entry_sameOp.impl
  rw [SSame_is h.cols h.idx, SameRow_is h.rowl]
  simp only [Option.bind_some, ite_and, ite_andB, opEq]
theorem refSame_k2 {l m : List Op} {i : Nat} (hl : l.length ≤ 4194304) (hi : i < l.length) (h : BndO (l.getD i default)) (a b : Op) (ha : l.getD i default = a) (hb : m.getD i default = b) (hB : BndO a) :
    ref16_SameOps.k2 l (i : Int) m (a.2.2.1.2.1, a.2.2.1.2.2, a.2.2.2.1, b.2.2.1.2.1, b.2.2.1.2.2, b.2.2.2.1) = if decide (a = b) = true then some (.inl ((i + 1 : Nat) : Int)) else some (.inr (.inl false)) := by
  unfold ref16_SameOps.k2
  simp only [Int.toNat_natCast, ha, hb]
  have e1 : ref14_Same.impl (a.2.2.1.1, a.2.2.1.2.1, a.2.2.1.2.2) (b.2.2.1.1, b.2.2.1.2.1, b.2.2.1.2.2) = some (decide (a.2.2.1 = b.2.2.1)) := RefSSame_is hB.cols hB.idx
  rw [e1, RefSame_is hB.rowl]
  simp only [Option.bind_some]
  have k3t : ref16_SameOps.k3 (i : Int) true = some (.inr (.inl false)) := rfl
  have k3f : ref16_SameOps.k3 (i : Int) false = some (.inl (IntKind.i64.wrap ((i : Int) + 1))) := rfl
  rw [opEq]
  by_cases h1 : a.1 = b.1
  · rw [ite_dt h1]
    by_cases h2 : a.2.1 = b.2.1
    · rw [ite_dt h2]
      by_cases h5 : a.2.2.2.2.1 = b.2.2.2.2.1
      · rw [ite_dt (show (a.2.2.2.2.1.1, a.2.2.2.2.1.2.1, a.2.2.2.2.1.2.2) = (b.2.2.2.2.1.1, b.2.2.2.2.1.2.1, b.2.2.2.2.1.2.2) from h5)]
        by_cases h6 : a.2.2.2.2.2.1 = b.2.2.2.2.2.1
        · rw [ite_dt h6]
          by_cases h7 : a.2.2.2.2.2.2.1 = b.2.2.2.2.2.2.1
          · rw [ite_dt (show (a.2.2.2.2.2.2.1.1, a.2.2.2.2.2.2.1.2.1, a.2.2.2.2.2.2.1.2.2) = (b.2.2.2.2.2.2.1.1, b.2.2.2.2.2.2.1.2.1, b.2.2.2.2.2.2.1.2.2) from h7)]
            by_cases h8 : a.2.2.2.2.2.2.2.1 = b.2.2.2.2.2.2.2.1
            · rw [ite_dt (show (a.2.2.2.2.2.2.2.1.1, a.2.2.2.2.2.2.2.1.2.1, a.2.2.2.2.2.2.2.1.2.2) = (b.2.2.2.2.2.2.2.1.1, b.2.2.2.2.2.2.2.1.2.1, b.2.2.2.2.2.2.2.1.2.2) from h8)]
              by_cases h9 : a.2.2.2.2.2.2.2.2 = b.2.2.2.2.2.2.2.2
              · rw [ite_dt h9]
                by_cases h3 : a.2.2.1 = b.2.2.1 <;> by_cases h4 : a.2.2.2.1 = b.2.2.2.1 <;> simp [h1, h2, h3, h4, h5, h6, h7, h8, h9, k3t, k3f] <;> (try (rw [i64_id (by omega)]))
              · rw [ite_df h9, k3t]; simp [h9]
            · rw [ite_df (show ¬ (a.2.2.2.2.2.2.2.1.1, a.2.2.2.2.2.2.2.1.2.1, a.2.2.2.2.2.2.2.1.2.2) = (b.2.2.2.2.2.2.2.1.1, b.2.2.2.2.2.2.2.1.2.1, b.2.2.2.2.2.2.2.1.2.2) from h8), k3t]; simp [h8]
          · rw [ite_df (show ¬ (a.2.2.2.2.2.2.1.1, a.2.2.2.2.2.2.1.2.1, a.2.2.2.2.2.2.1.2.2) = (b.2.2.2.2.2.2.1.1, b.2.2.2.2.2.2.1.2.1, b.2.2.2.2.2.2.1.2.2) from h7), k3t]; simp [h7]
        · rw [ite_df h6, k3t]; simp [h6]
      · rw [ite_df (show ¬ (a.2.2.2.2.1.1, a.2.2.2.2.1.2.1, a.2.2.2.2.1.2.2) = (b.2.2.2.2.1.1, b.2.2.2.2.1.2.1, b.2.2.2.2.1.2.2) from h5), k3t]; simp [h5]
    · rw [ite_df h2, k3t]; simp [h2]
  · rw [ite_df h1, k3t]; simp [h1]
theorem SameOps_is {l m : List Op} (hl : l.length ≤ 4194304) (hB : ∀ o ∈ l, BndO o) : ref16_SameOps.impl l m = some (decide (l = m)) := by
  unfold ref16_SameOps.impl
  by_cases hlen : l.length = m.length
  · rw [ite_nt (by omega)]
    have := loop_same (l := l) (m := m) (step := ref16_SameOps.st1 l m) hlen (fun i hi => by
      have hm := hB _ (List.getElem_mem hi)
      rw [← getD_el hi] at hm
      unfold ref16_SameOps.st1
      rw [ite_dt (by omega), chk_pos (by omega), chk_pos (by omega)]
      exact refSame_k2 hl hi hm _ _ rfl rfl hm) (by
      unfold ref16_SameOps.st1
      rw [ite_df (by omega)])
    rw [this]
    by_cases e : l = m
    · rw [if_pos e, decide_eq_true e]; rfl
    · rw [if_neg e, decide_eq_false e]; rfl
  · rw [ite_nf (by omega), decide_eq_false (fun e => hlen (by rw [e]))]
theorem EqualOps_is {l m : List Op} (hl : l.length ≤ 4194304) (hB : ∀ o ∈ l, BndO o) : slices_EqualFunc_api_Op_api_Op_api_Op_api_Op__entry_sameOp.impl l m = some (decide (l = m)) := by
  unfold slices_EqualFunc_api_Op_api_Op_api_Op_api_Op__entry_sameOp.impl
  by_cases hlen : l.length = m.length
  · rw [ite_nt (by omega)]
    have := loop_same (l := l) (m := m) (step := slices_EqualFunc_api_Op_api_Op_api_Op_api_Op__entry_sameOp.st1 l m) hlen (fun i hi => by
      have hm := hB _ (List.getElem_mem hi)
      rw [← getD_el hi] at hm
      unfold slices_EqualFunc_api_Op_api_Op_api_Op_api_Op__entry_sameOp.st1
      simp only [Int.toNat_natCast]
      rw [ite_dt (by omega), chk_pos (by omega), chk_pos (by omega)]
      have e := sameOp_is (a := l.getD i default) (b := m.getD i default) hm
      first | erw [e] | simp only [e]
      simp only [Option.bind_some]
      by_cases g : l.getD i default = m.getD i default
      · rw [decide_eq_true g]; simp; rw [i64_id (by omega)]
      · rw [decide_eq_false g]; simp) (by
      unfold slices_EqualFunc_api_Op_api_Op_api_Op_api_Op__entry_sameOp.st1
      rw [ite_df (by omega)])
    rw [this]
    by_cases e : l = m
    · rw [if_pos e, decide_eq_true e]; rfl
    · rw [if_neg e, decide_eq_false e]; rfl
  · rw [ite_nf (by omega), decide_eq_false (fun e => hlen (by rw [e]))]
theorem cmdEq (a b : Cmd) : decide (a = b) = (decide (a.1 = b.1) && (decide (a.2.1 = b.2.1) && decide (a.2.2 = b.2.2))) := by
  obtain ⟨a1, a2, a3⟩ := a
  obtain ⟨b1, b2, b3⟩ := b
  rw [Bool.eq_iff_iff]
  simp only [decide_eq_true_eq, Bool.and_eq_true, Prod.mk.injEq]
theorem entEq (a b : Ent) : decide (a = b) = (decide (a.1 = b.1) && (decide (a.2.1 = b.2.1) && (decide (a.2.2.1 = b.2.2.1) && decide (a.2.2.2 = b.2.2.2)))) := by
  obtain ⟨a1, a2, a3, a4⟩ := a
  obtain ⟨b1, b2, b3, b4⟩ := b
  rw [Bool.eq_iff_iff]
  simp only [decide_eq_true_eq, Bool.and_eq_true, Prod.mk.injEq]
structure Few (e : Ent) : Prop where
  bnd : BndE e
  len : e.2.2.1.length ≤ 4
  ops : ∀ c ∈ e.2.2.1, c.2.2.length ≤ 4
theorem same1_is {a b : Cmd} (hl : a.2.2.length ≤ 4) (h : BndC a) : entry_Same_1.impl a b = some (decide (a = b)) := by
  unfold entry_Same_1.impl
  rw [EqualOps_is (by omega) h]
  simp only [Option.bind_some, ite_and, cmdEq]
theorem EqualCmds_is {e : Ent} (h : Few e) (m : List Cmd) : slices_EqualFunc_api_Command_api_Command_api_Command_api_Command__entry_Same_1.impl e.2.2.1 m = some (decide (e.2.2.1 = m)) := by
  obtain ⟨l, hle⟩ : ∃ l, e.2.2.1 = l := ⟨_, rfl⟩
  have h4 := h.len
  have hB : ∀ c ∈ e.2.2.1, BndC c := h.bnd
  have hO := h.ops
  rw [hle] at h4 hB hO ⊢
  unfold slices_EqualFunc_api_Command_api_Command_api_Command_api_Command__entry_Same_1.impl
  by_cases hlen : l.length = m.length
  · rw [ite_nt (by omega)]
    have := loop_same (l := l) (m := m) (step := slices_EqualFunc_api_Command_api_Command_api_Command_api_Command__entry_Same_1.st1 l m) hlen (fun i hi => by
      have hm := hB _ (List.getElem_mem hi)
      have ho := hO _ (List.getElem_mem hi)
      rw [← getD_el hi] at hm ho
      unfold slices_EqualFunc_api_Command_api_Command_api_Command_api_Command__entry_Same_1.st1
      simp only [Int.toNat_natCast]
      rw [ite_dt (by omega), chk_pos (by omega), chk_pos (by omega)]
      have e := same1_is (a := l.getD i default) (b := m.getD i default) ho hm
      first | erw [e] | simp only [e]
      simp only [Option.bind_some]
      by_cases g : l.getD i default = m.getD i default
      · rw [decide_eq_true g]; simp; rw [i64_id (by omega)]
      · rw [decide_eq_false g]; simp) (by
      unfold slices_EqualFunc_api_Command_api_Command_api_Command_api_Command__entry_Same_1.st1
      rw [ite_df (by omega)])
    rw [this]
    by_cases e : l = m
    · rw [if_pos e, decide_eq_true e]; rfl
    · rw [if_neg e, decide_eq_false e]; rfl
  · rw [ite_nf (by omega), decide_eq_false (fun e => hlen (by rw [e]))]
theorem ESame_is {a b : Ent} (h : Few a) : entry_Same.impl a b = some (decide (a = b)) := by
  unfold entry_Same.impl
  rw [EqualCmds_is h]
  simp only [Option.bind_some, entEq]
  by_cases h1 : a.1 = b.1 <;> by_cases h2 : a.2.1 = b.2.1 <;> by_cases h3 : a.2.2.2 = b.2.2.2 <;> simp [h1, h2, h3]
theorem RSame_is {a b : Ent} (h : Few a) : ref17_Same.impl a b = some (decide (a = b)) := by
  have k1t : ref17_Same.k1 a b true = some false := by unfold ref17_Same.k1; simp
  have key : ref17_Same.k1 a b (!decide (((a.2.2.1.length : Int)) = ((b.2.2.1.length : Int)))) = some (decide (a.2.2.1 = b.2.2.1)) := by
    unfold ref17_Same.k1
    by_cases hlen : a.2.2.1.length = b.2.2.1.length
    · rw [decide_eq_true (by omega)]
      simp only [Bool.not_true, Bool.false_eq_true, if_false]
      have := loop_same (l := a.2.2.1) (m := b.2.2.1) (step := ref17_Same.st1 a b) hlen (fun i hi => by
        have h4 := h.len
        have hm : BndC a.2.2.1[i] := h.bnd _ (List.getElem_mem hi)
        have ho := h.ops _ (List.getElem_mem hi)
        rw [← getD_el hi] at hm ho
        unfold ref17_Same.st1 ref17_Same.k3
        simp only [Int.toNat_natCast]
        rw [ite_dt (by omega), chk_pos (by omega), chk_pos (by omega)]
        rw [SameOps_is (by omega) hm, cmdEq]
        simp only [Option.bind_some]
        have k4t : ref17_Same.k4 (i : Int) true = some (.inr (.inl false)) := rfl
        have k4f : ref17_Same.k4 (i : Int) false = some (.inl (IntKind.i64.wrap ((i : Int) + 1))) := rfl
        by_cases g1 : (a.2.2.1.getD i default).1 = (b.2.2.1.getD i default).1
        · rw [ite_dt g1]
          by_cases g2 : (a.2.2.1.getD i default).2.1 = (b.2.2.1.getD i default).2.1
          · rw [ite_dt g2]
            by_cases g3 : (a.2.2.1.getD i default).2.2 = (b.2.2.1.getD i default).2.2
            · rw [decide_eq_true g1, decide_eq_true g2, decide_eq_true g3, Bool.not_true, k4f, i64_id (by omega)]; simp
            · rw [decide_eq_false g3, Bool.not_false, k4t]; simp
          · rw [ite_df g2, k4t, decide_eq_false g2]; simp
        · rw [ite_df g1, k4t, decide_eq_false g1]; simp) (by
        unfold ref17_Same.st1
        rw [ite_df (by omega)])
      rw [this]
      by_cases e : a.2.2.1 = b.2.2.1
      · rw [if_pos e, decide_eq_true e]; rfl
      · rw [if_neg e, decide_eq_false e]; rfl
    · rw [decide_eq_false (by omega)]
      simp only [Bool.not_false, if_true]
      rw [decide_eq_false (fun e => hlen (by rw [e]))]
  unfold ref17_Same.impl
  rw [key, k1t, entEq]
  by_cases h1 : a.1 = b.1 <;> by_cases h2 : a.2.1 = b.2.1 <;> by_cases h3 : a.2.2.2 = b.2.2.2 <;> simp [h1, h2, h3]
/-! ### Which entries may be -/
theorem number_is (a b c : Int) : ref17_number.impl a b c = some (decide (b ≤ a ∧ a ≤ c)) := by
  unfold ref17_number.impl
  by_cases h : b ≤ a <;> simp [h]
theorem RRight_is {e : Ent} (h : Few e) : ref17_Right.impl e = some (entR e) := by
  have h4 := h.len
  have lp := loop_all (step := ref17_Right.st1 e) (n := e.2.2.1.length) (v := false) (ok := fun i => commandP (e.2.2.1.getD i default)) (fun i hi => by
    have hm : BndC e.2.2.1[i] := h.bnd _ (List.getElem_mem hi)
    have ho := h.ops _ (List.getElem_mem hi)
    rw [← getD_el hi] at hm ho
    unfold ref17_Right.st1
    simp only [Int.toNat_natCast, number_is, Option.bind_some]
    rw [ite_dt (by omega), chk_pos (by omega), RefRight_ops (by omega) hm]
    simp only [Option.bind_some]
    have k6t : ref17_Right.k6 (i : Int) true = some (.inr (.inl false)) := rfl
    have k6f : ref17_Right.k6 (i : Int) false = some (.inl (IntKind.i64.wrap ((i : Int) + 1))) := rfl
    unfold commandP
    by_cases g1 : 0 ≤ (e.2.2.1.getD i default).1 ∧ (e.2.2.1.getD i default).1 ≤ 7
    · rw [ite_dt g1]
      by_cases g2 : 1 ≤ (e.2.2.1.getD i default).2.1 ∧ (e.2.2.1.getD i default).2.1 ≤ 2147483647
      · rw [ite_dt g2, decide_eq_true (⟨⟨g1.1, by omega⟩, g2⟩)]
        cases opsR (e.2.2.1.getD i default).2.2 with
        | true => rw [Bool.not_true, k6f, i64_id (by omega)]; simp
        | false => rw [Bool.not_false, k6t]; simp
      · rw [ite_df g2, k6t, decide_eq_false (fun x => g2 x.2)]; simp
    · rw [ite_df g1, k6t, decide_eq_false (fun x => g1 ⟨x.1.1, by omega⟩)]; simp) (by
    unfold ref17_Right.st1
    rw [ite_df (by omega)])
  rw [all_range e.2.2.1 commandP] at lp
  have ha : (e.2.2.1.any fun c => !commandP c) = !e.2.2.1.all commandP := by rw [Bool.eq_iff_iff]; simp
  unfold ref17_Right.impl entR
  rw [ha]
  have k1t : ref17_Right.k1 e true = some false := by unfold ref17_Right.k1; simp
  have k4t : ref17_Right.k4 e true = some false := by unfold ref17_Right.k4; simp
  have k4f : ref17_Right.k4 e false = some (e.2.2.1.all commandP) := by
    unfold ref17_Right.k4
    simp only [Bool.false_eq_true, if_false]
    rw [lp]
    cases e.2.2.1.all commandP <;> rfl
  by_cases s1 : e.2.1 < 0
  · rw [ite_dt s1, k1t, decide_eq_false (show ¬ ((0 ≤ e.2.1 ∧ e.2.1 < 4) ∧ (lims e.1).1 ≤ e.2.2.2 ∧ e.2.2.2 ≤ (lims e.1).2.1) by omega)]; simp
  rw [ite_df s1]
  by_cases s2 : 3 < e.2.1
  · rw [decide_eq_true s2, k1t, decide_eq_false (show ¬ ((0 ≤ e.2.1 ∧ e.2.1 < 4) ∧ (lims e.1).1 ≤ e.2.2.2 ∧ e.2.2.2 ≤ (lims e.1).2.1) by omega)]; simp
  rw [decide_eq_false s2]
  unfold ref17_Right.k1
  simp only [Bool.false_eq_true, if_false]
  have hs : 0 ≤ e.2.1 ∧ e.2.1 < 4 := by omega
  by_cases g1 : e.1 = 1
  · rw [ite_dt g1, if_pos g1]
    have hl : lims e.1 = (0, 0, true) := by unfold lims; rw [if_pos g1]
    rw [hl]
    simp only [Bool.true_and, Bool.not_not]
    by_cases n0 : e.2.2.2 = 0
    · rw [ite_dt n0, decide_eq_true (show (0 ≤ e.2.1 ∧ e.2.1 < 4) ∧ 0 ≤ e.2.2.2 ∧ e.2.2.2 ≤ 0 by omega)]
      by_cases c1 : (e.2.2.1.length : Int) < 1
      · rw [ite_dt c1, k4t, decide_eq_false (show ¬ (1 ≤ e.2.2.1.length ∧ e.2.2.1.length ≤ 3) by omega)]; simp
      · rw [ite_df c1]
        by_cases c3 : (3 : Int) < (e.2.2.1.length : Int)
        · rw [decide_eq_true c3, k4t, decide_eq_false (show ¬ (1 ≤ e.2.2.1.length ∧ e.2.2.1.length ≤ 3) by omega)]; simp
        · rw [decide_eq_false c3, k4f, decide_eq_true (show 1 ≤ e.2.2.1.length ∧ e.2.2.1.length ≤ 3 by omega)]; simp
    · rw [ite_df n0, k4t, decide_eq_false (show ¬ ((0 ≤ e.2.1 ∧ e.2.1 < 4) ∧ 0 ≤ e.2.2.2 ∧ e.2.2.2 ≤ 0) by omega)]; simp
  · rw [ite_df g1, if_neg g1]
    unfold ref17_Right.k2
    by_cases c0 : 0 < (e.2.2.1.length : Int)
    · rw [ite_dt c0, decide_eq_false (show ¬ e.2.2.1.length = 0 by omega)]; simp
    · rw [ite_df c0, decide_eq_true (show e.2.2.1.length = 0 by omega)]
      unfold ref17_Right.k3
      simp only [number_is, Option.bind_some]
      unfold lims
      rw [if_neg g1]
      have fin : ∀ (p q : Prop) [Decidable p] [Decidable q], (p ↔ q) → some (decide p) = some (true && decide q && true) := fun p q _ _ hpq => by
        rw [Bool.true_and, Bool.and_true]; congr 1; exact decide_eq_decide.2 hpq
      by_cases g2 : e.1 = 2
      · rw [ite_dt g2, if_pos (show e.1 = 2 ∨ e.1 = 4 from .inl g2), decide_eq_true g2]
        simp only [if_true]
        exact fin _ _ (by omega)
      · rw [ite_df g2]
        by_cases g4 : e.1 = 4
        · rw [if_pos (show e.1 = 2 ∨ e.1 = 4 from .inr g4), decide_eq_true g4]
          simp only [if_true]
          exact fin _ _ (by omega)
        · rw [if_neg (show ¬ (e.1 = 2 ∨ e.1 = 4) by omega), decide_eq_false g4]
          simp only [Bool.false_eq_true, if_false]
          by_cases g3 : e.1 = 3
          · rw [ite_dt g3, if_pos g3]
            exact fin _ _ (show (1 ≤ e.2.2.2 ∧ e.2.2.2 ≤ 1048576) ↔ ((0 ≤ e.2.1 ∧ e.2.1 < 4) ∧ 1 ≤ e.2.2.2 ∧ e.2.2.2 ≤ 1048576) by omega)
          · rw [ite_df g3, if_neg g3]
            by_cases g5 : e.1 = 5
            · rw [ite_dt g5, if_pos g5]
              exact fin _ _ (show (1 ≤ e.2.2.2 ∧ e.2.2.2 ≤ 2) ↔ ((0 ≤ e.2.1 ∧ e.2.1 < 4) ∧ 1 ≤ e.2.2.2 ∧ e.2.2.2 ≤ 2) by omega)
            · rw [ite_df g5, if_neg g5]; simp
end Go.Proofs.YtpogdeibkghhaaaDoor
