/- Layer 14: schemas and rows in plain terms: which are right, which fit. -/
import Derived.Test.YtdojooblfemmnaaDoorSchema
import Derived.Test.YtdojooblfemmnaaDoorReadC
import Derived.Test.YtdojooblfemmnaaDoorRead
set_option linter.unusedVariables false
set_option linter.unusedSimpArgs false
namespace Go.Proofs.YtdojooblfemmnaaDoor
open Go Go.RowKit Go.Lib
abbrev Col := List UInt8 × Int × Int
abbrev Ix := Int × Bool
abbrev Sch := List UInt8 × List Col × List Ix
/-! ### Loops that ask each -/
section
variable {ρ : Type} {step : Int → Option (Int ⊕ (ρ ⊕ Unit))}
theorem range_drop {n i : Nat} (h : i < n) : (List.range n).drop i = i :: (List.range n).drop (i + 1) := by
  rw [List.drop_eq_getElem_cons (by simpa using h)]; simp
theorem loop_all {n : Nat} {v : ρ} {ok : Nat → Bool} (hs : ∀ i, i < n → step (i : Int) = if ok i = true then some (.inl ((i + 1 : Nat) : Int)) else some (.inr (.inl v))) (he : step (n : Int) = some (.inr (.inr ()))) :
    loop step 0 = some (if (List.range n).all ok = true then .inr () else .inl v) := by
  have key : ∀ k i, n - i < k → i ≤ n → loop step (i : Int) = some (if ((List.range n).drop i).all ok = true then .inr () else .inl v) := by
    intro k
    induction k with
    | zero => intro i h; omega
    | succ k ih =>
      intro i h hi
      by_cases hlt : i < n
      · rw [range_drop hlt, List.all_cons]
        by_cases h1 : ok i = true
        · have st := hs i hlt
          rw [if_pos h1] at st
          rw [loop_more st, ih (i + 1) (by omega) hlt, h1, Bool.true_and]
        · have st := hs i hlt
          rw [if_neg h1] at st
          rw [loop_last st]
          have : ok i = false := by simpa using h1
          rw [this]; rfl
      · rw [show i = n by omega, loop_last he, List.drop_of_length_le (by simp)]; rfl
  have := key _ 0 (Nat.lt_succ_self _) (Nat.zero_le _)
  simpa using this
theorem loop_find {step : Int → Option (Int ⊕ (Int ⊕ Unit))} {n : Nat} {p : Nat → Bool} (hs : ∀ i, i < n → step (i : Int) = if p i = true then some (.inr (.inl (i : Int))) else some (.inl ((i + 1 : Nat) : Int))) (he : step (n : Int) = some (.inr (.inr ()))) :
    ∃ q : Nat, loop step 0 = some (if (List.range n).any p = true then .inl (q : Int) else .inr ()) := by
  have key : ∀ k i, n - i < k → i ≤ n → ∃ q : Nat, loop step (i : Int) = some (if ((List.range n).drop i).any p = true then .inl (q : Int) else .inr ()) := by
    intro k
    induction k with
    | zero => intro i h; omega
    | succ k ih =>
      intro i h hi
      by_cases hlt : i < n
      · rw [range_drop hlt, List.any_cons]
        by_cases h1 : p i = true
        · have st := hs i hlt
          rw [if_pos h1] at st
          refine ⟨i, ?_⟩
          rw [loop_last st, h1]; rfl
        · have st := hs i hlt
          rw [if_neg h1] at st
          obtain ⟨q, hq⟩ := ih (i + 1) (by omega) hlt
          have : p i = false := by simpa using h1
          exact ⟨q, by rw [loop_more st, hq, this, Bool.false_or]⟩
      · exact ⟨0, by rw [show i = n by omega, loop_last he, List.drop_of_length_le (by simp)]; rfl⟩
  have := key _ 0 (Nat.lt_succ_self _) (Nat.zero_le _)
  simpa using this
end
theorem any_range {α : Type} [Inhabited α] (l : List α) (f : α → Bool) : ((List.range l.length).any fun j => f (l.getD j default)) = l.any f := by
  rw [Bool.eq_iff_iff]
  simp only [List.any_eq_true, List.mem_range]
  constructor
  · rintro ⟨j, hj, h⟩; rw [getD_el hj] at h; exact ⟨_, List.getElem_mem hj, h⟩
  · rintro ⟨x, hx, h⟩
    obtain ⟨j, hj, rfl⟩ := List.getElem_of_mem hx
    exact ⟨j, hj, by rw [getD_el hj]; exact h⟩
theorem all_range_congr {n : Nat} {f g : Nat → Bool} (h : ∀ i, i < n → f i = g i) : (List.range n).all f = (List.range n).all g := by
  rw [Bool.eq_iff_iff]
  simp only [List.all_eq_true, List.mem_range]
  exact ⟨fun a i hi => by rw [← h i hi]; exact a i hi, fun a i hi => by rw [h i hi]; exact a i hi⟩
/-! ### Names -/
def lowB (b : UInt8) : Bool := decide (97 ≤ b.toNat) && decide (b.toNat ≤ 122)
def nameP (l : List UInt8) : Bool := decide (1 ≤ l.length) && decide (l.length ≤ 8) && l.all lowB
theorem decode_lo {b : UInt8} {r : List UInt8} (h : b.toNat < 128) : decodeL (b :: r) = (b.toNat, 1) := by
  rw [decodeL_N]
  exact decodeN_ascii _ _ _ _ _ h
theorem decode_hi {b : UInt8} {r : List UInt8} (h : ¬ b.toNat < 128) : 128 ≤ (decodeL (b :: r)).1 := by
  rw [decodeL_N, refN_is _ _ _ _ _ (UInt8.toNat_lt _)]
  have e : ((b :: r).getD 0 0).toNat = b.toNat := rfl
  rw [e]
  unfold refN
  rw [if_neg h]
  repeat' split
  all_goals (simp only; omega)
/-! ### Columns, indexes, schemas -/
def colP (c : Col) : Bool := nameP c.1 && (if c.2.1 = 2 then decide (1 ≤ c.2.2) && decide (c.2.2 ≤ 8) else (decide (c.2.1 = 1) || decide (c.2.1 = 3)) && decide (c.2.2 = 0))
def okC (s : Sch) (i : Nat) : Bool := !((s.2.1.take i).any fun x => decide (x.1 = (s.2.1.getD i default).1)) && colP (s.2.1.getD i default)
def okI (s : Sch) (i : Nat) : Bool := !((s.2.2.take i).any fun x => decide (x.1 = (s.2.2.getD i default).1)) && (decide (1 ≤ (s.2.2.getD i default).1) && decide ((s.2.2.getD i default).1 < (s.2.1.length : Int)))
def sizesS (s : Sch) : Bool := decide (1 ≤ s.2.1.length) && decide (s.2.1.length ≤ 3) && decide (s.2.2.length ≤ 3)
def rightS (s : Sch) : Bool := nameP s.1 && sizesS s && (List.range s.2.1.length).all (okC s) && (List.range s.2.2.length).all (okI s)
theorem subl_take0 {α : Type} (l : List α) (n : Nat) : subl l 0 (n : Int) = l.take n := by unfold subl; simp
/-- Names that are not too long. -/
def NamesS (s : Sch) : Prop := s.1.length ≤ 4194304 ∧ ∀ c ∈ s.2.1, c.1.length ≤ 4194304
end Go.Proofs.YtdojooblfemmnaaDoor
