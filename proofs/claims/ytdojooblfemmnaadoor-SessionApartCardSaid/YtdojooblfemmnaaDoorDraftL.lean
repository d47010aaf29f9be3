/- The draft's calls in plain terms: changes over an empty store. -/
import Derived.Test.YtdojooblfemmnaaDoorWirL
import Derived.Test.YtdojooblfemmnaaDoorDraft
import Derived.Test.YtdojooblfemmnaaDoorFreshL
set_option linter.unusedVariables false
set_option linter.unusedSimpArgs false
namespace Go.Proofs.YtdojooblfemmnaaDoor
open Go Go.RowKit
abbrev Chg := (Int × List UInt8 × List UInt8) × Bool
/-- a change of this key -/
def isK (sp : Int) (k : List UInt8) (c : Chg) : Bool := decide (c.1.1 = sp) && decide (c.1.2.1 = k)
def lastC (l : List Chg) (sp : Int) (k : List UInt8) : Option Chg := l.reverse.find? (isK sp k)
theorem lastC_add (l : List Chg) (c : Chg) (sp : Int) (k : List UInt8) : lastC (l ++ [c]) sp k = if isK sp k c = true then some c else lastC l sp k := by
  unfold lastC
  rw [List.reverse_append, List.reverse_singleton, List.singleton_append, List.find?_cons]
  cases isK sp k c <;> rfl
theorem last_loop (l : List Chg) (hl : l.length ≤ 1000000) (sp : Int) (k : List UInt8) : ∀ i : Nat, i ≤ l.length → loop (draft_Draft_last.st1 l sp k) ((i : Int) - 1) = some (match (l.take i).reverse.find? (isK sp k) with | some c => .inl (c, true) | none => .inr ())
  | 0, _ => by
    rw [loop_last (r := .inr ()) (by unfold draft_Draft_last.st1; rw [ite_df (by omega)])]
    rfl
  | i + 1, h => by
    have hd : l.getD i default = l[i] := by simp [List.getD, show i < l.length by omega]
    have ht : l.take (i + 1) = l.take i ++ [l[i]] := by rw [List.take_succ_eq_append_getElem (by omega)]
    have hw : IntKind.i64.wrap ((i : Int) - 1) = (i : Int) - 1 := i64_id (by omega)
    rw [show (((i + 1 : Nat) : Int) - 1) = (i : Int) by omega, ht, List.reverse_append, List.reverse_singleton, List.singleton_append]
    by_cases e : isK sp k l[i] = true
    · rw [List.find?_cons_of_pos e]
      simp only [isK, Bool.and_eq_true, decide_eq_true_eq] at e
      rw [loop_last (r := .inl (l[i], true)) ?_]
      unfold draft_Draft_last.st1
      rw [ite_dt (by omega), chk_true (by omega)]
      simp only [Int.toNat_natCast, hd]
      rw [ite_dt e.1, chk_true (by omega)]
      simp only [bytes_Equal.impl, Option.bind_some]
      unfold draft_Draft_last.k2
      rw [ite_dt e.2, chk_true (by omega)]
      simp only [Int.toNat_natCast, hd]
    · rw [List.find?_cons_of_neg e]
      simp only [isK, Bool.and_eq_true, decide_eq_true_eq, not_and] at e
      have hs : draft_Draft_last.st1 l sp k (i : Int) = some (.inl ((i : Int) - 1)) := by
        unfold draft_Draft_last.st1
        rw [ite_dt (by omega), chk_true (by omega)]
        simp only [Int.toNat_natCast, hd]
        by_cases g : l[i].1.1 = sp
        · rw [ite_dt g, chk_true (by omega)]
          simp only [bytes_Equal.impl, Option.bind_some]
          unfold draft_Draft_last.k2
          rw [ite_df (e g), hw]
        · rw [ite_df g]
          unfold draft_Draft_last.k2
          simp only [Bool.false_eq_true, if_false, hw]
      rw [loop_more hs]
      exact last_loop l hl sp k i (by omega)
theorem last_is (l : List Chg) (hl : l.length ≤ 1000000) (sp : Int) (k : List UInt8) : draft_Draft_last.impl loc0 tre0 pag0 [] dsk0 [] [] [] [] l sp k = some (match lastC l sp k with | some c => (c, true) | none => (((0, [], []), false), false)) := by
  unfold draft_Draft_last.impl
  rw [i64_id (by omega), last_loop l hl sp k l.length (by omega), List.take_length]
  simp only [lastC, Option.bind_some]
  cases l.reverse.find? (isK sp k) with
  | none => rfl
  | some c => rfl
theorem Clone_is (l : List UInt8) (h : l.length ≤ 140737488355328) : slices_Clone.impl l = some l := by
  unfold slices_Clone.impl; rw [chk_true (by simp; omega)]
def okK (sp : Int) (k : List UInt8) : Prop := (0 ≤ sp ∧ sp < 16) ∧ 0 < k.length ∧ k.length ≤ 60
/-- what a key is told as -/
def getL (l : List Chg) (sp : Int) (k : List UInt8) : Option (List UInt8) := match lastC l sp k with | some c => if c.2 = true then none else some c.1.2.2 | none => none
theorem Get_is (l : List Chg) (hl : l.length ≤ 1000000) (hv : ∀ c ∈ l, c.1.2.2.length ≤ 1800) {sp : Int} {k : List UInt8} (hk : okK sp k) : ∃ v, draft_Draft_Get.impl loc0 tre0 pag0 [] dsk0 [] [] [] [] l sp k = some (v, (getL l sp k).isSome, 0) ∧ ∀ u, getL l sp k = some u → v = u := by
  have e1 := SGet_0 sp k hk.1 hk.2
  have e2 := last_is l hl sp k
  unfold draft_Draft_Get.impl
  simp only [loc0, tre0, pag0, dsk0] at e1 e2 ⊢
  rw [e1]
  simp only [Option.bind_some, decide_true, Bool.not_true, Bool.false_eq_true, if_false]
  rw [e2]
  unfold getL
  cases g : lastC l sp k with
  | none => exact ⟨[], rfl, fun u h => by cases h⟩
  | some c =>
    have hm : c ∈ l := by unfold lastC at g; simpa using List.mem_of_find?_eq_some g
    simp only [Option.bind_some, if_true]
    rw [Clone_is _ (by have := hv c hm; omega)]
    refine ⟨c.1.2.2, ?_, fun u h => ?_⟩
    · cases h : c.2 <;> rfl
    · cases h2 : c.2 with
      | true => simp [h2] at h
      | false => simp [h2] at h; exact h
theorem right_is {sp : Int} {k v : List UInt8} (hk : okK sp k) (hv : v.length ≤ 1800) : draft_right.impl sp k v = some 0 := by
  obtain ⟨h1, h2⟩ := hk
  unfold draft_right.impl draft_right.k1 draft_right.k2
  rw [ite_df (by omega), ite_df (by omega), ite_df (by omega), ite_df (by omega), ite_df (by omega)]
theorem Put_is (l : List Chg) (hl : l.length ≤ 1000000) {sp : Int} {k v : List UInt8} (hk : okK sp k) (hv : v.length ≤ 1800) : draft_Draft_Put.impl loc0 tre0 pag0 [] dsk0 [] [] [] [] l sp k v = some (0, l ++ [((sp, k, v), false)]) := by
  unfold draft_Draft_Put.impl
  rw [right_is hk hv]
  obtain ⟨h1, h2⟩ := hk
  simp only [Option.bind_some, decide_true, Bool.not_true, Bool.false_eq_true, if_false]
  rw [Clone_is _ (by omega), Clone_is _ (by omega)]
  simp only [Option.bind_some]
  rw [chk_true (by simp only [List.length_singleton]; omega)]
end Go.Proofs.YtdojooblfemmnaaDoor
