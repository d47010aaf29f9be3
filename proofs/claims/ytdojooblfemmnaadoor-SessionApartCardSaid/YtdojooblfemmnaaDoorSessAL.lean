/- SessionApart in plain terms. -/
import Derived.Test.YtdojooblfemmnaaDoorSessA
import Derived.Test.YtdojooblfemmnaaDoorSessL
set_option linter.unusedVariables false
set_option linter.unusedSimpArgs false
namespace Go.Proofs.YtdojooblfemmnaaDoor
open Go Go.RowKit Go.Lib
theorem apart_is (l0 l1 : List Act18) (a2 : Int) (h0 : ∀ a ∈ l0, FitsRep a.2.2.2) (h1 : ∀ a ∈ l1, FitsRep a.2.2.2) : law18_SessionApart.impl l0 l1 a2 = some true := by
  obtain ⟨s, hs, hm⟩ := mask7 a2
  unfold law18_SessionApart.impl
  rw [New_0]
  simp only [Option.bind_some]
  let I : (List Chg × Int) → Prop := fun p => ∃ l st, ∃ i : Nat, p = (l, (i : Int)) ∧ i ≤ 20 ∧ SInv l st i
  have key := loop_inv (step := law18_SessionApart.st2 l0 R0 a2) (I := I) (Q := fun r => ∃ st, SInv r st 20) (fun p => 20 - p.2.toNat) (by
    rintro p ⟨l, st, i, rfl, hi, hI⟩
    have stop : law18_SessionApart.k5 (l, (i : Int)) l0 R0 a2 false = some (.inr l) := by unfold law18_SessionApart.k5; simp
    unfold law18_SessionApart.st2
    simp only []
    by_cases g : (i : Int) < l0.length
    · rw [ite_dt g]
      by_cases g2 : (i : Int) < 20
      · right
        obtain ⟨e, l', st', e1, hI', _⟩ := Keep_any hI (by omega) (s : Int) (l0.getD i default).2.2.1 (h0 _ (mem_getD (l := l0) (i := i) (by omega)))
        refine ⟨(l', ((i + 1 : Nat) : Int)), ?_, ⟨l', st', i + 1, rfl, by omega, hI'⟩, by show 20 - ((i + 1 : Nat) : Int).toNat < 20 - (i : Int).toNat; omega⟩
        rw [decide_eq_true g2]
        unfold law18_SessionApart.k5
        simp only [if_true, hm, Int.toNat_natCast]
        rw [chk_pos (by omega), chk_pos (by omega)]
        simp only [R0, loc0, tre0, pag0, dsk0] at e1 ⊢
        rw [e1]
        simp only [Option.bind_some]
        rw [i64_id (by omega)]; rfl
      · left; rw [decide_eq_false g2]; exact ⟨_, stop, st, hI.up hi⟩
    · left; rw [ite_df g]; exact ⟨_, stop, st, hI.up hi⟩)
  obtain ⟨l, e1, st, hI⟩ := key ([], 0) ⟨[], fun _ => none, 0, rfl, by omega, SInv.nil⟩
  simp only [R0, loc0, tre0, pag0, dsk0] at e1 ⊢
  rw [e1]
  simp only [Option.bind_some]
  unfold law18_SessionApart.k1
  have hlt := last_lt hI hs
  have a1 := Last_v hI (by omega) hs
  have a3 := Look_v hI (by omega) hs (q := max (sd (st s)).1 1) (by omega)
  have hmax : max (((sd (st s)).1 : Nat) : Int) 1 = ((max (sd (st s)).1 1 : Nat) : Int) := by omega
  simp only [loc0, tre0, pag0, dsk0] at a1 a3 ⊢
  rw [hm, a1]
  simp only [Option.bind_some, decide_true, Bool.not_true, Bool.false_eq_true, if_false, hmax]
  rw [a3]
  simp only [Option.bind_some]
  let J : (List Chg × Int) → Prop := fun p => ∃ l st', ∃ i : Nat, p = (l, (i : Int)) ∧ i ≤ 20 ∧ SInv l st' (20 + i) ∧ st' s = st s
  have key2 := loop_inv (step := law18_SessionApart.st1 l1 a2 R0) (I := J) (Q := fun r => ∃ st', SInv r st' 40 ∧ st' s = st s) (fun p => 20 - p.2.toNat) (by
    rintro p ⟨l, st', i, rfl, hi, hI, hst⟩
    have stop : law18_SessionApart.k3 (l, (i : Int)) l1 a2 R0 false = some (.inr l) := by unfold law18_SessionApart.k3; simp
    unfold law18_SessionApart.st1
    simp only []
    by_cases g : (i : Int) < l1.length
    · rw [ite_dt g]
      by_cases g2 : (i : Int) < 20
      · right
        rw [decide_eq_true g2]
        unfold law18_SessionApart.k3
        simp only [if_true, hm, Int.toNat_natCast]
        rw [chk_pos (by omega)]
        have hw : IntKind.i64.wrap ((i : Int) + 1) = ((i + 1 : Nat) : Int) := by rw [i64_id (by omega)]; rfl
        have hmeas : 20 - (((i + 1 : Nat) : Int)).toNat < 20 - (i : Int).toNat := by omega
        by_cases c : (l1.getD i default).2.1 = (s : Int)
        · rw [ite_nt c]
          refine ⟨(l, ((i + 1 : Nat) : Int)), ?_, ⟨l, st', i + 1, rfl, by omega, hI.up (by omega), hst⟩, hmeas⟩
          unfold law18_SessionApart.k4
          rw [hw]
        · rw [ite_nf c]
          obtain ⟨e, l', st2, e1, hI', hk⟩ := Keep_any hI (by omega) (l1.getD i default).2.1 (l1.getD i default).2.2.1 (h1 _ (mem_getD (l := l1) (i := i) (by omega)))
          refine ⟨(l', ((i + 1 : Nat) : Int)), ?_, ⟨l', st2, i + 1, rfl, by omega, hI'.up (by omega), by rw [hk s (fun e => c e.symm), hst]⟩, hmeas⟩
          rw [chk_pos (by omega), chk_pos (by omega), chk_pos (by omega)]
          simp only [R0, loc0, tre0, pag0, dsk0] at e1 ⊢
          rw [e1]
          simp only [Option.bind_some]
          unfold law18_SessionApart.k4
          rw [hw]
      · left; rw [decide_eq_false g2]; exact ⟨_, stop, st', hI.up (by omega), hst⟩
    · left; rw [ite_df g]; exact ⟨_, stop, st', hI.up (by omega), hst⟩)
  obtain ⟨l', e2, st', hI2, hst⟩ := key2 (l, 0) ⟨l, st, 0, rfl, by omega, hI, rfl⟩
  simp only [R0, loc0, tre0, pag0, dsk0] at e2
  rw [e2]
  simp only [Option.bind_some]
  unfold law18_SessionApart.k2
  have b1 := Last_v hI2 (by omega) hs
  have b3 := Look_v hI2 (by omega) hs (q := max (sd (st s)).1 1) (by omega)
  rw [hst] at b1 b3
  have hsm := look_small hI hs (max (sd (st s)).1 1)
  simp only [loc0, tre0, pag0, dsk0] at b1 b3 ⊢
  rw [hm, b1]
  simp only [Option.bind_some, hmax]
  rw [b3]
  simp only [Option.bind_some]
  rw [told_is, Same_self hsm.1 hsm.2]
  simp only [Option.bind_some, decide_true, if_true]
  have : (stateL (st s) (max (sd (st s)).1 1) = 1) ↔ (0 : Int) < ((sd (st s)).1 : Int) := by
    unfold stateL
    by_cases z : (sd (st s)).1 = 0
    · rw [z]; simp
    · rw [if_neg (by omega), if_pos (by omega)]; simp; omega
  simp [this]
end Go.Proofs.YtdojooblfemmnaaDoor
