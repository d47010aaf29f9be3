/- LeasePlays in plain terms. -/
import Derived.Test.YtodijocajcohjaaLeaseP
import Derived.Test.YtodijocajcohjaaLeaseT
set_option linter.unusedVariables false
set_option linter.unusedSimpArgs false
namespace Go.Proofs.Ytodijocajcohjaa
open Go Go.RowKit
abbrev R0 : Unit × (Int × Int × Int × Int × Int × Int × Int × Int × Int × Int × Int × Int × Int × Int × Int × Int × Int) × (Int × Int × Int × Int) × (Int × Int × Int × Int) × (List (Int × Int)) × (Int × Bool × Int × Int × Int × Int × Int) × (List (Int × (List UInt8))) × (List (Int × (List UInt8))) × (List (Int × Int)) × (List (Int × Int)) × (List Chg) := ((), loc0, tre0, pag0, [], dsk0, [], [], [], [], [])
theorem rMay_is (L : Lea) (s : Int) : ref19_May.impl L s = some (mayL L s) := by
  unfold ref19_May.impl mayL
  by_cases h : L.1 = -1
  · rw [ite_dt h]; simp [h]
  · rw [ite_df h]; simp [h]
theorem rGrant_is {l : List Chg} {L : Lea} {n : Nat} (hI : LInv l L n) (s d g : Int) : ref19_Grant.impl L s d g = some (if mayL L s = true then (s, d, g) else L, mayL L s) := by
  unfold ref19_Grant.impl ref19_Grant.k1 mayL
  rcases hI.2.2 with ⟨_, rfl⟩ | ⟨h, d', g', rfl, hh, _⟩
  · simp
  · rw [ite_dt (by simp)]
    by_cases e : (h : Int) = s
    · subst e; simp
    · have : ¬ (h : Int) = -1 := by omega
      simp [e, this]
theorem rEnd_is (L : Lea) (g : Int) : ref19_End.impl L g = some (if endsL L g = true then (-1, 0, 0) else L, endsL L g) := by
  unfold ref19_End.impl ref19_End.k1 ref19_None.impl endsL
  by_cases h : L.1 < 0
  · rw [ite_dt h]; simp [h]
  · rw [ite_df h]
    by_cases e : L.2.2 = g <;> simp [h, e]
theorem pl_k4 {l : List Chg} {L : Lea} {n i : Nat} (hI : LInv l L n) (hn : n ≤ 1000) (hi : i ≤ 60) (p : List Chg × Int × Int × Int × Int) (hp : p.2.2.2.2 = (i : Int)) :
    law19_LeasePlays.k4 R0 p (l, L.1, L.2.1, L.2.2) = some (.inl (l, L.1, L.2.1, L.2.2, ((i + 1 : Nat) : Int))) := by
  have e0 := Now_is hI hn
  unfold law19_LeasePlays.k4
  simp only [R0, loc0, tre0, pag0, dsk0] at e0 ⊢
  rw [e0]
  simp only [Option.bind_some, decide_true, if_true, Bool.not_true]
  unfold law19_LeasePlays.k5
  simp only [Bool.false_eq_true, if_false]
  have hlp : loop (law19_LeasePlays.st2 (L, 0) (l, L.1, L.2.1, L.2.2)) (((0 : Nat) : Int) - 2) = some (.inr (l, L.1, L.2.1, L.2.2)) := by
    refine loop_up (fun k : Nat => (k : Int) - 2) 7 (fun k hk => ?_) (by unfold law19_LeasePlays.st2; rw [ite_df (by decide)])
    unfold law19_LeasePlays.st2
    rw [ite_dt (by omega)]
    have e1 := May_is L ((k : Int) - 2)
    have e2 := rMay_is L ((k : Int) - 2)
    rw [e1]
    simp only [Option.bind_some, e2, decide_true, Bool.not_true, Bool.false_eq_true, if_false]
    rw [i64_id (by omega)]
    congr 2; omega
  rw [show ((-2 : Int)) = ((0 : Nat) : Int) - 2 from rfl, hlp]
  simp only [Option.bind_some]
  unfold law19_LeasePlays.k3
  simp only [hp]
  rw [i64_id (by omega)]; rfl
theorem plays_is (l0 : List (Int × Int × Int × Int)) (hb : ∀ a ∈ l0, a.2.2.2 ≤ 9223372036854775807) : law19_LeasePlays.impl l0 = some true := by
  unfold law19_LeasePlays.impl
  rw [New_0]
  simp only [Option.bind_some, ref19_None.impl]
  let I : (List Chg × Int × Int × Int × Int) → Prop := fun s => ∃ l L, ∃ i : Nat, s = (l, L.1, L.2.1, L.2.2, (i : Int)) ∧ i ≤ 60 ∧ LInv l L i
  have key := loop_inv (step := law19_LeasePlays.st1 l0 R0) (I := I) (Q := fun r => r = .inr ()) (fun s => 60 - s.2.2.2.2.toNat) (by
    rintro s ⟨l, L, i, rfl, hi, hI⟩
    have stop : law19_LeasePlays.k2 (l, L.1, L.2.1, L.2.2, (i : Int)) l0 R0 false = some (.inr (.inr ())) := by unfold law19_LeasePlays.k2; simp
    unfold law19_LeasePlays.st1
    simp only []
    by_cases g : (i : Int) < l0.length
    · rw [ite_dt g]
      by_cases g2 : (i : Int) < 60
      · right
        have hm : l0.getD i default ∈ l0 := by
          have : l0.getD i default = l0[i]'(by omega) := by simp [List.getD, show i < l0.length by omega]
          rw [this]; exact List.getElem_mem _
        have hg := hb _ hm
        suffices h : ∃ l' L', law19_LeasePlays.k2 (l, L.1, L.2.1, L.2.2, (i : Int)) l0 R0 true = some (.inl (l', L'.1, L'.2.1, L'.2.2, ((i + 1 : Nat) : Int))) ∧ LInv l' L' (i + 1) by
          obtain ⟨l', L', h1, h2⟩ := h
          exact ⟨_, by rw [decide_eq_true g2]; exact h1, ⟨l', L', i + 1, rfl, by omega, h2⟩, by simp; omega⟩
        unfold law19_LeasePlays.k2
        simp only [if_true, Int.toNat_natCast]
        rw [chk_true (by omega)]
        obtain ⟨a, hA⟩ : ∃ a, l0.getD i default = a := ⟨_, rfl⟩
        rw [hA] at hg
        simp only [hA]
        by_cases k0 : a.1 = 0
        · rw [ite_dt k0]
          by_cases hbad : a.2.1 < 0 ∨ a.2.1 > 3 ∨ a.2.2.1 < 1 ∨ a.2.2.1 > 1048576 ∨ a.2.2.2 < 0
          · have e1 := Grant_bad (l := l) hbad
            refine ⟨l, L, ?_, hI.up (by omega)⟩
            simp only [R0, loc0, tre0, pag0, dsk0] at e1 ⊢
            rw [e1]
            simp only [Option.bind_some]
            have key : law19_LeasePlays.k6 (false, 1, l) R0 (l, L.1, L.2.1, L.2.2, (i : Int)) l0 true = some (.inl (l, L.1, L.2.1, L.2.2, ((i + 1 : Nat) : Int))) := by
              unfold law19_LeasePlays.k6 law19_LeasePlays.k7
              simp only [if_true, decide_true, Bool.false_eq_true, if_false]
              exact pl_k4 hI (by omega) hi _ rfl
            simp only [R0, loc0, tre0, pag0, dsk0] at key
            by_cases h1 : a.2.1 < 0
            · rw [ite_dt h1]; exact key
            rw [ite_df h1]
            by_cases h2 : (3 : Int) < a.2.1
            · rw [ite_dt h2]; exact key
            rw [ite_df h2]
            by_cases h3 : a.2.2.1 < 1
            · rw [ite_dt h3]; exact key
            rw [ite_df h3]
            by_cases h4 : (1048576 : Int) < a.2.2.1
            · rw [ite_dt h4]; exact key
            rw [ite_df h4, decide_eq_true (show a.2.2.2 < 0 by omega)]; exact key
          · obtain ⟨s, hs⟩ := Int.eq_ofNat_of_zero_le (show 0 ≤ a.2.1 by omega)
            obtain ⟨d, hd⟩ := Int.eq_ofNat_of_zero_le (show 0 ≤ a.2.2.1 by omega)
            obtain ⟨q, hq⟩ := Int.eq_ofNat_of_zero_le (show 0 ≤ a.2.2.2 by omega)
            obtain ⟨l', e1, hI'⟩ := Grant_is hI (by omega) (s := s) (d := d) (g := q) (by omega) (by omega) (by omega)
            have e2 := rGrant_is hI (s : Int) (d : Int) (q : Int)
            refine ⟨l', _, ?_, hI'⟩
            rw [hs, hd, hq]
            simp only [R0, loc0, tre0, pag0, dsk0] at e1 ⊢
            rw [e1]
            simp only [Option.bind_some]
            rw [ite_df (by omega), ite_df (by omega), ite_df (by omega), ite_df (by omega), decide_eq_false (show ¬ ((q : Int) < 0) by omega)]
            unfold law19_LeasePlays.k6
            simp only [Bool.false_eq_true, if_false, Int.toNat_natCast, hA, hs, hd, hq]
            have e2' : ref19_Grant.impl (L.1, L.2.1, L.2.2) (s : Int) (d : Int) (q : Int) = _ := e2
            rw [e2']
            simp only [Option.bind_some, decide_true, if_true, Bool.not_true]
            unfold law19_LeasePlays.k8
            simp only [Bool.false_eq_true, if_false]
            exact pl_k4 hI' (by omega) hi _ rfl
        · rw [ite_df k0]
          by_cases k1 : a.1 = 1
          · rw [ite_dt k1]
            obtain ⟨l', e1, hI'⟩ := End_is hI (by omega) a.2.2.2
            have e2 := rEnd_is L a.2.2.2
            refine ⟨l', _, ?_, hI'⟩
            simp only [R0, loc0, tre0, pag0, dsk0] at e1 ⊢
            rw [e1]
            simp only [Option.bind_some]
            have e2' : ref19_End.impl (L.1, L.2.1, L.2.2) a.2.2.2 = _ := e2
            rw [e2']
            simp only [Option.bind_some, decide_true, if_true, Bool.not_true]
            unfold law19_LeasePlays.k9
            simp only [Bool.false_eq_true, if_false]
            exact pl_k4 hI' (by omega) hi _ rfl
          · rw [ite_df k1]
            exact ⟨l, L, pl_k4 hI (by omega) hi _ rfl, hI.up (by omega)⟩
      · left; rw [show decide ((i : Int) < 60) = false by simpa using g2]; exact ⟨_, stop, rfl⟩
    · left; rw [ite_df g]; exact ⟨_, stop, rfl⟩)
  obtain ⟨r, h1, rfl⟩ := key ([], -1, 0, 0, 0) ⟨[], (-1, 0, 0), 0, rfl, by omega, LInv.nil⟩
  rw [h1]
  simp [law19_LeasePlays.k1, told_is]
end Go.Proofs.Ytodijocajcohjaa
