/- Layer 14: SchemaTells in plain terms. -/
import Derived.Test.YtdfbknkgmhddcaaDoorSchL
import Derived.Test.YtdfbknkgmhddcaaDoorSchemaT
set_option linter.unusedVariables false
set_option linter.unusedSimpArgs false
namespace Go.Proofs.YtdfbknkgmhddcaaDoor
open Go Go.RowKit Go.Lib
theorem wreck {l : List Vl} (hl : l.length ≤ 1048576) : loop law14_SchemaTells.st1 (l, 0) = some () := by
  have := loop_inv (step := law14_SchemaTells.st1) (I := fun s => s.1.length = l.length ∧ ∃ i : Nat, s.2 = (i : Int) ∧ i ≤ l.length) (Q := fun _ => True) (fun s => l.length - s.2.toNat) (fun s hs => by
    obtain ⟨m, j⟩ := s
    obtain ⟨h1, i, rfl, hi⟩ := hs
    dsimp only at h1
    have w : IntKind.i64.wrap ((i : Int) + 1) = ((i + 1 : Nat) : Int) := by rw [i64_id (by omega)]; omega
    unfold law14_SchemaTells.st1
    simp only [w, Int.toNat_natCast]
    by_cases g : i < l.length
    · rw [ite_dt (by omega), chk_pos (by omega)]
      exact .inr ⟨_, rfl, ⟨by simpa using h1, i + 1, rfl, by omega⟩, by dsimp only; omega⟩
    · rw [ite_df (by omega)]
      exact .inl ⟨_, rfl, trivial⟩) (l, 0) ⟨rfl, 0, rfl, Nat.zero_le _⟩
  obtain ⟨r, h, _⟩ := this
  rw [h]
theorem tells_true {s : Sch} {row : List Vl} {name : List UInt8} (hs : InS s) (hl : row.length ≤ 1048576) (hv : ∀ v ∈ row, InV v) (hn : name.length ≤ 1048576) : law14_SchemaTells.impl s row name = some true := by
  have nm := cop_names hs
  have l5 := few5_len row
  have cl := cop_len s
  have hC : law14_copied.impl (s.1, s.2.1, s.2.2) = some (cop s) := copied_is hs
  have hF := few_is hl
  have hk2 : law14_SchemaTells.k2 true s (cop s) row (few5 row) () = some true := by
    unfold law14_SchemaTells.k2
    simp only [if_true, hC, Option.bind_some]
    have := RefSSame_is (a := cop s) (b := cop s) (by omega) (by omega)
    have this' : ref14_Same.impl ((cop s).1, (cop s).2.1, (cop s).2.2) (cop s) = some (decide (cop s = cop s)) := this
    rw [this']
    simp only [decide_true, Option.bind_some, if_true, hF]
    rw [RefSame_is (by omega)]
    simp
  have hk1 : law14_SchemaTells.k1 ((few5 row).map foldV) s (cop s) row (few5 row) true = some true := by
    unfold law14_SchemaTells.k1
    rw [wreck (by simp; omega)]
    exact hk2
  unfold law14_SchemaTells.impl
  simp only [hC, hF, Option.bind_some]
  have e1 : schema_Right.impl ((cop s).1, (cop s).2.1, (cop s).2.2) = _ := SRight_is nm
  have e2 : schema_Fold.impl ((cop s).1, (cop s).2.1, (cop s).2.2) (few5 row) = _ := SFold_is (s := cop s) (by omega) (few_tx hv)
  have e3 : ref14_Right.impl ((cop s).1, (cop s).2.1, (cop s).2.2) = _ := RefSRight_is (s := cop s)
  have e4 : schema_Fits.impl ((cop s).1, (cop s).2.1, (cop s).2.2) (few5 row) = _ := Fits_is nm (few_tx hv)
  have e5 : ref14_Fits.impl ((cop s).1, (cop s).2.1, (cop s).2.2) (few5 row) = _ := RefFits_is (s := cop s) (few_tx hv)
  rw [e1, e2]
  simp only [Option.bind_some, told_is, if_true, e3]
  rw [e4, e5, RefSFold_is (by omega) (few_tx hv), Name_is (l := name) (by omega), RefName_is]
  simp only [Option.bind_some, decide_true, if_true]
  rw [RefSame_is (by simp; omega)]
  simp only [Option.bind_some, decide_true, if_true]
  rw [hk1]
  by_cases hr : rightS (cop s) = true
  · rw [if_pos hr, hr]; rfl
  · have hr' : rightS (cop s) = false := by simpa using hr
    rw [if_neg hr, hr']; rfl
end Go.Proofs.YtdfbknkgmhddcaaDoor
