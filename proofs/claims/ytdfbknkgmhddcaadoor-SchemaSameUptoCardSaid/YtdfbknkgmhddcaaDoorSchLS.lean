/- Layer 14: SchemaSame in plain terms. -/
import Derived.Test.YtdfbknkgmhddcaaDoorSchL
import Derived.Test.YtdfbknkgmhddcaaDoorSchemaS
set_option linter.unusedVariables false
set_option linter.unusedSimpArgs false
namespace Go.Proofs.YtdfbknkgmhddcaaDoor
open Go Go.RowKit Go.Lib
theorem schs_same {a b : Sch} (ha : rightS a = true) (hb : rightS b = true) : encS a = encS b ↔ a = b := by
  constructor
  · intro e
    have h := decS_enc ha
    rw [e, decS_enc hb] at h
    exact (Option.some.inj h).symm
  · intro e; rw [e]
theorem same_true {s t : Sch} {a b : List Vl} (hs : InS s) (ht : InS t) (la : a.length ≤ 1048576) (va : ∀ v ∈ a, InV v) (lb : b.length ≤ 1048576) (vb : ∀ v ∈ b, InV v) : law14_SchemaSame.impl s t a b = some true := by
  have nms := cop_names hs
  have nmt := cop_names ht
  have l5a := few5_len a
  have l5b := few5_len b
  have cls := cop_len s
  have clt := cop_len t
  have hCs : law14_copied.impl (s.1, s.2.1, s.2.2) = some (cop s) := copied_is hs
  have hCt : law14_copied.impl (t.1, t.2.1, t.2.2) = some (cop t) := copied_is ht
  have hFa := few_is la
  have hFb := few_is lb
  have hk3 : law14_SchemaSame.k3 s a false = some true := by
    unfold law14_SchemaSame.k3
    simp only [Bool.false_eq_true, if_false, told_is, Option.bind_some, if_true, hCs]
    rw [SSame_is (by omega) (by omega)]
    simp only [decide_true, Option.bind_some, if_true, hFa]
    rw [SameRow_is (by omega)]
    simp
  have hk2 : law14_SchemaSame.k2 s a false = some true := by
    unfold law14_SchemaSame.k2
    simp only [Bool.false_eq_true, if_false, hCs, Option.bind_some, hFa]
    rw [Fits_is nms (few_tx va), SFold_is (by omega) (few_tx va)]
    simp only [Option.bind_some]
    by_cases g : fitsR (cop s) (few5 a) = 0
    · rw [ite_dt g]
      have hm : ∀ v ∈ (few5 a).map foldV, Tx v := fun v hv => by
        obtain ⟨u, hu, rfl⟩ := List.mem_map.1 hv
        have h1 := (va u (few5_mem hu)).2
        have h2 := foldT_len u.2.2
        unfold foldV Tx
        by_cases k : u.1 = 2
        · rw [if_pos k]; simp only; omega
        · rw [if_neg k]; omega
      rw [Fits_is nms hm, fitsR_fold g]
      exact hk3
    · rw [ite_df g]; exact hk3
  have hk1 : law14_SchemaSame.k1 (if rowE (few5 a) = 0 then (few5 a).flatMap kb else [], rowE (few5 a)) (if rowE (few5 b) = 0 then (few5 b).flatMap kb else [], rowE (few5 b)) a b s false = some true := by
    unfold law14_SchemaSame.k1
    simp only [Bool.false_eq_true, if_false]
    by_cases ga : rowE (few5 a) = 0
    · rw [ite_dt ga]
      by_cases gb : rowE (few5 b) = 0
      · rw [ite_dt gb, if_pos ga, if_pos gb, hFa, hFb]
        simp only [Option.bind_some]
        rw [SameRow_is (by omega)]
        simp only [Option.bind_some]
        have := rows_same (few_64 va) (few_64 vb) ga gb
        rw [show decide ((few5 a).flatMap kb = (few5 b).flatMap kb) = decide (few5 a = few5 b) by rw [Bool.eq_iff_iff]; simpa using this]
        simp only [decide_true, Bool.not_true]
        exact hk2
      · rw [ite_df gb]; exact hk2
    · rw [ite_df ga]; exact hk2
  unfold law14_SchemaSame.impl
  simp only [hCs, hCt, hFa, hFb, Option.bind_some]
  rw [Encode_is nms, Encode_is nmt]
  simp only [Option.bind_some]
  rw [EncodeRow_is (few_fits va), EncodeRow_is (few_fits vb)]
  simp only [Option.bind_some]
  by_cases hr : rightS (cop s) = true
  · rw [if_pos hr]
    simp only [decide_true, if_true]
    by_cases hq : rightS (cop t) = true
    · rw [if_pos hq]
      simp only [decide_true, if_true]
      rw [SSame_is (by omega) (by omega)]
      simp only [Option.bind_some]
      have := schs_same hr hq
      rw [show decide (encS (cop s) = encS (cop t)) = decide (cop s = cop t) by rw [Bool.eq_iff_iff]; simpa using this]
      simp only [decide_true, Bool.not_true]
      exact hk1
    · rw [if_neg hq]; exact hk1
  · rw [if_neg hr]; exact hk1
end Go.Proofs.YtdfbknkgmhddcaaDoor
