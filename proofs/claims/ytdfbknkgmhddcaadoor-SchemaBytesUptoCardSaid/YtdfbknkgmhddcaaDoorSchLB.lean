/- Layer 14: SchemaBytes in plain terms. -/
import Derived.Test.YtdfbknkgmhddcaaDoorSchL
import Derived.Test.YtdfbknkgmhddcaaDoorSchemaB
set_option linter.unusedVariables false
set_option linter.unusedSimpArgs false
namespace Go.Proofs.YtdfbknkgmhddcaaDoor
open Go Go.RowKit Go.Lib
theorem bytes_true {s : Sch} {row : List Vl} {b : List UInt8} (hs : InS s) (hl : row.length ≤ 1048576) (hv : ∀ v ∈ row, InV v) (hb : b.length ≤ 1048576) : law14_SchemaBytes.impl s row b = some true := by
  have nm := cop_names hs
  have l5 := few5_len row
  have cl := cop_len s
  have hC : law14_copied.impl (s.1, s.2.1, s.2.2) = some (cop s) := copied_is hs
  have hF := few_is hl
  have e1 : schema_Encode.impl ((cop s).1, (cop s).2.1, (cop s).2.2) = _ := Encode_is nm
  have e2 := EncodeRow_is (few_fits hv)
  have e3 : ref14_Right.impl ((cop s).1, (cop s).2.1, (cop s).2.2) = _ := RefSRight_is (s := cop s)
  have e4 := RowRight_is (few_tx hv)
  -- bytes that are read are written just so
  have hk3 : law14_SchemaBytes.k3 b () = some true := by
    unfold law14_SchemaBytes.k3
    rw [Decode_is (by omega), DecodeRow_is hb]
    simp only [Option.bind_some]
    have row4 : ∀ r5 : Sch × Int, r5.2 = 0 ∨ r5.2 = 11 → law14_SchemaBytes.k4 (match decR b with | some l => (l, (0 : Int)) | none => ([], 11)) r5 b () = some true := by
      intro r5 h5
      unfold law14_SchemaBytes.k4 law14_SchemaBytes.k6 law14_SchemaBytes.k5
      cases d : decR b with
      | none =>
        simp only
        rcases h5 with h5 | h5 <;> rw [h5] <;> rfl
      | some l =>
        obtain ⟨g1, g2, g3⟩ := decR_inv d
        simp only [decide_true, if_true]
        rw [EncodeRow_is (readL_fits hb g1)]
        simp only [Option.bind_some, g2, if_true, decide_true, g3, Bool.not_true, Bool.false_eq_true, if_false]
        rcases h5 with h5 | h5 <;> rw [h5] <;> rfl
    cases d : decS b with
    | none => exact row4 (([], [], []), 11) (.inr rfl)
    | some t =>
      obtain ⟨g1, g2⟩ := decS_inv d
      have nt : NamesS t := ⟨by have := name_len (name_of g1); omega, fun c hc => by have := colP_name (col_of g1 c hc); omega⟩
      have ht : schema_Encode.impl (t.1, t.2.1, t.2.2) = _ := Encode_is nt
      simp only [decide_true, if_true]
      rw [ht, if_pos g1]
      simp only [Option.bind_some, decide_true, if_true, g2, Bool.not_true]
      unfold law14_SchemaBytes.k7
      simp only [Bool.false_eq_true, if_false]
      exact row4 (t, 0) (.inl rfl)
  have hk2 : law14_SchemaBytes.k2 (if rowE (few5 row) = 0 then (few5 row).flatMap kb else [], rowE (few5 row)) b (few5 row) () = some true := by
    unfold law14_SchemaBytes.k2
    by_cases h0 : rowE (few5 row) = 0
    · have hlen := row_len h0
      rw [ite_dt h0, if_pos h0, DecodeRow_is (by dsimp only; omega), decR_enc (few_64 hv) h0]
      simp only [Option.bind_some, decide_true, if_true]
      rw [ite_df (by omega), RefSame_is (by omega)]
      simp only [Option.bind_some, decide_true, Bool.not_true]
      unfold law14_SchemaBytes.k8
      simp only [Bool.false_eq_true, if_false]
      exact hk3
    · rw [ite_df h0]; exact hk3
  have hk1 : law14_SchemaBytes.k1 (if rightS (cop s) = true then (encS (cop s), 0) else ([], 61)) (if rowE (few5 row) = 0 then (few5 row).flatMap kb else [], rowE (few5 row)) b (few5 row) (cop s) false = some true := by
    unfold law14_SchemaBytes.k1
    simp only [Bool.false_eq_true, if_false]
    by_cases hr : rightS (cop s) = true
    · have hlen := encS_len hr
      rw [if_pos hr]
      simp only [decide_true, if_true]
      rw [Decode_is (by omega), decS_enc hr]
      simp only [Option.bind_some, decide_true, if_true]
      have hS : ref14_Same.impl ((cop s).1, (cop s).2.1, (cop s).2.2) ((cop s).1, (cop s).2.1, (cop s).2.2) = _ := RefSSame_is (a := cop s) (b := cop s) (by omega) (by omega)
      rw [ite_df (by omega), hS]
      simp only [Option.bind_some, decide_true, Bool.not_true]
      unfold law14_SchemaBytes.k9
      simp only [Bool.false_eq_true, if_false]
      exact hk2
    · rw [if_neg hr]
      exact hk2
  unfold law14_SchemaBytes.impl
  simp only [hC, hF, Option.bind_some]
  rw [e1, e2]
  simp only [Option.bind_some, told_is, if_true, e3, e4, decide_true, Bool.not_true]
  by_cases hr : rightS (cop s) = true
  · rw [if_pos hr] at hk1 ⊢
    rw [hr]
    exact hk1
  · have hr' : rightS (cop s) = false := by simpa using hr
    rw [if_neg hr] at hk1 ⊢
    rw [hr']
    exact hk1
end Go.Proofs.YtdfbknkgmhddcaaDoor
