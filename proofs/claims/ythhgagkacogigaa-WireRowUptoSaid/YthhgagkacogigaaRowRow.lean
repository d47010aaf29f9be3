/- Layer 1, WireRow: what is written one behind the other is read one behind the other, cut anywhere; the arguments read as they did. -/
import Derived.Test.YthhgagkacogigaaLaws3
import Derived.Test.YthhgagkacogigaaOpen
import Derived.Test.YthhgagkacogigaaRows
import Derived.WalkKit
import Derived.ProofKit
import Derived.OpenShut
import Derived.ShutString
import Derived.ChangeOld
import Derived.Below
import Derived.JoinedCond
set_option linter.unusedVariables false
namespace Go.Proofs.Ythhgagkacogigaa.wireRowDone
open Go.ChangeShapes Go.WideShapes Go.ChangeAt Go.RowKit
theorem own : ownKnob Try.prog.godebug = none := by kernel_rfl
theorem laidOut : laidOutB Try.prog = true := by kernel_rfl
set_option maxRecDepth 100000 in
theorem lifted (os : Os) (started : os.Started) (H : Type) (enc : TypeId × Value → H) (F0 : Stop.Interp) :
    ReturnsInHanded {} Try.checked os 7 .any ((Rows.OpenSpec.upto Rows.wireRowSpec).pre6 enc Try.prog Try.f7 Rows.wireRowUptoRow.domain false) (((Rows.OpenSpec.upto Rows.wireRowSpec).at F0).post enc Try.prog Try.f7 false true false false) := by
  refine returnsInHanded_of_cond (C := Try.checked) (s := (Rows.OpenSpec.upto Rows.wireRowSpec)) (k := Rows.uptoSmall) rfl own started (by kernel_rfl) Try.func7
    (OpenSpec.witness (enc := enc) (C := Try.checked) (s := (Rows.OpenSpec.upto Rows.wireRowSpec)) (k := Rows.uptoSmall) rfl false ⟨#[], #[.slice none 0 0, .slice none 0 0, .int .i64 0], []⟩ 8 (by kernel_rfl) (by kernel_rfl) (by kernel_rfl) (x := ([.nil, .nil, .lit (.int .i64 0)], [], [])) (by kernel_rfl) (by kernel_rfl) (by kernel_rfl)) ?_
  intro W base args ds gs before hval0 hW hcnd hbulk _
  have hval : ∀ (j : Nat) t v, Try.f7.params[j]? = some t → args[j]? = some v → Value.okWide Try.prog W .any base t v := hval0
  have hW' := hW
  obtain ⟨p, q, hA0, hV, rfl, hfz, hnd⟩ := hW
  have hA : DataW.TrodAll enc Try.prog W 0 (fun _ => true) true Try.f7.params.toList args.toList ds p := hA0
  have hps : Try.f7.params = #[39, 40, 3] := by kernel_rfl
  rw [hps] at hA hval
  obtain ⟨v0, vs0, d0, ds0, p0, q0, hargs, rfl, rfl, h0, r0⟩ := trodAll_cons hA
  obtain ⟨v1, vs1, d1, ds1, p1, q1, rfl, rfl, rfl, h1, r1⟩ := trodAll_cons r0
  obtain ⟨v2, vs2, d2, ds2, p2, q2, rfl, rfl, rfl, h2, r2⟩ := trodAll_cons r1
  obtain ⟨rfl, rfl, rfl⟩ := trodAll_nil r2
  obtain rfl : args = #[v0, v1, v2] := by cases args; simp_all
  obtain ⟨rfl, rfl⟩ := trodVars_none hV
  have hbulk : Rows.uptoBulkAll [d0, d1, d2] ≤ 1048576 := bulk_args hbulk
  simp only [Rows.uptoBulkAll] at hbulk
  have lt0 : ∀ x ∈ p0, x.block < W.heap.size := by obtain ⟨m, hm⟩ := h0; exact DataW.trod_lt m _ _ _ hm
  have lt1 : ∀ x ∈ p1, x.block < W.heap.size := by obtain ⟨m, hm⟩ := h1; exact DataW.trod_lt m _ _ _ hm
  have lt2 : ∀ x ∈ p2, x.block < W.heap.size := by obtain ⟨m, hm⟩ := h2; exact DataW.trod_lt m _ _ _ hm
  have hS0 := St.start W
  obtain ⟨A0, cp0, x0, rfl, hc0, hr0, g0, k0⟩ := arg_slice (SL.eq) (hval 0 39 v0 rfl rfl) h0 (opn_slice (SL.eq) (by kernel_rfl) (by decide) (opn_int (fun _ => rfl) (INT.eq)))
  have hS1 := hS0.arg hr0 hc0
  obtain ⟨A1, cp1, x1, rfl, hc1, hr1, g1, k1⟩ := arg_slice (SL.eq) (hval 1 40 v1 rfl rfl) h1 (opn_slice (SL.eq) (by kernel_rfl) (by decide) (opn_slice (SL.eq) (by kernel_rfl) (by decide) (opn_u8 (INT.eq))))
  have hS2 := hS1.arg hr1 hc1
  obtain ⟨x2, rfl, g2⟩ := arg_int (INT.eq) (hval 2 3 v2 rfl rfl) h2
  clear hA0 hval0
  have k0 : x0.length ≤ _ := Nat.le_trans (wtl_len (fun _ => Nat.le_refl 1) x0) k0
  have k1 : x1.length ≤ _ := Nat.le_trans (wtl_len (fun _ => Nat.le_add_left 1 _) x1) k1
  refine (law1_WireRow.c (i0 := 1) (i1 := 0) hS2 rfl rfl (row_true x2 g0.1 (fun t ht => (g1.2 t ht).1))).mono fun e W' ⟨_, he, hS⟩ => ?_
  have bel := hS.below
  subst he
  exact ⟨_, rfl, _, _, _, [], _, [], hW', trodAll_mk1 (shut_bool (by kernel_rfl) _), (trodAll_cons_mk (Below.trod laidOut (by kernel_rfl) (of_decide_eq_true (by kernel_rfl)) h0 bel lt0) (trodAll_cons_mk (Below.trod laidOut (by kernel_rfl) (of_decide_eq_true (by kernel_rfl)) h1 bel lt1) (trodAll_cons_mk (Below.trod laidOut (by kernel_rfl) (of_decide_eq_true (by kernel_rfl)) h2 bel lt2) trodAll_mk0))), rfl, bel.frame _, fun h => by cases h⟩
theorem over : Rows.wireRowUptoRow.holds Try.pinned (Rows.OpenSpec.upto Rows.wireRowSpec) :=
  OpenClaim.holds_of_cond 7 Try.f7 rfl rfl rfl rfl rfl rfl rfl ⟨rfl, rfl, rfl, rfl, rfl⟩ rfl rfl rfl rfl rfl (by kernel_rfl) Try.func7 (by kernel_rfl)
    (of_decide_eq_true (by kernel_rfl)) (by unfold Func.isWrapper; first | (rw [if_pos (by decide +kernel)]; kernel_rfl) | (rw [if_neg (by decide +kernel)]; exact ⟨rfl, rfl⟩))
    (fun os started H enc _ F0 => by rw [OpenClaim.pre_of_none' (by rfl)]; exact lifted os started H enc F0)
theorem proved : Rows.WireRowUptoSaid := over
#print axioms proved
end Go.Proofs.Ythhgagkacogigaa.wireRowDone
