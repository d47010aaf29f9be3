/- Layer 4, PageKeeps: whatever power is lost, torn or not, the root of the last commit is found, or of the one under way, with its pages; any texts, any losses; the arguments read as they did. -/
import Derived.Test.YtccifnjlfhdpiaaKeM
import Derived.Test.YtccifnjlfhdpiaaOpen
import Derived.Test.YtccifnjlfhdpiaaRows
import Derived.WalkKit
import Derived.ProofKit
import Derived.OpenShut
import Derived.ShutString
import Derived.ChangeOld
import Derived.Below
import Derived.JoinedCond
import Derived.SizedLaws
set_option linter.unusedVariables false
namespace Go.Proofs.Ytccifnjlfhdpiaa.pageKeepsDone
open Go.ChangeShapes Go.WideShapes Go.ChangeAt Go.RowKit
theorem own : ownKnob Try.prog.godebug = none := by kernel_rfl
theorem laidOut : laidOutB Try.prog = true := by kernel_rfl
set_option maxRecDepth 100000 in
theorem lifted (os : Os) (started : os.Started) (H : Type) (enc : TypeId × Value → H) :
    ReturnsInHanded {} Try.checked os 6 .any (Rows.pageKeepsSpec.pre6 enc Try.prog Try.f6 Rows.pageKeepsRow.domain false) (Rows.pageKeepsSpec.post enc Try.prog Try.f6 false true false false) := by
  refine returnsInHanded_of_change_sized (C := Try.checked) own started (by kernel_rfl) Try.func6
    (ChangeSpec.witness6 (enc := enc) (C := Try.checked) false ⟨#[], #[.slice none 0 0, .slice none 0 0], []⟩ 8 (by kernel_rfl) (by kernel_rfl) (by kernel_rfl) (by kernel_rfl)) ?_
  intro W base args ds gs before hval0 hW hcnd hroom _
  have hval : ∀ (j : Nat) t v, Try.f6.params[j]? = some t → args[j]? = some v → Value.okWide Try.prog W .any base t v := hval0
  have hW' := hW
  obtain ⟨p, q, hA0, hV, rfl, hfz, hnd⟩ := hW
  have hA : DataW.TrodAll enc Try.prog W 0 (fun _ => true) true Try.f6.params.toList args.toList ds p := hA0
  have hps : Try.f6.params = #[22, 63] := by kernel_rfl
  rw [hps] at hA hval
  obtain ⟨v0, vs0, d0, ds0, p0, q0, hargs, rfl, rfl, h0, r0⟩ := trodAll_cons hA
  obtain ⟨v1, vs1, d1, ds1, p1, q1, rfl, rfl, rfl, h1, r1⟩ := trodAll_cons r0
  obtain ⟨rfl, rfl, rfl⟩ := trodAll_nil r1
  obtain rfl : args = #[v0, v1] := by cases args; simp_all
  obtain ⟨rfl, rfl⟩ := trodVars_none hV
  have lt0 : ∀ x ∈ p0, x.block < W.heap.size := by obtain ⟨m, hm⟩ := h0; exact DataW.trod_lt m _ _ _ hm
  have lt1 : ∀ x ∈ p1, x.block < W.heap.size := by obtain ⟨m, hm⟩ := h1; exact DataW.trod_lt m _ _ _ hm
  have hroom : (DataW.weightsEach Try.prog [22, 63] [d0, d1]).all (· ≤ reachBytes) = true := hroom
  obtain ⟨z0, hroom⟩ := room_cons hroom
  obtain ⟨z1, hroom⟩ := room_cons hroom
  have hS0 := St.start W
  obtain ⟨A0, cp0, x0, rfl, hc0, hr0, g0, k0⟩ := arg_slice (SL.eq) (hval 0 22 v0 rfl rfl) h0 (opn_slice (SL.eq) (by kernel_rfl) (by decide) (opn_slice (SL.eq) (by kernel_rfl) (by decide) (opn_u8 (INT.eq))))
  have hS1 := hS0.arg hr0 hc0
  have z0 := arg_room (SL.eq) h0 z0
  rw [show Try.prog.bytesOf 33 = 24 from by kernel_rfl] at z0
  obtain ⟨A1, cp1, x1, rfl, hc1, hr1, g1, k1⟩ := arg_slice (SL.eq) (hval 1 63 v1 rfl rfl) h1 (opn_slice (SL.eq) (by kernel_rfl) (by decide) (OpnF.struct (by kernel_rfl) (OpnF.cons (by kernel_rfl) (opn_int (fun _ => rfl) (INT.eq)) (OpnF.cons (by kernel_rfl) (opn_int (fun _ => rfl) (INT.eq)) (OpnF.cons (by kernel_rfl) (opn_int (fun _ => rfl) (INT.eq)) (OpnF.one (by kernel_rfl) (opn_int (fun _ => rfl) (INT.eq))))))))
  have hS2 := hS1.arg hr1 hc1
  have z1 := arg_room (SL.eq) h1 z1
  rw [show Try.prog.bytesOf 57 = 32 from by kernel_rfl] at z1
  clear hA0 hval0
  refine (law4_PageKeeps.c (i0 := 1) (i1 := 0) hS2 rfl rfl (keeps_is x0 x1)).mono fun e W' ⟨_, he, hS⟩ => ?_
  have bel := hS.below
  subst he
  exact ⟨_, rfl, _, _, _, [], _, [], hW', trodAll_mk1 (shut_bool (by kernel_rfl) _), (trodAll_cons_mk (Below.trod laidOut (by kernel_rfl) (of_decide_eq_true (by kernel_rfl)) h0 bel lt0) (trodAll_cons_mk (Below.trod laidOut (by kernel_rfl) (of_decide_eq_true (by kernel_rfl)) h1 bel lt1) trodAll_mk0)), rfl, bel.frame _, fun h => by cases h⟩
theorem over : Rows.pageKeepsRow.holds Try.pinned (OpenSpec.ofChange Rows.pageKeepsSpec) :=
  OpenClaim.holds_of_wide 6 Try.f6 rfl rfl rfl rfl rfl rfl rfl ⟨rfl, rfl, rfl, rfl, rfl⟩ rfl rfl rfl rfl rfl (by kernel_rfl) Try.func6 (by kernel_rfl)
    (of_decide_eq_true (by kernel_rfl)) (by unfold Func.isWrapper; first | (rw [if_pos (by decide +kernel)]; kernel_rfl) | (rw [if_neg (by decide +kernel)]; exact ⟨rfl, rfl⟩))
    (fun os started H enc _ => lifted os started H enc)
theorem proved : Rows.PageKeepsSaid := over
#print axioms proved
end Go.Proofs.Ytccifnjlfhdpiaa.pageKeepsDone
