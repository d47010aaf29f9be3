/- Layer 4, PageFlips: turned bits in a page are told, one to three anywhere, or some within 32 that follow one another; any bytes; the arguments read as they did. -/
import Derived.Test.YtccifnjlfhdpiaaFlL
import Derived.Test.YtccifnjlfhdpiaaOpen
import Derived.Test.YtccifnjlfhdpiaaRows
import Derived.WalkKit
import Derived.ProofKit
import Derived.OpenShut
import Derived.ShutString
import Derived.ChangeOld
import Derived.Below
import Derived.JoinedCond
import Derived.SizedLaws
set_option linter.unusedVariables false
namespace Go.Proofs.Ytccifnjlfhdpiaa.pageFlipsDone
open Go.ChangeShapes Go.WideShapes Go.ChangeAt Go.RowKit
theorem own : ownKnob Try.prog.godebug = none := by kernel_rfl
theorem laidOut : laidOutB Try.prog = true := by kernel_rfl
set_option maxRecDepth 100000 in
theorem lifted (os : Os) (started : os.Started) (H : Type) (enc : TypeId × Value → H) :
    ReturnsInHanded {} Try.checked os 4 .any (Rows.pageFlipsSpec.pre6 enc Try.prog Try.f4 Rows.pageFlipsRow.domain false) (Rows.pageFlipsSpec.post enc Try.prog Try.f4 false true false false) := by
  refine returnsInHanded_of_change_sized (C := Try.checked) own started (by kernel_rfl) Try.func4
    (ChangeSpec.witness6 (enc := enc) (C := Try.checked) false ⟨#[], #[.slice none 0 0, .int .i64 0, .int .i64 0, .int .i64 0, .int .u32 0], []⟩ 8 (by kernel_rfl) (by kernel_rfl) (by kernel_rfl) (by kernel_rfl)) ?_
  intro W base args ds gs before hval0 hW hcnd hroom _
  have hval : ∀ (j : Nat) t v, Try.f4.params[j]? = some t → args[j]? = some v → Value.okWide Try.prog W .any base t v := hval0
  have hW' := hW
  obtain ⟨p, q, hA0, hV, rfl, hfz, hnd⟩ := hW
  have hA : DataW.TrodAll enc Try.prog W 0 (fun _ => true) true Try.f4.params.toList args.toList ds p := hA0
  have hps : Try.f4.params = #[33, 3, 3, 3, 50] := by kernel_rfl
  rw [hps] at hA hval
  obtain ⟨v0, vs0, d0, ds0, p0, q0, hargs, rfl, rfl, h0, r0⟩ := trodAll_cons hA
  obtain ⟨v1, vs1, d1, ds1, p1, q1, rfl, rfl, rfl, h1, r1⟩ := trodAll_cons r0
  obtain ⟨v2, vs2, d2, ds2, p2, q2, rfl, rfl, rfl, h2, r2⟩ := trodAll_cons r1
  obtain ⟨v3, vs3, d3, ds3, p3, q3, rfl, rfl, rfl, h3, r3⟩ := trodAll_cons r2
  obtain ⟨v4, vs4, d4, ds4, p4, q4, rfl, rfl, rfl, h4, r4⟩ := trodAll_cons r3
  obtain ⟨rfl, rfl, rfl⟩ := trodAll_nil r4
  obtain rfl : args = #[v0, v1, v2, v3, v4] := by cases args; simp_all
  obtain ⟨rfl, rfl⟩ := trodVars_none hV
  have lt0 : ∀ x ∈ p0, x.block < W.heap.size := by obtain ⟨m, hm⟩ := h0; exact DataW.trod_lt m _ _ _ hm
  have lt1 : ∀ x ∈ p1, x.block < W.heap.size := by obtain ⟨m, hm⟩ := h1; exact DataW.trod_lt m _ _ _ hm
  have lt2 : ∀ x ∈ p2, x.block < W.heap.size := by obtain ⟨m, hm⟩ := h2; exact DataW.trod_lt m _ _ _ hm
  have lt3 : ∀ x ∈ p3, x.block < W.heap.size := by obtain ⟨m, hm⟩ := h3; exact DataW.trod_lt m _ _ _ hm
  have lt4 : ∀ x ∈ p4, x.block < W.heap.size := by obtain ⟨m, hm⟩ := h4; exact DataW.trod_lt m _ _ _ hm
  have hroom : (DataW.weightsEach Try.prog [33, 3, 3, 3, 50] [d0, d1, d2, d3, d4]).all (· ≤ reachBytes) = true := hroom
  obtain ⟨z0, hroom⟩ := room_cons hroom
  obtain ⟨z1, hroom⟩ := room_cons hroom
  obtain ⟨z2, hroom⟩ := room_cons hroom
  obtain ⟨z3, hroom⟩ := room_cons hroom
  obtain ⟨z4, hroom⟩ := room_cons hroom
  have hS0 := St.start W
  obtain ⟨A0, cp0, x0, rfl, hc0, hr0, g0, k0⟩ := arg_slice (SL.eq) (hval 0 33 v0 rfl rfl) h0 (opn_slice (SL.eq) (by kernel_rfl) (by decide) (opn_u8 (INT.eq)))
  have hS1 := hS0.arg hr0 hc0
  have z0 := arg_room (SL.eq) h0 z0
  rw [show Try.prog.bytesOf 5 = 1 from by kernel_rfl] at z0
  obtain ⟨x1, rfl, g1⟩ := arg_int (INT.eq) (hval 1 3 v1 rfl rfl) h1
  obtain ⟨x2, rfl, g2⟩ := arg_int (INT.eq) (hval 2 3 v2 rfl rfl) h2
  obtain ⟨x3, rfl, g3⟩ := arg_int (INT.eq) (hval 3 3 v3 rfl rfl) h3
  obtain ⟨x4, rfl, g4⟩ := arg_int (INT.eq) (hval 4 50 v4 rfl rfl) h4
  clear hA0 hval0
  refine (law4_PageFlips.c (i0 := 0) hS1 rfl (flips_is x1 x2 x3 x4 ⟨g4.1, Int.lt_of_le_of_lt g4.2 (by decide)⟩)).mono fun e W' ⟨_, he, hS⟩ => ?_
  have bel := hS.below
  subst he
  exact ⟨_, rfl, _, _, _, [], _, [], hW', trodAll_mk1 (shut_bool (by kernel_rfl) _), (trodAll_cons_mk (Below.trod laidOut (by kernel_rfl) (of_decide_eq_true (by kernel_rfl)) h0 bel lt0) (trodAll_cons_mk (Below.trod laidOut (by kernel_rfl) (of_decide_eq_true (by kernel_rfl)) h1 bel lt1) (trodAll_cons_mk (Below.trod laidOut (by kernel_rfl) (of_decide_eq_true (by kernel_rfl)) h2 bel lt2) (trodAll_cons_mk (Below.trod laidOut (by kernel_rfl) (of_decide_eq_true (by kernel_rfl)) h3 bel lt3) (trodAll_cons_mk (Below.trod laidOut (by kernel_rfl) (of_decide_eq_true (by kernel_rfl)) h4 bel lt4) trodAll_mk0))))), rfl, bel.frame _, fun h => by cases h⟩
theorem over : Rows.pageFlipsRow.holds Try.pinned (OpenSpec.ofChange Rows.pageFlipsSpec) :=
  OpenClaim.holds_of_wide 4 Try.f4 rfl rfl rfl rfl rfl rfl rfl ⟨rfl, rfl, rfl, rfl, rfl⟩ rfl rfl rfl rfl rfl (by kernel_rfl) Try.func4 (by kernel_rfl)
    (of_decide_eq_true (by kernel_rfl)) (by unfold Func.isWrapper; first | (rw [if_pos (by decide +kernel)]; kernel_rfl) | (rw [if_neg (by decide +kernel)]; exact ⟨rfl, rfl⟩))
    (fun os started H enc _ => lifted os started H enc)
theorem proved : Rows.PageFlipsSaid := over
#print axioms proved
end Go.Proofs.Ytccifnjlfhdpiaa.pageFlipsDone
