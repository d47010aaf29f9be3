/- Layer 18, SessionApart: whatever is kept for the others, a session's last number and reply stay; any acts; the arguments read as they did. -/
import Derived.Test.YtdojooblfemmnaaDoorSessIn
import Derived.Test.YtdojooblfemmnaaDoorSessAL
import Derived.Test.YtdojooblfemmnaaDoorOpen
import Derived.Test.YtdojooblfemmnaaDoorLaid
import Derived.Test.YtdojooblfemmnaaDoorCards
import Derived.Test.YtdojooblfemmnaaDoorTie
import Derived.WalkKit
import Derived.ProofKit
import Derived.OpenShut
import Derived.ShutString
import Derived.ChangeOld
import Derived.Below
import Derived.JoinedCond
import Derived.SizedLaws
import Derived.Deep.DeepHandedRow
import Derived.Deep.DeepWitnessRowRef
import Derived.SevenTiedAt
set_option linter.unusedVariables false
namespace Go.Proofs.YtdojooblfemmnaaDoor.sessionApartDone
open Go.ChangeShapes Go.WideShapes Go.ChangeAt Go.RowKit
theorem witness_row (os : Os) {H : Type} (enc : TypeId × Value → H) :
    (OpenSpec.ofChange Rows.sessionApartSpec).preRow enc Tryd.prog Tryd.f4 Rows.sessionApartRow.domain false Rows.sessionApartRow.laid ((laidWorld os).forCall (fun _ _ => 0) ⟨#[], #[.slice none 0 0, .slice none 0 0, .int .i64 0], []⟩).memory #[.slice none 0 0, .slice none 0 0, .int .i64 0] := by
  have hw : (DataW.whole enc Tryd.prog ((laidWorld os).forCall (fun _ _ => 0) ⟨#[], #[.slice none 0 0, .slice none 0 0, .int .i64 0], []⟩).memory Tryd.f4.params.toList (OpenSpec.ofChange Rows.sessionApartSpec).vars false #[.slice none 0 0, .slice none 0 0, .int .i64 0].toList 8).map (fun x => (x.1, x.2.1)) =
      some ([.nil, .nil, .lit (.int .i64 0)], []) := by kernel_rfl
  obtain ⟨⟨x1, x2, x3⟩, hx, hx1⟩ := Option.map_eq_some_iff.1 hw
  simp only [Prod.mk.injEq] at hx1
  obtain ⟨rfl, rfl⟩ := hx1
  exact OpenSpec.preRow_of_cond 8 hx (by kernel_rfl) (fun k hk => by cases hk) (by kernel_rfl) (laid_met os _)
set_option maxRecDepth 100000 in
set_option maxHeartbeats 2000000 in
theorem lifted (os : Os) (started : os.Started) (H : Type) (enc : TypeId × Value → H) (F0 : Stop.Interp) :
    ReturnsInHanded {} Tryd.checked os 4 .any ((OpenSpec.ofChange Rows.sessionApartSpec).preRow enc Tryd.prog Tryd.f4 Rows.sessionApartRow.domain false Rows.sessionApartRow.laid) (((OpenSpec.ofChange Rows.sessionApartSpec).at F0).post enc Tryd.prog Tryd.f4 false true false false) := by
  refine returnsInHanded_of_row (C := Tryd.checked) (s := (OpenSpec.ofChange Rows.sessionApartSpec)) own started (by kernel_rfl) Tryd.func4
    (witness_row_atRef (enc := enc) (C := Tryd.checked) false (laidWorld os) #[.slice none 0 0, .slice none 0 0, .int .i64 0] rfl (by kernel_rfl) (by kernel_rfl) (by kernel_rfl) (witness_row os enc)) ?_
  intro W base args ds gs before hval0 hW _ hbulk hroom hL _ _
  have hval : ∀ (j : Nat) t v, Tryd.f4.params[j]? = some t → args[j]? = some v → Value.okWide Tryd.prog W .any base t v := hval0
  have hW' := hW
  obtain ⟨p, q, hA0, hV, rfl, hfz, hnd⟩ := hW
  have hA : DataW.TrodAll enc Tryd.prog W 0 (fun _ => true) true Tryd.f4.params.toList args.toList ds p := hA0
  have hps : Tryd.f4.params = #[22, 22, 3] := by kernel_rfl
  rw [hps] at hA hval
  obtain ⟨v0, vs0, d0, ds0, p0, q0, hargs, rfl, rfl, h0, r0⟩ := trodAll_cons hA
  obtain ⟨v1, vs1, d1, ds1, p1, q1, rfl, rfl, rfl, h1, r1⟩ := trodAll_cons r0
  obtain ⟨v2, vs2, d2, ds2, p2, q2, rfl, rfl, rfl, h2, r2⟩ := trodAll_cons r1
  obtain ⟨rfl, rfl, rfl⟩ := trodAll_nil r2
  obtain rfl : args = #[v0, v1, v2] := by cases args; simp_all
  obtain ⟨rfl, rfl⟩ := trodVars_none hV
  have hB : Base W := base_of hL
  have hroom : (DataW.weightsEach Tryd.prog [22, 22, 3] [d0, d1, d2]).all (· ≤ reachBytes) = true := hroom
  obtain ⟨z0, hroom⟩ := room_cons hroom
  obtain ⟨z1, hroom⟩ := room_cons hroom
  obtain ⟨z2, hroom⟩ := room_cons hroom
  have lt0 : ∀ x ∈ p0, x.block < W.heap.size := by obtain ⟨m, hm⟩ := h0; exact DataW.trod_lt m _ _ _ hm
  have lt1 : ∀ x ∈ p1, x.block < W.heap.size := by obtain ⟨m, hm⟩ := h1; exact DataW.trod_lt m _ _ _ hm
  have lt2 : ∀ x ∈ p2, x.block < W.heap.size := by obtain ⟨m, hm⟩ := h2; exact DataW.trod_lt m _ _ _ hm
  have hS0 := St.start W
  obtain ⟨A0, cp0, x0, rfl, hc0, hr0, g0, k0⟩ := arg_slice (SL.eq) (hval 0 22 v0 rfl rfl) h0 (opn_slice (SL.eq) (by kernel_rfl) (by decide) (OpnF.struct (by kernel_rfl) (OpnF.cons (by kernel_rfl) (opn_int (fun _ => rfl) (INT.eq)) (OpnF.cons (by kernel_rfl) (opn_int (fun _ => rfl) (INT.eq)) (OpnF.cons (by kernel_rfl) (opn_int (fun _ => rfl) (INT.eq)) (OpnF.one (by kernel_rfl) (OpnF.struct (by kernel_rfl) (OpnF.cons (by kernel_rfl) (opn_int (fun _ => rfl) (INT.eq)) (OpnF.cons (by kernel_rfl) (opn_int (fun _ => rfl) (INT.eq)) (OpnF.one (by kernel_rfl) (opn_slice (SL.eq) (by kernel_rfl) (by decide) (opn_slice (SL.eq) (by kernel_rfl) (by decide) (OpnF.struct (by kernel_rfl) (OpnF.cons (by kernel_rfl) (opn_int (fun _ => rfl) (INT.eq)) (OpnF.cons (by kernel_rfl) (opn_int (fun _ => rfl) (INT.eq)) (OpnF.one (by kernel_rfl) (opn_string (STR.eq))))))))))))))))))
  have hS1 := hS0.arg hr0 hc0
  have z0 := arg_room (SL.eq) h0 z0
  rw [show Tryd.prog.bytesOf 34 = 64 from by kernel_rfl] at z0
  obtain ⟨A1, cp1, x1, rfl, hc1, hr1, g1, k1⟩ := arg_slice (SL.eq) (hval 1 22 v1 rfl rfl) h1 (opn_slice (SL.eq) (by kernel_rfl) (by decide) (OpnF.struct (by kernel_rfl) (OpnF.cons (by kernel_rfl) (opn_int (fun _ => rfl) (INT.eq)) (OpnF.cons (by kernel_rfl) (opn_int (fun _ => rfl) (INT.eq)) (OpnF.cons (by kernel_rfl) (opn_int (fun _ => rfl) (INT.eq)) (OpnF.one (by kernel_rfl) (OpnF.struct (by kernel_rfl) (OpnF.cons (by kernel_rfl) (opn_int (fun _ => rfl) (INT.eq)) (OpnF.cons (by kernel_rfl) (opn_int (fun _ => rfl) (INT.eq)) (OpnF.one (by kernel_rfl) (opn_slice (SL.eq) (by kernel_rfl) (by decide) (opn_slice (SL.eq) (by kernel_rfl) (by decide) (OpnF.struct (by kernel_rfl) (OpnF.cons (by kernel_rfl) (opn_int (fun _ => rfl) (INT.eq)) (OpnF.cons (by kernel_rfl) (opn_int (fun _ => rfl) (INT.eq)) (OpnF.one (by kernel_rfl) (opn_string (STR.eq))))))))))))))))))
  have hS2 := hS1.arg hr1 hc1
  have z1 := arg_room (SL.eq) h1 z1
  rw [show Tryd.prog.bytesOf 34 = 64 from by kernel_rfl] at z1
  obtain ⟨x2, rfl, g2⟩ := arg_int (INT.eq) (hval 2 3 v2 rfl rfl) h2
  clear hA0 hval0
  refine (law18_SessionApart.c hB (i0 := 1) (i1 := 0) hS2 rfl rfl (apart_is x0 x1 x2 (in_big g0.2) (in_big g1.2))).mono fun e W' ⟨_, he, hS⟩ => ?_
  have bel := hS.below
  subst he
  exact ⟨_, rfl, _, _, _, [], _, [], hW', trodAll_mk1 (shut_bool (by kernel_rfl) _), (trodAll_cons_mk (Below.trod laidOut (by kernel_rfl) (of_decide_eq_true (by kernel_rfl)) h0 bel lt0) (trodAll_cons_mk (Below.trod laidOut (by kernel_rfl) (of_decide_eq_true (by kernel_rfl)) h1 bel lt1) (trodAll_cons_mk (Below.trod laidOut (by kernel_rfl) (of_decide_eq_true (by kernel_rfl)) h2 bel lt2) trodAll_mk0))), rfl, bel.frame _, fun h => by cases h⟩
theorem over : Rows.sessionApartRow.holds Tryd.pinned (OpenSpec.ofChange Rows.sessionApartSpec) :=
  OpenClaim.holds_of_cond 4 Tryd.f4 rfl rfl rfl rfl rfl rfl rfl ⟨rfl, rfl, rfl, rfl, rfl⟩ rfl rfl rfl rfl rfl (by kernel_rfl) Tryd.func4 (by kernel_rfl)
    (of_decide_eq_true (by kernel_rfl)) (by unfold Func.isWrapper; first | (rw [if_pos (by decide +kernel)]; kernel_rfl) | (rw [if_neg (by decide +kernel)]; exact ⟨rfl, rfl⟩))
    (fun os started H enc _ F0 => by rw [OpenClaim.pre_eq_preRow]; exact lifted os started H enc F0)
theorem proved : Rows.SessionApartCardSaid :=
  Claim7.holds_tied_plain_at .later [] [.data, .pinned] true (true, "d8222f6ea76e41e05556eb481d49a5130e93c318ff482cee1bc2d6059ee1a1ea") true
    over (fun _ h => by cases h) (by kernel_rfl) (fun _ h => by cases h) sessionApart_row_tie rfl ⟨rfl, rfl⟩ (by kernel_rfl) rfl
    (fun f fn hf hfn => by
      obtain rfl : f = 4 := Option.some.inj ((show Tryd.prog.funcNamed "headland/headlandlaw18.SessionApart" = some 4 by kernel_rfl).symm.trans hf) |>.symm
      obtain rfl : fn = Tryd.f4 := (Option.some.inj (Tryd.func4.symm.trans hfn)).symm
      refine ⟨by kernel_rfl, fun j t ht => ?_⟩
      rw [show Tryd.f4.params = #[22, 22, 3] from by kernel_rfl] at ht
      rcases j with _ | _ | _ | j
      · obtain rfl := Option.some.inj ht; kernel_rfl
      · obtain rfl := Option.some.inj ht; kernel_rfl
      · obtain rfl := Option.some.inj ht; kernel_rfl
      · exact absurd ht (by simp))
    (by kernel_rfl)
#print axioms proved
end Go.Proofs.YtdojooblfemmnaaDoor.sessionApartDone
