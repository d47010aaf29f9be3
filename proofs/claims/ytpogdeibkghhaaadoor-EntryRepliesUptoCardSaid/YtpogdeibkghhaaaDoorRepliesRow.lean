/- Layer 17, EntryReplies: replies are written and read as they were, in at most 1,790 bytes; any replies; the arguments read as they did. -/
import Derived.Test.YtpogdeibkghhaaaDoorRepIn
import Derived.Test.YtpogdeibkghhaaaDoorReplR
import Derived.Test.YtpogdeibkghhaaaDoorOpen
import Derived.Test.YtpogdeibkghhaaaDoorLaid
import Derived.Test.YtpogdeibkghhaaaDoorCards
import Derived.Test.YtpogdeibkghhaaaDoorTie
import Derived.WalkKit
import Derived.ProofKit
import Derived.OpenShut
import Derived.ShutString
import Derived.ChangeOld
import Derived.Below
import Derived.JoinedCond
import Derived.SizedLaws
import Derived.Deep.DeepHandedRow
import Derived.Deep.DeepWitnessRowRef
import Derived.SevenTiedAt
set_option linter.unusedVariables false
namespace Go.Proofs.YtpogdeibkghhaaaDoor.entryRepliesDone
open Go.ChangeShapes Go.WideShapes Go.ChangeAt Go.RowKit
theorem witness_row (os : Os) {H : Type} (enc : TypeId × Value → H) :
    (Rows.OpenSpec.upto Rows.entryRepliesSpec).preRow enc Tryd.prog Tryd.f3 Rows.entryRepliesUptoRow.domain false Rows.entryRepliesUptoRow.laid ((laidWorld os).forCall (fun _ _ => 0) ⟨#[], #[.agg #[.int .i64 0, .int .i64 0, .slice none 0 0]], []⟩).memory #[.agg #[.int .i64 0, .int .i64 0, .slice none 0 0]] := by
  have hw : (DataW.whole enc Tryd.prog ((laidWorld os).forCall (fun _ _ => 0) ⟨#[], #[.agg #[.int .i64 0, .int .i64 0, .slice none 0 0]], []⟩).memory Tryd.f3.params.toList (Rows.OpenSpec.upto Rows.entryRepliesSpec).vars false #[.agg #[.int .i64 0, .int .i64 0, .slice none 0 0]].toList 8).map (fun x => (x.1, x.2.1)) =
      some ([.agg [.lit (.int .i64 0), .lit (.int .i64 0), .nil]], []) := by kernel_rfl
  obtain ⟨⟨x1, x2, x3⟩, hx, hx1⟩ := Option.map_eq_some_iff.1 hw
  simp only [Prod.mk.injEq] at hx1
  obtain ⟨rfl, rfl⟩ := hx1
  exact OpenSpec.preRow_of_cond 8 hx (by kernel_rfl) (fun k hk => by cases hk; kernel_rfl) (by kernel_rfl) (laid_met os _)
set_option maxRecDepth 100000 in
set_option maxHeartbeats 2000000 in
theorem lifted (os : Os) (started : os.Started) (H : Type) (enc : TypeId × Value → H) (F0 : Stop.Interp) :
    ReturnsInHanded {} Tryd.checked os 3 .any ((Rows.OpenSpec.upto Rows.entryRepliesSpec).preRow enc Tryd.prog Tryd.f3 Rows.entryRepliesUptoRow.domain false Rows.entryRepliesUptoRow.laid) (((Rows.OpenSpec.upto Rows.entryRepliesSpec).at F0).post enc Tryd.prog Tryd.f3 false true false false) := by
  refine returnsInHanded_of_row (C := Tryd.checked) (s := (Rows.OpenSpec.upto Rows.entryRepliesSpec)) own started (by kernel_rfl) Tryd.func3
    (witness_row_atRef (enc := enc) (C := Tryd.checked) false (laidWorld os) #[.agg #[.int .i64 0, .int .i64 0, .slice none 0 0]] rfl (by kernel_rfl) (by kernel_rfl) (by kernel_rfl) (witness_row os enc)) ?_
  intro W base args ds gs before hval0 hW _ hbulk hroom hL _ _
  have hval : ∀ (j : Nat) t v, Tryd.f3.params[j]? = some t → args[j]? = some v → Value.okWide Tryd.prog W .any base t v := hval0
  have hW' := hW
  obtain ⟨p, q, hA0, hV, rfl, hfz, hnd⟩ := hW
  have hA : DataW.TrodAll enc Tryd.prog W 0 (fun _ => true) true Tryd.f3.params.toList args.toList ds p := hA0
  have hps : Tryd.f3.params = #[25] := by kernel_rfl
  rw [hps] at hA hval
  obtain ⟨v0, vs0, d0, ds0, p0, q0, hargs, rfl, rfl, h0, r0⟩ := trodAll_cons hA
  obtain ⟨rfl, rfl, rfl⟩ := trodAll_nil r0
  obtain rfl : args = #[v0] := by cases args; simp_all
  obtain ⟨rfl, rfl⟩ := trodVars_none hV
  have hB : Base W := base_of hL
  have hbulk : Rows.uptoBulkAll [d0] ≤ 1048576 := bulk_args (hbulk _ rfl)
  simp only [Rows.uptoBulkAll] at hbulk
  have hroom : (DataW.weightsEach Tryd.prog [25] [d0]).all (· ≤ reachBytes) = true := hroom
  obtain ⟨z0, hroom⟩ := room_cons hroom
  have lt0 : ∀ x ∈ p0, x.block < W.heap.size := by obtain ⟨m, hm⟩ := h0; exact DataW.trod_lt m _ _ _ hm
  have hS0 := St.start W
  obtain ⟨x0, e0, rfl, hc0, g0, k0⟩ := arg_st (Sh.pair Sh.sc (Sh.pair Sh.sc Sh.slice)) (hval 0 25 v0 rfl rfl) h0 (OpnF.struct (by kernel_rfl) (OpnF.cons (by kernel_rfl) (opn_int (fun _ => rfl) (INT.eq)) (OpnF.cons (by kernel_rfl) (opn_int (fun _ => rfl) (INT.eq)) (OpnF.one (by kernel_rfl) (opn_slice (SL.eq) (by kernel_rfl) (by decide) (opn_slice (SL.eq) (by kernel_rfl) (by decide) (OpnF.struct (by kernel_rfl) (OpnF.cons (by kernel_rfl) (opn_int (fun _ => rfl) (INT.eq)) (OpnF.cons (by kernel_rfl) (opn_int (fun _ => rfl) (INT.eq)) (OpnF.one (by kernel_rfl) (opn_string (STR.eq))))))))))))
  have hS1 : St W (Ro (Elt.slice (Elt.pair E64 (Elt.pair E64 EStr))) e0.2.2.1 e0.2.2.2 x0.2.2 :: []) W := hS0.args hc0
  clear hA0 hval0
  refine (law17_EntryReplies.c hB (i0a := 0) (a0 := x0) hS1 rfl (replies_in g0 (Nat.le_trans k0 (by omega)))).mono fun e W' ⟨_, he, hS⟩ => ?_
  have bel := hS.below
  subst he
  exact ⟨_, rfl, _, _, _, [], _, [], hW', trodAll_mk1 (shut_bool (by kernel_rfl) _), (trodAll_cons_mk (Below.trod laidOut (by kernel_rfl) (of_decide_eq_true (by kernel_rfl)) h0 bel lt0) trodAll_mk0), rfl, bel.frame _, fun h => by cases h⟩
theorem over : Rows.entryRepliesUptoRow.holds Tryd.pinned (Rows.OpenSpec.upto Rows.entryRepliesSpec) :=
  OpenClaim.holds_of_cond 3 Tryd.f3 rfl rfl rfl rfl rfl rfl rfl ⟨rfl, rfl, rfl, rfl, rfl⟩ rfl rfl rfl rfl rfl (by kernel_rfl) Tryd.func3 (by kernel_rfl)
    (of_decide_eq_true (by kernel_rfl)) (by unfold Func.isWrapper; first | (rw [if_pos (by decide +kernel)]; kernel_rfl) | (rw [if_neg (by decide +kernel)]; exact ⟨rfl, rfl⟩))
    (fun os started H enc _ F0 => by rw [OpenClaim.pre_eq_preRow]; exact lifted os started H enc F0)
theorem proved : Rows.EntryRepliesUptoCardSaid :=
  Claim7.holds_tied_plain_at .later [] [.data, .pinned] true (true, "b62bac3bdc415516168a796428d418da73ffab316c9ab18e45b1bb8d907e3e0b") true
    over (fun _ h => by cases h) (by kernel_rfl) (fun _ h => by cases h) entryRepliesUpto_row_tie rfl ⟨rfl, rfl⟩ (by kernel_rfl) rfl
    (fun f fn hf hfn => by
      obtain rfl : f = 3 := Option.some.inj ((show Tryd.prog.funcNamed "headland/headlandlaw17.EntryReplies" = some 3 by kernel_rfl).symm.trans hf) |>.symm
      obtain rfl : fn = Tryd.f3 := (Option.some.inj (Tryd.func3.symm.trans hfn)).symm
      refine ⟨by kernel_rfl, fun j t ht => ?_⟩
      rw [show Tryd.f3.params = #[25] from by kernel_rfl] at ht
      rcases j with _ | j
      · obtain rfl := Option.some.inj ht; kernel_rfl
      · exact absurd ht (by simp))
    (by kernel_rfl)
#print axioms proved
end Go.Proofs.YtpogdeibkghhaaaDoor.entryRepliesDone
