/- Layer 17, EntryBytes: what may stand in the log is what the document says, and is written and read as it was; any entries; the arguments read as they did. -/
import Derived.Test.YtpogdeibkghhaaaDoorByIn
import Derived.Test.YtpogdeibkghhaaaDoorByL
import Derived.Test.YtpogdeibkghhaaaDoorOpen
import Derived.Test.YtpogdeibkghhaaaDoorLaid
import Derived.Test.YtpogdeibkghhaaaDoorCards
import Derived.Test.YtpogdeibkghhaaaDoorTie
import Derived.WalkKit
import Derived.ProofKit
import Derived.OpenShut
import Derived.ShutString
import Derived.ChangeOld
import Derived.Below
import Derived.JoinedCond
import Derived.SizedLaws
import Derived.Deep.DeepHandedRow
import Derived.Deep.DeepWitnessRowRef
import Derived.SevenTiedAt
set_option linter.unusedVariables false
namespace Go.Proofs.YtpogdeibkghhaaaDoor.entryBytesDone
open Go.ChangeShapes Go.WideShapes Go.ChangeAt Go.RowKit
theorem witness_row (os : Os) {H : Type} (enc : TypeId × Value → H) :
    (Rows.OpenSpec.upto Rows.entryBytesSpec).preRow enc Tryd.prog Tryd.f5 Rows.entryBytesUptoRow.domain false Rows.entryBytesUptoRow.laid ((laidWorld os).forCall (fun _ _ => 0) ⟨#[], #[.agg #[.int .i64 0, .int .i64 0, .slice none 0 0, .int .i64 0], .agg #[.int .i64 0, .int .i64 0, .slice none 0 0, .int .i64 0]], []⟩).memory #[.agg #[.int .i64 0, .int .i64 0, .slice none 0 0, .int .i64 0], .agg #[.int .i64 0, .int .i64 0, .slice none 0 0, .int .i64 0]] := by
  have hw : (DataW.whole enc Tryd.prog ((laidWorld os).forCall (fun _ _ => 0) ⟨#[], #[.agg #[.int .i64 0, .int .i64 0, .slice none 0 0, .int .i64 0], .agg #[.int .i64 0, .int .i64 0, .slice none 0 0, .int .i64 0]], []⟩).memory Tryd.f5.params.toList (Rows.OpenSpec.upto Rows.entryBytesSpec).vars false #[.agg #[.int .i64 0, .int .i64 0, .slice none 0 0, .int .i64 0], .agg #[.int .i64 0, .int .i64 0, .slice none 0 0, .int .i64 0]].toList 8).map (fun x => (x.1, x.2.1)) =
      some ([.agg [.lit (.int .i64 0), .lit (.int .i64 0), .nil, .lit (.int .i64 0)], .agg [.lit (.int .i64 0), .lit (.int .i64 0), .nil, .lit (.int .i64 0)]], []) := by kernel_rfl
  obtain ⟨⟨x1, x2, x3⟩, hx, hx1⟩ := Option.map_eq_some_iff.1 hw
  simp only [Prod.mk.injEq] at hx1
  obtain ⟨rfl, rfl⟩ := hx1
  exact OpenSpec.preRow_of_cond 8 hx (by kernel_rfl) (fun k hk => by cases hk; kernel_rfl) (by kernel_rfl) (laid_met os _)
set_option maxRecDepth 100000 in
set_option maxHeartbeats 2000000 in
theorem lifted (os : Os) (started : os.Started) (H : Type) (enc : TypeId × Value → H) (F0 : Stop.Interp) :
    ReturnsInHanded {} Tryd.checked os 5 .any ((Rows.OpenSpec.upto Rows.entryBytesSpec).preRow enc Tryd.prog Tryd.f5 Rows.entryBytesUptoRow.domain false Rows.entryBytesUptoRow.laid) (((Rows.OpenSpec.upto Rows.entryBytesSpec).at F0).post enc Tryd.prog Tryd.f5 false true false false) := by
  refine returnsInHanded_of_row (C := Tryd.checked) (s := (Rows.OpenSpec.upto Rows.entryBytesSpec)) own started (by kernel_rfl) Tryd.func5
    (witness_row_atRef (enc := enc) (C := Tryd.checked) false (laidWorld os) #[.agg #[.int .i64 0, .int .i64 0, .slice none 0 0, .int .i64 0], .agg #[.int .i64 0, .int .i64 0, .slice none 0 0, .int .i64 0]] rfl (by kernel_rfl) (by kernel_rfl) (by kernel_rfl) (witness_row os enc)) ?_
  intro W base args ds gs before hval0 hW _ hbulk hroom hL _ _
  have hval : ∀ (j : Nat) t v, Tryd.f5.params[j]? = some t → args[j]? = some v → Value.okWide Tryd.prog W .any base t v := hval0
  have hW' := hW
  obtain ⟨p, q, hA0, hV, rfl, hfz, hnd⟩ := hW
  have hA : DataW.TrodAll enc Tryd.prog W 0 (fun _ => true) true Tryd.f5.params.toList args.toList ds p := hA0
  have hps : Tryd.f5.params = #[36, 36] := by kernel_rfl
  rw [hps] at hA hval
  obtain ⟨v0, vs0, d0, ds0, p0, q0, hargs, rfl, rfl, h0, r0⟩ := trodAll_cons hA
  obtain ⟨v1, vs1, d1, ds1, p1, q1, rfl, rfl, rfl, h1, r1⟩ := trodAll_cons r0
  obtain ⟨rfl, rfl, rfl⟩ := trodAll_nil r1
  obtain rfl : args = #[v0, v1] := by cases args; simp_all
  obtain ⟨rfl, rfl⟩ := trodVars_none hV
  have hB : Base W := base_of hL
  have hbulk : Rows.uptoBulkAll [d0, d1] ≤ 1048576 := bulk_args (hbulk _ rfl)
  simp only [Rows.uptoBulkAll] at hbulk
  have hroom : (DataW.weightsEach Tryd.prog [36, 36] [d0, d1]).all (· ≤ reachBytes) = true := hroom
  obtain ⟨z0, hroom⟩ := room_cons hroom
  obtain ⟨z1, hroom⟩ := room_cons hroom
  have lt0 : ∀ x ∈ p0, x.block < W.heap.size := by obtain ⟨m, hm⟩ := h0; exact DataW.trod_lt m _ _ _ hm
  have lt1 : ∀ x ∈ p1, x.block < W.heap.size := by obtain ⟨m, hm⟩ := h1; exact DataW.trod_lt m _ _ _ hm
  have hS0 := St.start W
  obtain ⟨x0, e0, rfl, hc0, g0, k0⟩ := arg_st (Sh.pair Sh.sc (Sh.pair Sh.sc (Sh.pair Sh.slice Sh.sc))) (hval 0 36 v0 rfl rfl) h0 (OpnF.struct (by kernel_rfl) (OpnF.cons (by kernel_rfl) (opn_int (fun _ => rfl) (INT.eq)) (OpnF.cons (by kernel_rfl) (opn_int (fun _ => rfl) (INT.eq)) (OpnF.cons (by kernel_rfl) (opn_slice (SL.eq) (by kernel_rfl) (by decide) (OpnF.struct (by kernel_rfl) (OpnF.cons (by kernel_rfl) (opn_int (fun _ => rfl) (INT.eq)) (OpnF.cons (by kernel_rfl) (opn_int (fun _ => rfl) (INT.eq)) (OpnF.one (by kernel_rfl) (opn_slice (SL.eq) (by kernel_rfl) (by decide) (OpnF.struct (by kernel_rfl) (OpnF.cons (by kernel_rfl) (opn_int (fun _ => rfl) (INT.eq)) (OpnF.cons (by kernel_rfl) (opn_string (STR.eq)) (OpnF.cons (by kernel_rfl) (OpnF.struct (by kernel_rfl) (OpnF.cons (by kernel_rfl) (opn_string (STR.eq)) (OpnF.cons (by kernel_rfl) (opn_slice (SL.eq) (by kernel_rfl) (by decide) (OpnF.struct (by kernel_rfl) (OpnF.cons (by kernel_rfl) (opn_string (STR.eq)) (OpnF.cons (by kernel_rfl) (opn_int (fun _ => rfl) (INT.eq)) (OpnF.one (by kernel_rfl) (opn_int (fun _ => rfl) (INT.eq))))))) (OpnF.one (by kernel_rfl) (opn_slice (SL.eq) (by kernel_rfl) (by decide) (OpnF.struct (by kernel_rfl) (OpnF.cons (by kernel_rfl) (opn_int (fun _ => rfl) (INT.eq)) (OpnF.one (by kernel_rfl) (opn_bool (by kernel_rfl)))))))))) (OpnF.cons (by kernel_rfl) (opn_slice (SL.eq) (by kernel_rfl) (by decide) (OpnF.struct (by kernel_rfl) (OpnF.cons (by kernel_rfl) (opn_int (fun _ => rfl) (INT.eq)) (OpnF.cons (by kernel_rfl) (opn_int (fun _ => rfl) (INT.eq)) (OpnF.one (by kernel_rfl) (opn_string (STR.eq))))))) (OpnF.cons (by kernel_rfl) (OpnF.struct (by kernel_rfl) (OpnF.cons (by kernel_rfl) (opn_int (fun _ => rfl) (INT.eq)) (OpnF.cons (by kernel_rfl) (opn_int (fun _ => rfl) (INT.eq)) (OpnF.one (by kernel_rfl) (opn_string (STR.eq)))))) (OpnF.cons (by kernel_rfl) (opn_int (fun _ => rfl) (INT.eq)) (OpnF.cons (by kernel_rfl) (OpnF.struct (by kernel_rfl) (OpnF.cons (by kernel_rfl) (opn_int (fun _ => rfl) (INT.eq)) (OpnF.cons (by kernel_rfl) (opn_int (fun _ => rfl) (INT.eq)) (OpnF.one (by kernel_rfl) (opn_string (STR.eq)))))) (OpnF.cons (by kernel_rfl) (OpnF.struct (by kernel_rfl) (OpnF.cons (by kernel_rfl) (opn_int (fun _ => rfl) (INT.eq)) (OpnF.cons (by kernel_rfl) (opn_int (fun _ => rfl) (INT.eq)) (OpnF.one (by kernel_rfl) (opn_string (STR.eq)))))) (OpnF.one (by kernel_rfl) (opn_int (fun _ => rfl) (INT.eq)))))))))))))))))) (OpnF.one (by kernel_rfl) (opn_int (fun _ => rfl) (INT.eq)))))))
  have hS1 : St W (Ro (Elt.pair E64 (Elt.pair E64 (Elt.slice (Elt.pair E64 (Elt.pair EStr (Elt.pair (Elt.pair EStr (Elt.pair (Elt.slice (Elt.pair EStr (Elt.pair E64 E64))) (Elt.slice (Elt.pair E64 EBool)))) (Elt.pair (Elt.slice (Elt.pair E64 (Elt.pair E64 EStr))) (Elt.pair (Elt.pair E64 (Elt.pair E64 EStr)) (Elt.pair E64 (Elt.pair (Elt.pair E64 (Elt.pair E64 EStr)) (Elt.pair (Elt.pair E64 (Elt.pair E64 EStr)) E64))))))))))) e0.2.2.1.1 e0.2.2.1.2 x0.2.2.1 :: []) W := hS0.args hc0
  obtain ⟨x1, e1, rfl, hc1, g1, k1⟩ := arg_st (Sh.pair Sh.sc (Sh.pair Sh.sc (Sh.pair Sh.slice Sh.sc))) (hval 1 36 v1 rfl rfl) h1 (OpnF.struct (by kernel_rfl) (OpnF.cons (by kernel_rfl) (opn_int (fun _ => rfl) (INT.eq)) (OpnF.cons (by kernel_rfl) (opn_int (fun _ => rfl) (INT.eq)) (OpnF.cons (by kernel_rfl) (opn_slice (SL.eq) (by kernel_rfl) (by decide) (OpnF.struct (by kernel_rfl) (OpnF.cons (by kernel_rfl) (opn_int (fun _ => rfl) (INT.eq)) (OpnF.cons (by kernel_rfl) (opn_int (fun _ => rfl) (INT.eq)) (OpnF.one (by kernel_rfl) (opn_slice (SL.eq) (by kernel_rfl) (by decide) (OpnF.struct (by kernel_rfl) (OpnF.cons (by kernel_rfl) (opn_int (fun _ => rfl) (INT.eq)) (OpnF.cons (by kernel_rfl) (opn_string (STR.eq)) (OpnF.cons (by kernel_rfl) (OpnF.struct (by kernel_rfl) (OpnF.cons (by kernel_rfl) (opn_string (STR.eq)) (OpnF.cons (by kernel_rfl) (opn_slice (SL.eq) (by kernel_rfl) (by decide) (OpnF.struct (by kernel_rfl) (OpnF.cons (by kernel_rfl) (opn_string (STR.eq)) (OpnF.cons (by kernel_rfl) (opn_int (fun _ => rfl) (INT.eq)) (OpnF.one (by kernel_rfl) (opn_int (fun _ => rfl) (INT.eq))))))) (OpnF.one (by kernel_rfl) (opn_slice (SL.eq) (by kernel_rfl) (by decide) (OpnF.struct (by kernel_rfl) (OpnF.cons (by kernel_rfl) (opn_int (fun _ => rfl) (INT.eq)) (OpnF.one (by kernel_rfl) (opn_bool (by kernel_rfl)))))))))) (OpnF.cons (by kernel_rfl) (opn_slice (SL.eq) (by kernel_rfl) (by decide) (OpnF.struct (by kernel_rfl) (OpnF.cons (by kernel_rfl) (opn_int (fun _ => rfl) (INT.eq)) (OpnF.cons (by kernel_rfl) (opn_int (fun _ => rfl) (INT.eq)) (OpnF.one (by kernel_rfl) (opn_string (STR.eq))))))) (OpnF.cons (by kernel_rfl) (OpnF.struct (by kernel_rfl) (OpnF.cons (by kernel_rfl) (opn_int (fun _ => rfl) (INT.eq)) (OpnF.cons (by kernel_rfl) (opn_int (fun _ => rfl) (INT.eq)) (OpnF.one (by kernel_rfl) (opn_string (STR.eq)))))) (OpnF.cons (by kernel_rfl) (opn_int (fun _ => rfl) (INT.eq)) (OpnF.cons (by kernel_rfl) (OpnF.struct (by kernel_rfl) (OpnF.cons (by kernel_rfl) (opn_int (fun _ => rfl) (INT.eq)) (OpnF.cons (by kernel_rfl) (opn_int (fun _ => rfl) (INT.eq)) (OpnF.one (by kernel_rfl) (opn_string (STR.eq)))))) (OpnF.cons (by kernel_rfl) (OpnF.struct (by kernel_rfl) (OpnF.cons (by kernel_rfl) (opn_int (fun _ => rfl) (INT.eq)) (OpnF.cons (by kernel_rfl) (opn_int (fun _ => rfl) (INT.eq)) (OpnF.one (by kernel_rfl) (opn_string (STR.eq)))))) (OpnF.one (by kernel_rfl) (opn_int (fun _ => rfl) (INT.eq)))))))))))))))))) (OpnF.one (by kernel_rfl) (opn_int (fun _ => rfl) (INT.eq)))))))
  have hS2 : St W (Ro (Elt.pair E64 (Elt.pair E64 (Elt.slice (Elt.pair E64 (Elt.pair EStr (Elt.pair (Elt.pair EStr (Elt.pair (Elt.slice (Elt.pair EStr (Elt.pair E64 E64))) (Elt.slice (Elt.pair E64 EBool)))) (Elt.pair (Elt.slice (Elt.pair E64 (Elt.pair E64 EStr))) (Elt.pair (Elt.pair E64 (Elt.pair E64 EStr)) (Elt.pair E64 (Elt.pair (Elt.pair E64 (Elt.pair E64 EStr)) (Elt.pair (Elt.pair E64 (Elt.pair E64 EStr)) E64))))))))))) e1.2.2.1.1 e1.2.2.1.2 x1.2.2.1 :: Ro (Elt.pair E64 (Elt.pair E64 (Elt.slice (Elt.pair E64 (Elt.pair EStr (Elt.pair (Elt.pair EStr (Elt.pair (Elt.slice (Elt.pair EStr (Elt.pair E64 E64))) (Elt.slice (Elt.pair E64 EBool)))) (Elt.pair (Elt.slice (Elt.pair E64 (Elt.pair E64 EStr))) (Elt.pair (Elt.pair E64 (Elt.pair E64 EStr)) (Elt.pair E64 (Elt.pair (Elt.pair E64 (Elt.pair E64 EStr)) (Elt.pair (Elt.pair E64 (Elt.pair E64 EStr)) E64))))))))))) e0.2.2.1.1 e0.2.2.1.2 x0.2.2.1 :: []) W := hS1.args hc1
  clear hA0 hval0
  refine (law17_EntryBytes.c hB (i0a := 1) (i1a := 0) (a0 := x0) (a1 := x1) hS2 rfl rfl (bytes_in g0 k0 g1 k1 (by omega) (by omega))).mono fun e W' ⟨_, he, hS⟩ => ?_
  have bel := hS.below
  subst he
  exact ⟨_, rfl, _, _, _, [], _, [], hW', trodAll_mk1 (shut_bool (by kernel_rfl) _), (trodAll_cons_mk (Below.trod laidOut (by kernel_rfl) (of_decide_eq_true (by kernel_rfl)) h0 bel lt0) (trodAll_cons_mk (Below.trod laidOut (by kernel_rfl) (of_decide_eq_true (by kernel_rfl)) h1 bel lt1) trodAll_mk0)), rfl, bel.frame _, fun h => by cases h⟩
theorem over : Rows.entryBytesUptoRow.holds Tryd.pinned (Rows.OpenSpec.upto Rows.entryBytesSpec) :=
  OpenClaim.holds_of_cond 5 Tryd.f5 rfl rfl rfl rfl rfl rfl rfl ⟨rfl, rfl, rfl, rfl, rfl⟩ rfl rfl rfl rfl rfl (by kernel_rfl) Tryd.func5 (by kernel_rfl)
    (of_decide_eq_true (by kernel_rfl)) (by unfold Func.isWrapper; first | (rw [if_pos (by decide +kernel)]; kernel_rfl) | (rw [if_neg (by decide +kernel)]; exact ⟨rfl, rfl⟩))
    (fun os started H enc _ F0 => by rw [OpenClaim.pre_eq_preRow]; exact lifted os started H enc F0)
theorem proved : Rows.EntryBytesUptoCardSaid :=
  Claim7.holds_tied_plain_at .later [] [.data, .pinned] true (true, "b62bac3bdc415516168a796428d418da73ffab316c9ab18e45b1bb8d907e3e0b") true
    over (fun _ h => by cases h) (by kernel_rfl) (fun _ h => by cases h) entryBytesUpto_row_tie rfl ⟨rfl, rfl⟩ (by kernel_rfl) rfl
    (fun f fn hf hfn => by
      obtain rfl : f = 5 := Option.some.inj ((show Tryd.prog.funcNamed "headland/headlandlaw17.EntryBytes" = some 5 by kernel_rfl).symm.trans hf) |>.symm
      obtain rfl : fn = Tryd.f5 := (Option.some.inj (Tryd.func5.symm.trans hfn)).symm
      refine ⟨by kernel_rfl, fun j t ht => ?_⟩
      rw [show Tryd.f5.params = #[36, 36] from by kernel_rfl] at ht
      rcases j with _ | _ | j
      · obtain rfl := Option.some.inj ht; kernel_rfl
      · obtain rfl := Option.some.inj ht; kernel_rfl
      · exact absurd ht (by simp))
    (by kernel_rfl)
#print axioms proved
end Go.Proofs.YtpogdeibkghhaaaDoor.entryBytesDone
