/- Layer 14, SchemaSame: two schemas, or rows, are the same just if their bytes are; the arguments read as they did. -/
import Derived.Test.YtdfbknkgmhddcaaDoorSchIn
import Derived.Test.YtdfbknkgmhddcaaDoorSchLS
import Derived.Test.YtdfbknkgmhddcaaDoorOpen
import Derived.Test.YtdfbknkgmhddcaaDoorLaid
import Derived.Test.YtdfbknkgmhddcaaDoorCards
import Derived.Test.YtdfbknkgmhddcaaDoorTie
import Derived.WalkKit
import Derived.ProofKit
import Derived.OpenShut
import Derived.ShutString
import Derived.ChangeOld
import Derived.Below
import Derived.JoinedCond
import Derived.SizedLaws
import Derived.Deep.DeepHandedRow
import Derived.Deep.DeepWitnessRowRef
import Derived.SevenTiedAt
set_option linter.unusedVariables false
namespace Go.Proofs.YtdfbknkgmhddcaaDoor.schemaSameDone
open Go.ChangeShapes Go.WideShapes Go.ChangeAt Go.RowKit
theorem witness_row (os : Os) {H : Type} (enc : TypeId × Value → H) :
    (Rows.OpenSpec.upto Rows.schemaSameSpec).preRow enc Tryd.prog Tryd.f4 Rows.schemaSameUptoRow.domain false Rows.schemaSameUptoRow.laid ((laidWorld os).forCall (fun _ _ => 0) ⟨#[], #[.agg #[.string ⟨#[]⟩, .slice none 0 0, .slice none 0 0], .agg #[.string ⟨#[]⟩, .slice none 0 0, .slice none 0 0], .slice none 0 0, .slice none 0 0], []⟩).memory #[.agg #[.string ⟨#[]⟩, .slice none 0 0, .slice none 0 0], .agg #[.string ⟨#[]⟩, .slice none 0 0, .slice none 0 0], .slice none 0 0, .slice none 0 0] := by
  have hw : (DataW.whole enc Tryd.prog ((laidWorld os).forCall (fun _ _ => 0) ⟨#[], #[.agg #[.string ⟨#[]⟩, .slice none 0 0, .slice none 0 0], .agg #[.string ⟨#[]⟩, .slice none 0 0, .slice none 0 0], .slice none 0 0, .slice none 0 0], []⟩).memory Tryd.f4.params.toList (Rows.OpenSpec.upto Rows.schemaSameSpec).vars false #[.agg #[.string ⟨#[]⟩, .slice none 0 0, .slice none 0 0], .agg #[.string ⟨#[]⟩, .slice none 0 0, .slice none 0 0], .slice none 0 0, .slice none 0 0].toList 8).map (fun x => (x.1, x.2.1)) =
      some ([.agg [.lit (.string []), .nil, .nil], .agg [.lit (.string []), .nil, .nil], .nil, .nil], []) := by kernel_rfl
  obtain ⟨⟨x1, x2, x3⟩, hx, hx1⟩ := Option.map_eq_some_iff.1 hw
  simp only [Prod.mk.injEq] at hx1
  obtain ⟨rfl, rfl⟩ := hx1
  exact OpenSpec.preRow_of_cond 8 hx (by kernel_rfl) (fun k hk => by cases hk; kernel_rfl) (by kernel_rfl) (laid_met os _)
set_option maxRecDepth 100000 in
set_option maxHeartbeats 2000000 in
theorem lifted (os : Os) (started : os.Started) (H : Type) (enc : TypeId × Value → H) (F0 : Stop.Interp) :
    ReturnsInHanded {} Tryd.checked os 4 .any ((Rows.OpenSpec.upto Rows.schemaSameSpec).preRow enc Tryd.prog Tryd.f4 Rows.schemaSameUptoRow.domain false Rows.schemaSameUptoRow.laid) (((Rows.OpenSpec.upto Rows.schemaSameSpec).at F0).post enc Tryd.prog Tryd.f4 false true false false) := by
  refine returnsInHanded_of_row (C := Tryd.checked) (s := (Rows.OpenSpec.upto Rows.schemaSameSpec)) own started (by kernel_rfl) Tryd.func4
    (witness_row_atRef (enc := enc) (C := Tryd.checked) false (laidWorld os) #[.agg #[.string ⟨#[]⟩, .slice none 0 0, .slice none 0 0], .agg #[.string ⟨#[]⟩, .slice none 0 0, .slice none 0 0], .slice none 0 0, .slice none 0 0] rfl (by kernel_rfl) (by kernel_rfl) (by kernel_rfl) (witness_row os enc)) ?_
  intro W base args ds gs before hval0 hW _ hbulk hroom hL _ _
  have hval : ∀ (j : Nat) t v, Tryd.f4.params[j]? = some t → args[j]? = some v → Value.okWide Tryd.prog W .any base t v := hval0
  have hW' := hW
  obtain ⟨p, q, hA0, hV, rfl, hfz, hnd⟩ := hW
  have hA : DataW.TrodAll enc Tryd.prog W 0 (fun _ => true) true Tryd.f4.params.toList args.toList ds p := hA0
  have hps : Tryd.f4.params = #[25, 25, 26, 26] := by kernel_rfl
  rw [hps] at hA hval
  obtain ⟨v0, vs0, d0, ds0, p0, q0, hargs, rfl, rfl, h0, r0⟩ := trodAll_cons hA
  obtain ⟨v1, vs1, d1, ds1, p1, q1, rfl, rfl, rfl, h1, r1⟩ := trodAll_cons r0
  obtain ⟨v2, vs2, d2, ds2, p2, q2, rfl, rfl, rfl, h2, r2⟩ := trodAll_cons r1
  obtain ⟨v3, vs3, d3, ds3, p3, q3, rfl, rfl, rfl, h3, r3⟩ := trodAll_cons r2
  obtain ⟨rfl, rfl, rfl⟩ := trodAll_nil r3
  obtain rfl : args = #[v0, v1, v2, v3] := by cases args; simp_all
  obtain ⟨rfl, rfl⟩ := trodVars_none hV
  have hB : Base W := base_of hL
  have hbulk : Rows.uptoBulkAll [d0, d1, d2, d3] ≤ 1048576 := bulk_args (hbulk _ rfl)
  simp only [Rows.uptoBulkAll] at hbulk
  have hroom : (DataW.weightsEach Tryd.prog [25, 25, 26, 26] [d0, d1, d2, d3]).all (· ≤ reachBytes) = true := hroom
  obtain ⟨z0, hroom⟩ := room_cons hroom
  obtain ⟨z1, hroom⟩ := room_cons hroom
  obtain ⟨z2, hroom⟩ := room_cons hroom
  obtain ⟨z3, hroom⟩ := room_cons hroom
  have lt0 : ∀ x ∈ p0, x.block < W.heap.size := by obtain ⟨m, hm⟩ := h0; exact DataW.trod_lt m _ _ _ hm
  have lt1 : ∀ x ∈ p1, x.block < W.heap.size := by obtain ⟨m, hm⟩ := h1; exact DataW.trod_lt m _ _ _ hm
  have lt2 : ∀ x ∈ p2, x.block < W.heap.size := by obtain ⟨m, hm⟩ := h2; exact DataW.trod_lt m _ _ _ hm
  have lt3 : ∀ x ∈ p3, x.block < W.heap.size := by obtain ⟨m, hm⟩ := h3; exact DataW.trod_lt m _ _ _ hm
  have hS0 := St.start W
  obtain ⟨x0, e0, rfl, hc0, g0, k0⟩ := arg_st (Sh.pair Sh.sc (Sh.pair Sh.slice Sh.slice)) (hval 0 25 v0 rfl rfl) h0 (OpnF.struct (by kernel_rfl) (OpnF.cons (by kernel_rfl) (opn_string (STR.eq)) (OpnF.cons (by kernel_rfl) (opn_slice (SL.eq) (by kernel_rfl) (by decide) (OpnF.struct (by kernel_rfl) (OpnF.cons (by kernel_rfl) (opn_string (STR.eq)) (OpnF.cons (by kernel_rfl) (opn_int (fun _ => rfl) (INT.eq)) (OpnF.one (by kernel_rfl) (opn_int (fun _ => rfl) (INT.eq))))))) (OpnF.one (by kernel_rfl) (opn_slice (SL.eq) (by kernel_rfl) (by decide) (OpnF.struct (by kernel_rfl) (OpnF.cons (by kernel_rfl) (opn_int (fun _ => rfl) (INT.eq)) (OpnF.one (by kernel_rfl) (opn_bool (by kernel_rfl))))))))))
  have hS1 : St W (Ro (Elt.pair EStr (Elt.pair E64 E64)) e0.2.1.1 e0.2.1.2 x0.2.1 :: Ro (Elt.pair E64 EBool) e0.2.2.1 e0.2.2.2 x0.2.2 :: []) W := hS0.args hc0
  obtain ⟨x1, e1, rfl, hc1, g1, k1⟩ := arg_st (Sh.pair Sh.sc (Sh.pair Sh.slice Sh.slice)) (hval 1 25 v1 rfl rfl) h1 (OpnF.struct (by kernel_rfl) (OpnF.cons (by kernel_rfl) (opn_string (STR.eq)) (OpnF.cons (by kernel_rfl) (opn_slice (SL.eq) (by kernel_rfl) (by decide) (OpnF.struct (by kernel_rfl) (OpnF.cons (by kernel_rfl) (opn_string (STR.eq)) (OpnF.cons (by kernel_rfl) (opn_int (fun _ => rfl) (INT.eq)) (OpnF.one (by kernel_rfl) (opn_int (fun _ => rfl) (INT.eq))))))) (OpnF.one (by kernel_rfl) (opn_slice (SL.eq) (by kernel_rfl) (by decide) (OpnF.struct (by kernel_rfl) (OpnF.cons (by kernel_rfl) (opn_int (fun _ => rfl) (INT.eq)) (OpnF.one (by kernel_rfl) (opn_bool (by kernel_rfl))))))))))
  have hS2 : St W (Ro (Elt.pair EStr (Elt.pair E64 E64)) e1.2.1.1 e1.2.1.2 x1.2.1 :: Ro (Elt.pair E64 EBool) e1.2.2.1 e1.2.2.2 x1.2.2 :: Ro (Elt.pair EStr (Elt.pair E64 E64)) e0.2.1.1 e0.2.1.2 x0.2.1 :: Ro (Elt.pair E64 EBool) e0.2.2.1 e0.2.2.2 x0.2.2 :: []) W := hS1.args hc1
  obtain ⟨A2, cp2, x2, rfl, hc2, hr2, g2, k2⟩ := arg_slice (SL.eq) (hval 2 26 v2 rfl rfl) h2 (opn_slice (SL.eq) (by kernel_rfl) (by decide) (OpnF.struct (by kernel_rfl) (OpnF.cons (by kernel_rfl) (opn_int (fun _ => rfl) (INT.eq)) (OpnF.cons (by kernel_rfl) (opn_int (fun _ => rfl) (INT.eq)) (OpnF.one (by kernel_rfl) (opn_string (STR.eq)))))))
  have hS3 := hS2.arg hr2 hc2
  have z2 := arg_room (SL.eq) h2 z2
  rw [show Tryd.prog.bytesOf 39 = 32 from by kernel_rfl] at z2
  obtain ⟨A3, cp3, x3, rfl, hc3, hr3, g3, k3⟩ := arg_slice (SL.eq) (hval 3 26 v3 rfl rfl) h3 (opn_slice (SL.eq) (by kernel_rfl) (by decide) (OpnF.struct (by kernel_rfl) (OpnF.cons (by kernel_rfl) (opn_int (fun _ => rfl) (INT.eq)) (OpnF.cons (by kernel_rfl) (opn_int (fun _ => rfl) (INT.eq)) (OpnF.one (by kernel_rfl) (opn_string (STR.eq)))))))
  have hS4 := hS3.arg hr3 hc3
  have z3 := arg_room (SL.eq) h3 z3
  rw [show Tryd.prog.bytesOf 39 = 32 from by kernel_rfl] at z3
  clear hA0 hval0
  have l2 : x2.length ≤ _ := Nat.le_trans (wtl_len (fun _ => Nat.le_add_left 1 _) x2) k2
  have l3 : x3.length ≤ _ := Nat.le_trans (wtl_len (fun _ => Nat.le_add_left 1 _) x3) k3
  refine (law14_SchemaSame.c hB (i0a := 4) (i0b := 5) (i1a := 2) (i1b := 3) (i2 := 1) (i3 := 0) (a0 := x0) (a1 := x1) hS4 rfl rfl rfl rfl rfl rfl (same_true (in_sch g0 (Nat.le_trans k0 (by omega))) (in_sch g1 (Nat.le_trans k1 (by omega))) (by have := l2; omega) (in_all g2.2 (Nat.le_trans k2 (by omega))) (by have := l3; omega) (in_all g3.2 (Nat.le_trans k3 (by omega))))).mono fun e W' ⟨_, he, hS⟩ => ?_
  have bel := hS.below
  subst he
  exact ⟨_, rfl, _, _, _, [], _, [], hW', trodAll_mk1 (shut_bool (by kernel_rfl) _), (trodAll_cons_mk (Below.trod laidOut (by kernel_rfl) (of_decide_eq_true (by kernel_rfl)) h0 bel lt0) (trodAll_cons_mk (Below.trod laidOut (by kernel_rfl) (of_decide_eq_true (by kernel_rfl)) h1 bel lt1) (trodAll_cons_mk (Below.trod laidOut (by kernel_rfl) (of_decide_eq_true (by kernel_rfl)) h2 bel lt2) (trodAll_cons_mk (Below.trod laidOut (by kernel_rfl) (of_decide_eq_true (by kernel_rfl)) h3 bel lt3) trodAll_mk0)))), rfl, bel.frame _, fun h => by cases h⟩
theorem over : Rows.schemaSameUptoRow.holds Tryd.pinned (Rows.OpenSpec.upto Rows.schemaSameSpec) :=
  OpenClaim.holds_of_cond 4 Tryd.f4 rfl rfl rfl rfl rfl rfl rfl ⟨rfl, rfl, rfl, rfl, rfl⟩ rfl rfl rfl rfl rfl (by kernel_rfl) Tryd.func4 (by kernel_rfl)
    (of_decide_eq_true (by kernel_rfl)) (by unfold Func.isWrapper; first | (rw [if_pos (by decide +kernel)]; kernel_rfl) | (rw [if_neg (by decide +kernel)]; exact ⟨rfl, rfl⟩))
    (fun os started H enc _ F0 => by rw [OpenClaim.pre_eq_preRow]; exact lifted os started H enc F0)
theorem proved : Rows.SchemaSameUptoCardSaid :=
  Claim7.holds_tied_plain_at .later [] [.data, .pinned] true (true, "cf623674d334b9f2ec88823bd3e461462cb72fedcfbee7f090c21078c5ddbd74") true
    over (fun _ h => by cases h) (by kernel_rfl) (fun _ h => by cases h) schemaSameUpto_row_tie rfl ⟨rfl, rfl⟩ (by kernel_rfl) rfl
    (fun f fn hf hfn => by
      obtain rfl : f = 4 := Option.some.inj ((show Tryd.prog.funcNamed "headland/headlandlaw14.SchemaSame" = some 4 by kernel_rfl).symm.trans hf) |>.symm
      obtain rfl : fn = Tryd.f4 := (Option.some.inj (Tryd.func4.symm.trans hfn)).symm
      refine ⟨by kernel_rfl, fun j t ht => ?_⟩
      rw [show Tryd.f4.params = #[25, 25, 26, 26] from by kernel_rfl] at ht
      rcases j with _ | _ | _ | _ | j
      · obtain rfl := Option.some.inj ht; kernel_rfl
      · obtain rfl := Option.some.inj ht; kernel_rfl
      · obtain rfl := Option.some.inj ht; kernel_rfl
      · obtain rfl := Option.some.inj ht; kernel_rfl
      · exact absurd ht (by simp))
    (by kernel_rfl)
#print axioms proved
end Go.Proofs.YtdfbknkgmhddcaaDoor.schemaSameDone
