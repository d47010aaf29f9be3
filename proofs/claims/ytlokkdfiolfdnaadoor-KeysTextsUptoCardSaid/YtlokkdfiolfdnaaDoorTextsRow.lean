/- Layer 2, KeysTexts: texts are taken rune by rune; the arguments read as they did. -/
import Derived.Test.YtlokkdfiolfdnaaDoorKIn
import Derived.Test.YtlokkdfiolfdnaaDoorOpen
import Derived.Test.YtlokkdfiolfdnaaDoorLaid
import Derived.Test.YtlokkdfiolfdnaaDoorCards
import Derived.Test.YtlokkdfiolfdnaaDoorTie
import Derived.WalkKit
import Derived.ProofKit
import Derived.OpenShut
import Derived.ShutString
import Derived.ChangeOld
import Derived.Below
import Derived.JoinedCond
import Derived.SizedLaws
import Derived.Deep.DeepHandedRow
import Derived.Deep.DeepWitnessRowRef
import Derived.SevenTiedAt
set_option linter.unusedVariables false
namespace Go.Proofs.YtlokkdfiolfdnaaDoor.keysTextsDone
open Go.ChangeShapes Go.WideShapes Go.ChangeAt Go.RowKit
theorem witness_row (os : Os) {H : Type} (enc : TypeId × Value → H) :
    (Rows.OpenSpec.upto Rows.keysTextsSpec).preRow enc Tryd.prog Tryd.f9 Rows.keysTextsUptoRow.domain false Rows.keysTextsUptoRow.laid ((laidWorld os).forCall (fun _ _ => 0) ⟨#[], #[.string ⟨#[]⟩, .string ⟨#[]⟩], []⟩).memory #[.string ⟨#[]⟩, .string ⟨#[]⟩] := by
  have hw : (DataW.whole enc Tryd.prog ((laidWorld os).forCall (fun _ _ => 0) ⟨#[], #[.string ⟨#[]⟩, .string ⟨#[]⟩], []⟩).memory Tryd.f9.params.toList (Rows.OpenSpec.upto Rows.keysTextsSpec).vars false #[.string ⟨#[]⟩, .string ⟨#[]⟩].toList 8).map (fun x => (x.1, x.2.1)) =
      some ([.lit (.string []), .lit (.string [])], []) := by kernel_rfl
  obtain ⟨⟨x1, x2, x3⟩, hx, hx1⟩ := Option.map_eq_some_iff.1 hw
  simp only [Prod.mk.injEq] at hx1
  obtain ⟨rfl, rfl⟩ := hx1
  exact OpenSpec.preRow_of_cond 8 hx (by kernel_rfl) (fun k hk => by cases hk; kernel_rfl) (by kernel_rfl) (laid_met os _)
set_option maxRecDepth 100000 in
set_option maxHeartbeats 2000000 in
theorem lifted (os : Os) (started : os.Started) (H : Type) (enc : TypeId × Value → H) (F0 : Stop.Interp) :
    ReturnsInHanded {} Tryd.checked os 9 .any ((Rows.OpenSpec.upto Rows.keysTextsSpec).preRow enc Tryd.prog Tryd.f9 Rows.keysTextsUptoRow.domain false Rows.keysTextsUptoRow.laid) (((Rows.OpenSpec.upto Rows.keysTextsSpec).at F0).post enc Tryd.prog Tryd.f9 false true false false) := by
  refine returnsInHanded_of_row (C := Tryd.checked) (s := (Rows.OpenSpec.upto Rows.keysTextsSpec)) own started (by kernel_rfl) Tryd.func9
    (witness_row_atRef (enc := enc) (C := Tryd.checked) false (laidWorld os) #[.string ⟨#[]⟩, .string ⟨#[]⟩] rfl (by kernel_rfl) (by kernel_rfl) (by kernel_rfl) (witness_row os enc)) ?_
  intro W base args ds gs before hval0 hW _ hbulk hroom hL _ _
  have hval : ∀ (j : Nat) t v, Tryd.f9.params[j]? = some t → args[j]? = some v → Value.okWide Tryd.prog W .any base t v := hval0
  have hW' := hW
  obtain ⟨p, q, hA0, hV, rfl, hfz, hnd⟩ := hW
  have hA : DataW.TrodAll enc Tryd.prog W 0 (fun _ => true) true Tryd.f9.params.toList args.toList ds p := hA0
  have hps : Tryd.f9.params = #[9, 9] := by kernel_rfl
  rw [hps] at hA hval
  obtain ⟨v0, vs0, d0, ds0, p0, q0, hargs, rfl, rfl, h0, r0⟩ := trodAll_cons hA
  obtain ⟨v1, vs1, d1, ds1, p1, q1, rfl, rfl, rfl, h1, r1⟩ := trodAll_cons r0
  obtain ⟨rfl, rfl, rfl⟩ := trodAll_nil r1
  obtain rfl : args = #[v0, v1] := by cases args; simp_all
  obtain ⟨rfl, rfl⟩ := trodVars_none hV
  have hB : Base W := base_of hL
  have hbulk : Rows.uptoBulkAll [d0, d1] ≤ 1048576 := bulk_args (hbulk _ rfl)
  simp only [Rows.uptoBulkAll] at hbulk
  have hroom : (DataW.weightsEach Tryd.prog [9, 9] [d0, d1]).all (· ≤ reachBytes) = true := hroom
  obtain ⟨z0, hroom⟩ := room_cons hroom
  obtain ⟨z1, hroom⟩ := room_cons hroom
  have lt0 : ∀ x ∈ p0, x.block < W.heap.size := by obtain ⟨m, hm⟩ := h0; exact DataW.trod_lt m _ _ _ hm
  have lt1 : ∀ x ∈ p1, x.block < W.heap.size := by obtain ⟨m, hm⟩ := h1; exact DataW.trod_lt m _ _ _ hm
  have hS0 := St.start W
  obtain ⟨x0, rfl, g0, k0⟩ := arg_string (STR.eq) (hval 0 9 v0 rfl rfl) h0
  have z0 := arg_room_str (STR.eq) h0 z0
  obtain ⟨x1, rfl, g1, k1⟩ := arg_string (STR.eq) (hval 1 9 v1 rfl rfl) h1
  have z1 := arg_room_str (STR.eq) h1 z1
  clear hA0 hval0
  refine (law2_KeysTexts.c hB  hS0  (texts_true (by omega))).mono fun e W' ⟨_, he, hS⟩ => ?_
  have bel := hS.below
  subst he
  exact ⟨_, rfl, _, _, _, [], _, [], hW', trodAll_mk1 (shut_bool (by kernel_rfl) _), (trodAll_cons_mk (Below.trod laidOut (by kernel_rfl) (of_decide_eq_true (by kernel_rfl)) h0 bel lt0) (trodAll_cons_mk (Below.trod laidOut (by kernel_rfl) (of_decide_eq_true (by kernel_rfl)) h1 bel lt1) trodAll_mk0)), rfl, bel.frame _, fun h => by cases h⟩
theorem over : Rows.keysTextsUptoRow.holds Tryd.pinned (Rows.OpenSpec.upto Rows.keysTextsSpec) :=
  OpenClaim.holds_of_cond 9 Tryd.f9 rfl rfl rfl rfl rfl rfl rfl ⟨rfl, rfl, rfl, rfl, rfl⟩ rfl rfl rfl rfl rfl (by kernel_rfl) Tryd.func9 (by kernel_rfl)
    (of_decide_eq_true (by kernel_rfl)) (by unfold Func.isWrapper; first | (rw [if_pos (by decide +kernel)]; kernel_rfl) | (rw [if_neg (by decide +kernel)]; exact ⟨rfl, rfl⟩))
    (fun os started H enc _ F0 => by rw [OpenClaim.pre_eq_preRow]; exact lifted os started H enc F0)
theorem proved : Rows.KeysTextsUptoCardSaid :=
  Claim7.holds_tied_plain_at .later [] [.data, .pinned] true (true, "795040d033ce430930298f74c2e774b321153ea36ef04f00d34a037630d7304c") true
    over (fun _ h => by cases h) (by kernel_rfl) (fun _ h => by cases h) keysTextsUpto_row_tie rfl ⟨rfl, rfl⟩ (by kernel_rfl) rfl
    (fun f fn hf hfn => by
      obtain rfl : f = 9 := Option.some.inj ((show Tryd.prog.funcNamed "headland/headlandlaw2.KeysTexts" = some 9 by kernel_rfl).symm.trans hf) |>.symm
      obtain rfl : fn = Tryd.f9 := (Option.some.inj (Tryd.func9.symm.trans hfn)).symm
      refine ⟨by kernel_rfl, fun j t ht => ?_⟩
      rw [show Tryd.f9.params = #[9, 9] from by kernel_rfl] at ht
      rcases j with _ | _ | j
      · obtain rfl := Option.some.inj ht; kernel_rfl
      · obtain rfl := Option.some.inj ht; kernel_rfl
      · exact absurd ht (by simp))
    (by kernel_rfl)
#print axioms proved
end Go.Proofs.YtlokkdfiolfdnaaDoor.keysTextsDone
