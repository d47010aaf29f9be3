/- ViewP: what the functions compute, and that the program computes it; printed by a program of ours. -/
import Derived.Test.YthacklkmngfniaaView
set_option linter.unusedVariables false
set_option linter.unusedSimpArgs false
namespace Go.Proofs.Ythacklkmngfniaa
open Go.RowKit
noncomputable def ref19_None.impl  : Option ((Int × Int × Int)) :=
  some (-1, 0, 0)
set_option maxRecDepth 100000 in
set_option maxHeartbeats 4000000 in
theorem ref19_None.c {B : World} {hs : List MP} {w : World} (hS : St B (hs) w) {r : (Int × Int × Int)} (hr : ref19_None.impl  = some r) :
    Calls Try.prog 19 #[] w fun e w' => ∃ x : Unit, e = .returned (.agg #[.int .i64 r.1, .int .i64 r.2.1, .int .i64 r.2.2]) ∧ St B (hs) w' := by
 unfold ref19_None.impl at hr
 refine calls_T Try.func19 rfl rfl rfl hS ?_
 refine T.seq ?_
 refine T.region ?_
 refine T.allocS .list rfl (wants0 rfl) rfl (cs := [.int .i64 0, .int .i64 0, .int .i64 0]) rfl (fun b1 => ?_)
 refine T.nil ?_
 refine T.then_normal ?_
 refine T.seq ?_
 refine T.region ?_
 refine T.build .list (vals := [(0, .int .i64 (-1))]) (cells := #[.int .i64 (-1), .int .i64 0, .int .i64 0]) rfl (wants0 rfl) rfl rfl (run_buildStruct (sizes := [1, 1, 1]) (by kernel_rfl) (by kernel_rfl)) ?_
 refine T.store .list 0 rfl rfl (wants0 rfl) rfl rfl rfl rfl (Nat.le_of_ble_eq_true rfl) rfl (cs' := [.int .i64 (-1), .int .i64 0, .int .i64 0]) rfl rfl ?_
 refine T.nil ?_
 refine T.then_normal ?_
 refine T.ret ?_
 obtain rfl := inv_some hr
 refine T.out1 rfl (OutRun.cellN 0 rfl rfl (vs := [.int .i64 (-1), .int .i64 0, .int .i64 0]) rfl rfl) (fun w hS => ⟨(), rfl, hS.pick [] 1 rfl rfl (Nat.le_add_left _ _) rfl⟩)

noncomputable def ref21_New.impl  : Option (((Int × Int × Int × Int × Int × Int × Int × Bool × Bool × Bool × Bool × Int × Int))) :=
  (ref19_None.impl ).bind fun r1 => some (r1.1, r1.2.1, r1.2.2, 0, 0, 0, 0, false, false, false, false, 1, 0)
set_option maxRecDepth 100000 in
set_option maxHeartbeats 4000000 in
theorem ref21_New.c {B : World} {hs : List MP} {w : World} (hS : St B (hs) w) {r : ((Int × Int × Int × Int × Int × Int × Int × Bool × Bool × Bool × Bool × Int × Int))} (hr : ref21_New.impl  = some r) :
    Calls Try.prog 6 #[] w fun e w' => ∃ x : (Nat), e = .returned (.pointer (some ⟨x, 0, none⟩)) ∧ St B (Cl x 50 [.slice none 0 0, .int .i64 0, .int .i64 0, .int .i64 0, .slice none 0 0, .int .i64 0, .int .i64 0, .int .i64 0, .slice none 0 0, .int .i64 0, .int .i64 0, .int .i64 0, .slice none 0 0, .int .i64 0, .int .i64 0, .int .i64 0, .slice none 0 0, .int .i64 0, .int .i64 0, .int .i64 0, .slice none 0 0, .int .i64 0, .int .i64 0, .int .i64 0, .slice none 0 0, .int .i64 0, .int .i64 0, .int .i64 0, .slice none 0 0, .int .i64 0, .int .i64 0, .int .i64 0, .slice none 0 0, .int .i64 r.1, .int .i64 r.2.1, .int .i64 r.2.2.1, .int .i64 r.2.2.2.1, .int .i64 r.2.2.2.2.1, .int .i64 r.2.2.2.2.2.1, .int .i64 r.2.2.2.2.2.2.1, .bool r.2.2.2.2.2.2.2.1, .bool r.2.2.2.2.2.2.2.2.1, .bool r.2.2.2.2.2.2.2.2.2.1, .bool r.2.2.2.2.2.2.2.2.2.2.1, .int .i64 r.2.2.2.2.2.2.2.2.2.2.2.1, .int .i64 r.2.2.2.2.2.2.2.2.2.2.2.2] :: hs) w' := by
 unfold ref21_New.impl at hr
 refine calls_T Try.func6 rfl rfl rfl hS ?_
 refine T.seq ?_
 refine T.region ?_
 refine T.assign .list rfl (wants0 rfl) rfl rfl ?_
 refine T.nil ?_
 refine T.then_normal ?_
 refine T.seq ?_
 refine T.region ?_
 obtain ⟨r1, hg1, hr⟩ := inv_bind hr
 refine T.call .list (wants0 rfl) rfl (run_callF (vs := []) rfl Try.func19 rfl (by decide) rfl) (fun w hS => ref19_None.c hS  hg1) (fun x1 => ?_)
 refine T.build .list (vals := [(2, .agg #[.int .i64 r1.1, .int .i64 r1.2.1, .int .i64 r1.2.2]), (5, .int .i64 1)]) (cells := #[.slice none 0 0, .int .i64 0, .int .i64 0, .int .i64 0, .slice none 0 0, .int .i64 0, .int .i64 0, .int .i64 0, .slice none 0 0, .int .i64 0, .int .i64 0, .int .i64 0, .slice none 0 0, .int .i64 0, .int .i64 0, .int .i64 0, .slice none 0 0, .int .i64 0, .int .i64 0, .int .i64 0, .slice none 0 0, .int .i64 0, .int .i64 0, .int .i64 0, .slice none 0 0, .int .i64 0, .int .i64 0, .int .i64 0, .slice none 0 0, .int .i64 0, .int .i64 0, .int .i64 0, .slice none 0 0, .int .i64 r1.1, .int .i64 r1.2.1, .int .i64 r1.2.2, .int .i64 0, .int .i64 0, .int .i64 0, .int .i64 0, .bool false, .bool false, .bool false, .bool false, .int .i64 1, .int .i64 0]) rfl (wants0 rfl) rfl rfl (run_buildStruct (sizes := [1, 32, 3, 4, 4, 1, 1]) (by kernel_rfl) (by kernel_rfl)) ?_
 refine T.boxS .list rfl (wants0 rfl) rfl rfl (cs := [.slice none 0 0, .int .i64 0, .int .i64 0, .int .i64 0, .slice none 0 0, .int .i64 0, .int .i64 0, .int .i64 0, .slice none 0 0, .int .i64 0, .int .i64 0, .int .i64 0, .slice none 0 0, .int .i64 0, .int .i64 0, .int .i64 0, .slice none 0 0, .int .i64 0, .int .i64 0, .int .i64 0, .slice none 0 0, .int .i64 0, .int .i64 0, .int .i64 0, .slice none 0 0, .int .i64 0, .int .i64 0, .int .i64 0, .slice none 0 0, .int .i64 0, .int .i64 0, .int .i64 0, .slice none 0 0, .int .i64 r1.1, .int .i64 r1.2.1, .int .i64 r1.2.2, .int .i64 0, .int .i64 0, .int .i64 0, .int .i64 0, .bool false, .bool false, .bool false, .bool false, .int .i64 1, .int .i64 0]) rfl (fun b1 => ?_)
 refine T.assign .list rfl (wants0 rfl) rfl rfl ?_
 refine T.nil ?_
 refine T.then_normal ?_
 refine T.ret ?_
 obtain rfl := inv_some hr
 refine T.pick [0] 1 rfl rfl (Nat.le_add_left _ _) rfl ?_
 refine T.ret1 rfl rfl (fun w hS => ⟨b1, rfl, hS⟩)

noncomputable def ref21_Base_Note.impl (o0 : Int × Int × Int × Int × Int × Int × Int × Bool × Bool × Bool × Bool × Int × Int) (a1 : Int) (a2 : Int) : Option ((Int × Int × Int × Int × Int × Int × Int × Bool × Bool × Bool × Bool × Int × Int)) :=
  (if ((decide (a1 = 0))) = true then chk (0 ≤ a1 ∧ a1 < 4) (chk (0 ≤ a1 ∧ a1 < 4) (chk (0 ≤ a1 ∧ a1 < 4) (some (o0.1, o0.2.1, o0.2.2.1, max o0.2.2.2.1 a2, o0.2.2.2.2.1, o0.2.2.2.2.2.1, o0.2.2.2.2.2.2.1, true, o0.2.2.2.2.2.2.2.2.1, o0.2.2.2.2.2.2.2.2.2.1, o0.2.2.2.2.2.2.2.2.2.2.1, o0.2.2.2.2.2.2.2.2.2.2.2.1, o0.2.2.2.2.2.2.2.2.2.2.2.2)))) else (if ((decide (a1 = 1))) = true then chk (0 ≤ a1 ∧ a1 < 4) (chk (0 ≤ a1 ∧ a1 < 4) (chk (0 ≤ a1 ∧ a1 < 4) (some (o0.1, o0.2.1, o0.2.2.1, o0.2.2.2.1, max o0.2.2.2.2.1 a2, o0.2.2.2.2.2.1, o0.2.2.2.2.2.2.1, o0.2.2.2.2.2.2.2.1, true, o0.2.2.2.2.2.2.2.2.2.1, o0.2.2.2.2.2.2.2.2.2.2.1, o0.2.2.2.2.2.2.2.2.2.2.2.1, o0.2.2.2.2.2.2.2.2.2.2.2.2)))) else (if ((decide (a1 = 2))) = true then chk (0 ≤ a1 ∧ a1 < 4) (chk (0 ≤ a1 ∧ a1 < 4) (chk (0 ≤ a1 ∧ a1 < 4) (some (o0.1, o0.2.1, o0.2.2.1, o0.2.2.2.1, o0.2.2.2.2.1, max o0.2.2.2.2.2.1 a2, o0.2.2.2.2.2.2.1, o0.2.2.2.2.2.2.2.1, o0.2.2.2.2.2.2.2.2.1, true, o0.2.2.2.2.2.2.2.2.2.2.1, o0.2.2.2.2.2.2.2.2.2.2.2.1, o0.2.2.2.2.2.2.2.2.2.2.2.2)))) else (if ((decide (a1 = 3))) = true then chk (0 ≤ a1 ∧ a1 < 4) (chk (0 ≤ a1 ∧ a1 < 4) (chk (0 ≤ a1 ∧ a1 < 4) (some (o0.1, o0.2.1, o0.2.2.1, o0.2.2.2.1, o0.2.2.2.2.1, o0.2.2.2.2.2.1, max o0.2.2.2.2.2.2.1 a2, o0.2.2.2.2.2.2.2.1, o0.2.2.2.2.2.2.2.2.1, o0.2.2.2.2.2.2.2.2.2.1, true, o0.2.2.2.2.2.2.2.2.2.2.2.1, o0.2.2.2.2.2.2.2.2.2.2.2.2)))) else none))))
set_option maxRecDepth 100000 in
set_option maxHeartbeats 4000000 in
theorem ref21_Base_Note.c {B : World} {hs : List MP} {w : World} {p0 : Nat} {o0 : Int × Int × Int × Int × Int × Int × Int × Bool × Bool × Bool × Bool × Int × Int} {a1 : Int} {a2 : Int} (hS : St B (Cl p0 50 [.slice none 0 0, .int .i64 0, .int .i64 0, .int .i64 0, .slice none 0 0, .int .i64 0, .int .i64 0, .int .i64 0, .slice none 0 0, .int .i64 0, .int .i64 0, .int .i64 0, .slice none 0 0, .int .i64 0, .int .i64 0, .int .i64 0, .slice none 0 0, .int .i64 0, .int .i64 0, .int .i64 0, .slice none 0 0, .int .i64 0, .int .i64 0, .int .i64 0, .slice none 0 0, .int .i64 0, .int .i64 0, .int .i64 0, .slice none 0 0, .int .i64 0, .int .i64 0, .int .i64 0, .slice none 0 0, .int .i64 o0.1, .int .i64 o0.2.1, .int .i64 o0.2.2.1, .int .i64 o0.2.2.2.1, .int .i64 o0.2.2.2.2.1, .int .i64 o0.2.2.2.2.2.1, .int .i64 o0.2.2.2.2.2.2.1, .bool o0.2.2.2.2.2.2.2.1, .bool o0.2.2.2.2.2.2.2.2.1, .bool o0.2.2.2.2.2.2.2.2.2.1, .bool o0.2.2.2.2.2.2.2.2.2.2.1, .int .i64 o0.2.2.2.2.2.2.2.2.2.2.2.1, .int .i64 o0.2.2.2.2.2.2.2.2.2.2.2.2] :: hs) w) {r : (Int × Int × Int × Int × Int × Int × Int × Bool × Bool × Bool × Bool × Int × Int)} (hr : ref21_Base_Note.impl o0 a1 a2 = some r) :
    Calls Try.prog 8 #[.pointer (some ⟨p0, 0, none⟩), .int .i64 a1, .int .i64 a2] w fun e w' => ∃ x : Unit, e = .returned (.tuple #[]) ∧ St B (Cl p0 50 [.slice none 0 0, .int .i64 0, .int .i64 0, .int .i64 0, .slice none 0 0, .int .i64 0, .int .i64 0, .int .i64 0, .slice none 0 0, .int .i64 0, .int .i64 0, .int .i64 0, .slice none 0 0, .int .i64 0, .int .i64 0, .int .i64 0, .slice none 0 0, .int .i64 0, .int .i64 0, .int .i64 0, .slice none 0 0, .int .i64 0, .int .i64 0, .int .i64 0, .slice none 0 0, .int .i64 0, .int .i64 0, .int .i64 0, .slice none 0 0, .int .i64 0, .int .i64 0, .int .i64 0, .slice none 0 0, .int .i64 r.1, .int .i64 r.2.1, .int .i64 r.2.2.1, .int .i64 r.2.2.2.1, .int .i64 r.2.2.2.2.1, .int .i64 r.2.2.2.2.2.1, .int .i64 r.2.2.2.2.2.2.1, .bool r.2.2.2.2.2.2.2.1, .bool r.2.2.2.2.2.2.2.2.1, .bool r.2.2.2.2.2.2.2.2.2.1, .bool r.2.2.2.2.2.2.2.2.2.2.1, .int .i64 r.2.2.2.2.2.2.2.2.2.2.2.1, .int .i64 r.2.2.2.2.2.2.2.2.2.2.2.2] :: hs) w' := by
 unfold ref21_Base_Note.impl at hr
 refine calls_T Try.func8 rfl rfl rfl hS ?_
 refine T.seq ?_
 refine T.plan [(0, 0), (1, 0), (2, 0), (3, 0), (4, 0), (5, 0), (6, 0), (8, 0), (10, 0), (11, 0), (7, 1), (9, 0), (12, 0), (13, 2)] mixed (by kernel_rfl) (by kernel_rfl) rfl (fun d _ _ _ _ h => by cases d <;> exact h) ?_
 refine T.move (.plan rfl) rfl (wants0 rfl) rfl rfl ?_
 refine T.move (.plan rfl) rfl (wants0 rfl) rfl rfl ?_
 refine T.move (.plan rfl) rfl (wants0 rfl) rfl rfl ?_
 refine T.move (.plan rfl) rfl (wants0 rfl) rfl rfl ?_
 refine T.nilCheck (.plan rfl) rfl (wants0 rfl) rfl rfl ?_
 refine T.field (.plan rfl) rfl (wants0 rfl) rfl rfl ?_
 refine T.bool (b := (decide (a1 = 0))) (fun hb1 => ?_) (fun hb1 => ?_)
 ·replace hr := inv_posB hb1 hr
  obtain ⟨hc1, hr⟩ := inv_chk hr
  refine T.idxArrC (.plan rfl) rfl (wants0 rfl) rfl rfl rfl hc1.1 hc1.2 (of_decide_eq_true hb1) rfl ?_
  refine T.move (.plan rfl) rfl (wants0 rfl) rfl rfl ?_
  refine T.nilCheck (.plan rfl) rfl (wants0 rfl) rfl rfl ?_
  refine T.field (.plan rfl) rfl (wants0 rfl) rfl rfl ?_
  refine T.load (.plan rfl) 0 rfl rfl (wants0 rfl) rfl rfl rfl ?_
  refine T.max2 (.plan rfl) rfl (wants0 rfl) rfl rfl rfl ?_
  obtain ⟨hc2, hr⟩ := inv_chk hr
  refine T.idxArrC (.plan rfl) rfl (wants0 rfl) rfl rfl rfl hc2.1 hc2.2 (of_decide_eq_true hb1) rfl ?_
  refine T.store (.plan rfl) 0 rfl rfl (wants0 rfl) rfl rfl rfl rfl (Nat.le_of_ble_eq_true rfl) rfl (cs' := [.slice none 0 0, .int .i64 0, .int .i64 0, .int .i64 0, .slice none 0 0, .int .i64 0, .int .i64 0, .int .i64 0, .slice none 0 0, .int .i64 0, .int .i64 0, .int .i64 0, .slice none 0 0, .int .i64 0, .int .i64 0, .int .i64 0, .slice none 0 0, .int .i64 0, .int .i64 0, .int .i64 0, .slice none 0 0, .int .i64 0, .int .i64 0, .int .i64 0, .slice none 0 0, .int .i64 0, .int .i64 0, .int .i64 0, .slice none 0 0, .int .i64 0, .int .i64 0, .int .i64 0, .slice none 0 0, .int .i64 o0.1, .int .i64 o0.2.1, .int .i64 o0.2.2.1, .int .i64 (max o0.2.2.2.1 a2), .int .i64 o0.2.2.2.2.1, .int .i64 o0.2.2.2.2.2.1, .int .i64 o0.2.2.2.2.2.2.1, .bool o0.2.2.2.2.2.2.2.1, .bool o0.2.2.2.2.2.2.2.2.1, .bool o0.2.2.2.2.2.2.2.2.2.1, .bool o0.2.2.2.2.2.2.2.2.2.2.1, .int .i64 o0.2.2.2.2.2.2.2.2.2.2.2.1, .int .i64 o0.2.2.2.2.2.2.2.2.2.2.2.2]) rfl rfl ?_
  refine T.planEnd ?_
  refine T.then_normal ?_
  refine T.region ?_
  refine T.move .list rfl (wants0 rfl) rfl rfl ?_
  refine T.move .list rfl (wants0 rfl) rfl rfl ?_
  refine T.nilCheck .list rfl (wants0 rfl) rfl rfl ?_
  refine T.field .list rfl (wants0 rfl) rfl rfl ?_
  obtain ⟨hc3, hr⟩ := inv_chk hr
  refine T.idxArrC .list rfl (wants0 rfl) rfl rfl rfl hc3.1 hc3.2 (of_decide_eq_true hb1) rfl ?_
  refine T.store .list 0 rfl rfl (wants0 rfl) rfl rfl rfl rfl (Nat.le_of_ble_eq_true rfl) rfl (cs' := [.slice none 0 0, .int .i64 0, .int .i64 0, .int .i64 0, .slice none 0 0, .int .i64 0, .int .i64 0, .int .i64 0, .slice none 0 0, .int .i64 0, .int .i64 0, .int .i64 0, .slice none 0 0, .int .i64 0, .int .i64 0, .int .i64 0, .slice none 0 0, .int .i64 0, .int .i64 0, .int .i64 0, .slice none 0 0, .int .i64 0, .int .i64 0, .int .i64 0, .slice none 0 0, .int .i64 0, .int .i64 0, .int .i64 0, .slice none 0 0, .int .i64 0, .int .i64 0, .int .i64 0, .slice none 0 0, .int .i64 o0.1, .int .i64 o0.2.1, .int .i64 o0.2.2.1, .int .i64 (max o0.2.2.2.1 a2), .int .i64 o0.2.2.2.2.1, .int .i64 o0.2.2.2.2.2.1, .int .i64 o0.2.2.2.2.2.2.1, .bool true, .bool o0.2.2.2.2.2.2.2.2.1, .bool o0.2.2.2.2.2.2.2.2.2.1, .bool o0.2.2.2.2.2.2.2.2.2.2.1, .int .i64 o0.2.2.2.2.2.2.2.2.2.2.2.1, .int .i64 o0.2.2.2.2.2.2.2.2.2.2.2.2]) rfl rfl ?_
  refine T.nil ?_
  obtain rfl := inv_some hr
  refine T.pick [0] 1 rfl rfl (Nat.le_add_left _ _) rfl ?_
  refine T.end0 rfl (fun w hS => ⟨(), rfl, hS⟩)
 ·replace hr := inv_negB hb1 hr
  refine T.bool (b := (decide (a1 = 1))) (fun hb2 => ?_) (fun hb2 => ?_)
  ·replace hr := inv_posB hb2 hr
   obtain ⟨hc4, hr⟩ := inv_chk hr
   refine T.idxArrC (.plan rfl) rfl (wants0 rfl) rfl rfl rfl hc4.1 hc4.2 (of_decide_eq_true hb2) rfl ?_
   refine T.move (.plan rfl) rfl (wants0 rfl) rfl rfl ?_
   refine T.nilCheck (.plan rfl) rfl (wants0 rfl) rfl rfl ?_
   refine T.field (.plan rfl) rfl (wants0 rfl) rfl rfl ?_
   refine T.load (.plan rfl) 0 rfl rfl (wants0 rfl) rfl rfl rfl ?_
   refine T.max2 (.plan rfl) rfl (wants0 rfl) rfl rfl rfl ?_
   obtain ⟨hc5, hr⟩ := inv_chk hr
   refine T.idxArrC (.plan rfl) rfl (wants0 rfl) rfl rfl rfl hc5.1 hc5.2 (of_decide_eq_true hb2) rfl ?_
   refine T.store (.plan rfl) 0 rfl rfl (wants0 rfl) rfl rfl rfl rfl (Nat.le_of_ble_eq_true rfl) rfl (cs' := [.slice none 0 0, .int .i64 0, .int .i64 0, .int .i64 0, .slice none 0 0, .int .i64 0, .int .i64 0, .int .i64 0, .slice none 0 0, .int .i64 0, .int .i64 0, .int .i64 0, .slice none 0 0, .int .i64 0, .int .i64 0, .int .i64 0, .slice none 0 0, .int .i64 0, .int .i64 0, .int .i64 0, .slice none 0 0, .int .i64 0, .int .i64 0, .int .i64 0, .slice none 0 0, .int .i64 0, .int .i64 0, .int .i64 0, .slice none 0 0, .int .i64 0, .int .i64 0, .int .i64 0, .slice none 0 0, .int .i64 o0.1, .int .i64 o0.2.1, .int .i64 o0.2.2.1, .int .i64 o0.2.2.2.1, .int .i64 (max o0.2.2.2.2.1 a2), .int .i64 o0.2.2.2.2.2.1, .int .i64 o0.2.2.2.2.2.2.1, .bool o0.2.2.2.2.2.2.2.1, .bool o0.2.2.2.2.2.2.2.2.1, .bool o0.2.2.2.2.2.2.2.2.2.1, .bool o0.2.2.2.2.2.2.2.2.2.2.1, .int .i64 o0.2.2.2.2.2.2.2.2.2.2.2.1, .int .i64 o0.2.2.2.2.2.2.2.2.2.2.2.2]) rfl rfl ?_
   refine T.planEnd ?_
   refine T.then_normal ?_
   refine T.region ?_
   refine T.move .list rfl (wants0 rfl) rfl rfl ?_
   refine T.move .list rfl (wants0 rfl) rfl rfl ?_
   refine T.nilCheck .list rfl (wants0 rfl) rfl rfl ?_
   refine T.field .list rfl (wants0 rfl) rfl rfl ?_
   obtain ⟨hc6, hr⟩ := inv_chk hr
   refine T.idxArrC .list rfl (wants0 rfl) rfl rfl rfl hc6.1 hc6.2 (of_decide_eq_true hb2) rfl ?_
   refine T.store .list 0 rfl rfl (wants0 rfl) rfl rfl rfl rfl (Nat.le_of_ble_eq_true rfl) rfl (cs' := [.slice none 0 0, .int .i64 0, .int .i64 0, .int .i64 0, .slice none 0 0, .int .i64 0, .int .i64 0, .int .i64 0, .slice none 0 0, .int .i64 0, .int .i64 0, .int .i64 0, .slice none 0 0, .int .i64 0, .int .i64 0, .int .i64 0, .slice none 0 0, .int .i64 0, .int .i64 0, .int .i64 0, .slice none 0 0, .int .i64 0, .int .i64 0, .int .i64 0, .slice none 0 0, .int .i64 0, .int .i64 0, .int .i64 0, .slice none 0 0, .int .i64 0, .int .i64 0, .int .i64 0, .slice none 0 0, .int .i64 o0.1, .int .i64 o0.2.1, .int .i64 o0.2.2.1, .int .i64 o0.2.2.2.1, .int .i64 (max o0.2.2.2.2.1 a2), .int .i64 o0.2.2.2.2.2.1, .int .i64 o0.2.2.2.2.2.2.1, .bool o0.2.2.2.2.2.2.2.1, .bool true, .bool o0.2.2.2.2.2.2.2.2.2.1, .bool o0.2.2.2.2.2.2.2.2.2.2.1, .int .i64 o0.2.2.2.2.2.2.2.2.2.2.2.1, .int .i64 o0.2.2.2.2.2.2.2.2.2.2.2.2]) rfl rfl ?_
   refine T.nil ?_
   obtain rfl := inv_some hr
   refine T.pick [0] 1 rfl rfl (Nat.le_add_left _ _) rfl ?_
   refine T.end0 rfl (fun w hS => ⟨(), rfl, hS⟩)
  ·replace hr := inv_negB hb2 hr
   refine T.bool (b := (decide (a1 = 2))) (fun hb3 => ?_) (fun hb3 => ?_)
   ·replace hr := inv_posB hb3 hr
    obtain ⟨hc7, hr⟩ := inv_chk hr
    refine T.idxArrC (.plan rfl) rfl (wants0 rfl) rfl rfl rfl hc7.1 hc7.2 (of_decide_eq_true hb3) rfl ?_
    refine T.move (.plan rfl) rfl (wants0 rfl) rfl rfl ?_
    refine T.nilCheck (.plan rfl) rfl (wants0 rfl) rfl rfl ?_
    refine T.field (.plan rfl) rfl (wants0 rfl) rfl rfl ?_
    refine T.load (.plan rfl) 0 rfl rfl (wants0 rfl) rfl rfl rfl ?_
    refine T.max2 (.plan rfl) rfl (wants0 rfl) rfl rfl rfl ?_
    obtain ⟨hc8, hr⟩ := inv_chk hr
    refine T.idxArrC (.plan rfl) rfl (wants0 rfl) rfl rfl rfl hc8.1 hc8.2 (of_decide_eq_true hb3) rfl ?_
    refine T.store (.plan rfl) 0 rfl rfl (wants0 rfl) rfl rfl rfl rfl (Nat.le_of_ble_eq_true rfl) rfl (cs' := [.slice none 0 0, .int .i64 0, .int .i64 0, .int .i64 0, .slice none 0 0, .int .i64 0, .int .i64 0, .int .i64 0, .slice none 0 0, .int .i64 0, .int .i64 0, .int .i64 0, .slice none 0 0, .int .i64 0, .int .i64 0, .int .i64 0, .slice none 0 0, .int .i64 0, .int .i64 0, .int .i64 0, .slice none 0 0, .int .i64 0, .int .i64 0, .int .i64 0, .slice none 0 0, .int .i64 0, .int .i64 0, .int .i64 0, .slice none 0 0, .int .i64 0, .int .i64 0, .int .i64 0, .slice none 0 0, .int .i64 o0.1, .int .i64 o0.2.1, .int .i64 o0.2.2.1, .int .i64 o0.2.2.2.1, .int .i64 o0.2.2.2.2.1, .int .i64 (max o0.2.2.2.2.2.1 a2), .int .i64 o0.2.2.2.2.2.2.1, .bool o0.2.2.2.2.2.2.2.1, .bool o0.2.2.2.2.2.2.2.2.1, .bool o0.2.2.2.2.2.2.2.2.2.1, .bool o0.2.2.2.2.2.2.2.2.2.2.1, .int .i64 o0.2.2.2.2.2.2.2.2.2.2.2.1, .int .i64 o0.2.2.2.2.2.2.2.2.2.2.2.2]) rfl rfl ?_
    refine T.planEnd ?_
    refine T.then_normal ?_
    refine T.region ?_
    refine T.move .list rfl (wants0 rfl) rfl rfl ?_
    refine T.move .list rfl (wants0 rfl) rfl rfl ?_
    refine T.nilCheck .list rfl (wants0 rfl) rfl rfl ?_
    refine T.field .list rfl (wants0 rfl) rfl rfl ?_
    obtain ⟨hc9, hr⟩ := inv_chk hr
    refine T.idxArrC .list rfl (wants0 rfl) rfl rfl rfl hc9.1 hc9.2 (of_decide_eq_true hb3) rfl ?_
    refine T.store .list 0 rfl rfl (wants0 rfl) rfl rfl rfl rfl (Nat.le_of_ble_eq_true rfl) rfl (cs' := [.slice none 0 0, .int .i64 0, .int .i64 0, .int .i64 0, .slice none 0 0, .int .i64 0, .int .i64 0, .int .i64 0, .slice none 0 0, .int .i64 0, .int .i64 0, .int .i64 0, .slice none 0 0, .int .i64 0, .int .i64 0, .int .i64 0, .slice none 0 0, .int .i64 0, .int .i64 0, .int .i64 0, .slice none 0 0, .int .i64 0, .int .i64 0, .int .i64 0, .slice none 0 0, .int .i64 0, .int .i64 0, .int .i64 0, .slice none 0 0, .int .i64 0, .int .i64 0, .int .i64 0, .slice none 0 0, .int .i64 o0.1, .int .i64 o0.2.1, .int .i64 o0.2.2.1, .int .i64 o0.2.2.2.1, .int .i64 o0.2.2.2.2.1, .int .i64 (max o0.2.2.2.2.2.1 a2), .int .i64 o0.2.2.2.2.2.2.1, .bool o0.2.2.2.2.2.2.2.1, .bool o0.2.2.2.2.2.2.2.2.1, .bool true, .bool o0.2.2.2.2.2.2.2.2.2.2.1, .int .i64 o0.2.2.2.2.2.2.2.2.2.2.2.1, .int .i64 o0.2.2.2.2.2.2.2.2.2.2.2.2]) rfl rfl ?_
    refine T.nil ?_
    obtain rfl := inv_some hr
    refine T.pick [0] 1 rfl rfl (Nat.le_add_left _ _) rfl ?_
    refine T.end0 rfl (fun w hS => ⟨(), rfl, hS⟩)
   ·replace hr := inv_negB hb3 hr
    refine T.bool (b := (decide (a1 = 3))) (fun hb4 => ?_) (fun hb4 => ?_)
    ·replace hr := inv_posB hb4 hr
     obtain ⟨hc10, hr⟩ := inv_chk hr
     refine T.idxArrC (.plan rfl) rfl (wants0 rfl) rfl rfl rfl hc10.1 hc10.2 (of_decide_eq_true hb4) rfl ?_
     refine T.move (.plan rfl) rfl (wants0 rfl) rfl rfl ?_
     refine T.nilCheck (.plan rfl) rfl (wants0 rfl) rfl rfl ?_
     refine T.field (.plan rfl) rfl (wants0 rfl) rfl rfl ?_
     refine T.load (.plan rfl) 0 rfl rfl (wants0 rfl) rfl rfl rfl ?_
     refine T.max2 (.plan rfl) rfl (wants0 rfl) rfl rfl rfl ?_
     obtain ⟨hc11, hr⟩ := inv_chk hr
     refine T.idxArrC (.plan rfl) rfl (wants0 rfl) rfl rfl rfl hc11.1 hc11.2 (of_decide_eq_true hb4) rfl ?_
     refine T.store (.plan rfl) 0 rfl rfl (wants0 rfl) rfl rfl rfl rfl (Nat.le_of_ble_eq_true rfl) rfl (cs' := [.slice none 0 0, .int .i64 0, .int .i64 0, .int .i64 0, .slice none 0 0, .int .i64 0, .int .i64 0, .int .i64 0, .slice none 0 0, .int .i64 0, .int .i64 0, .int .i64 0, .slice none 0 0, .int .i64 0, .int .i64 0, .int .i64 0, .slice none 0 0, .int .i64 0, .int .i64 0, .int .i64 0, .slice none 0 0, .int .i64 0, .int .i64 0, .int .i64 0, .slice none 0 0, .int .i64 0, .int .i64 0, .int .i64 0, .slice none 0 0, .int .i64 0, .int .i64 0, .int .i64 0, .slice none 0 0, .int .i64 o0.1, .int .i64 o0.2.1, .int .i64 o0.2.2.1, .int .i64 o0.2.2.2.1, .int .i64 o0.2.2.2.2.1, .int .i64 o0.2.2.2.2.2.1, .int .i64 (max o0.2.2.2.2.2.2.1 a2), .bool o0.2.2.2.2.2.2.2.1, .bool o0.2.2.2.2.2.2.2.2.1, .bool o0.2.2.2.2.2.2.2.2.2.1, .bool o0.2.2.2.2.2.2.2.2.2.2.1, .int .i64 o0.2.2.2.2.2.2.2.2.2.2.2.1, .int .i64 o0.2.2.2.2.2.2.2.2.2.2.2.2]) rfl rfl ?_
     refine T.planEnd ?_
     refine T.then_normal ?_
     refine T.region ?_
     refine T.move .list rfl (wants0 rfl) rfl rfl ?_
     refine T.move .list rfl (wants0 rfl) rfl rfl ?_
     refine T.nilCheck .list rfl (wants0 rfl) rfl rfl ?_
     refine T.field .list rfl (wants0 rfl) rfl rfl ?_
     obtain ⟨hc12, hr⟩ := inv_chk hr
     refine T.idxArrC .list rfl (wants0 rfl) rfl rfl rfl hc12.1 hc12.2 (of_decide_eq_true hb4) rfl ?_
     refine T.store .list 0 rfl rfl (wants0 rfl) rfl rfl rfl rfl (Nat.le_of_ble_eq_true rfl) rfl (cs' := [.slice none 0 0, .int .i64 0, .int .i64 0, .int .i64 0, .slice none 0 0, .int .i64 0, .int .i64 0, .int .i64 0, .slice none 0 0, .int .i64 0, .int .i64 0, .int .i64 0, .slice none 0 0, .int .i64 0, .int .i64 0, .int .i64 0, .slice none 0 0, .int .i64 0, .int .i64 0, .int .i64 0, .slice none 0 0, .int .i64 0, .int .i64 0, .int .i64 0, .slice none 0 0, .int .i64 0, .int .i64 0, .int .i64 0, .slice none 0 0, .int .i64 0, .int .i64 0, .int .i64 0, .slice none 0 0, .int .i64 o0.1, .int .i64 o0.2.1, .int .i64 o0.2.2.1, .int .i64 o0.2.2.2.1, .int .i64 o0.2.2.2.2.1, .int .i64 o0.2.2.2.2.2.1, .int .i64 (max o0.2.2.2.2.2.2.1 a2), .bool o0.2.2.2.2.2.2.2.1, .bool o0.2.2.2.2.2.2.2.2.1, .bool o0.2.2.2.2.2.2.2.2.2.1, .bool true, .int .i64 o0.2.2.2.2.2.2.2.2.2.2.2.1, .int .i64 o0.2.2.2.2.2.2.2.2.2.2.2.2]) rfl rfl ?_
     refine T.nil ?_
     obtain rfl := inv_some hr
     refine T.pick [0] 1 rfl rfl (Nat.le_add_left _ _) rfl ?_
     refine T.end0 rfl (fun w hS => ⟨(), rfl, hS⟩)
    ·replace hr := inv_negB hb4 hr
     cases hr

noncomputable def ref21_Base_Raise.k1 (o0 : Int × Int × Int × Int × Int × Int × Int × Bool × Bool × Bool × Bool × Int × Int) (s1 : Bool) : Option (Bool × (Int × Int × Int × Int × Int × Int × Int × Bool × Bool × Bool × Bool × Int × Int)) :=
  (if s1 = true then some (s1, (o0.1, o0.2.1, o0.2.2.1, o0.2.2.2.1, o0.2.2.2.2.1, o0.2.2.2.2.2.1, o0.2.2.2.2.2.2.1, o0.2.2.2.2.2.2.2.1, o0.2.2.2.2.2.2.2.2.1, o0.2.2.2.2.2.2.2.2.2.1, o0.2.2.2.2.2.2.2.2.2.2.1, 2, o0.2.2.2.2.2.2.2.2.2.2.2.2)) else some (s1, (o0.1, o0.2.1, o0.2.2.1, o0.2.2.2.1, o0.2.2.2.2.1, o0.2.2.2.2.2.1, o0.2.2.2.2.2.2.1, o0.2.2.2.2.2.2.2.1, o0.2.2.2.2.2.2.2.2.1, o0.2.2.2.2.2.2.2.2.2.1, o0.2.2.2.2.2.2.2.2.2.2.1, o0.2.2.2.2.2.2.2.2.2.2.2.1, o0.2.2.2.2.2.2.2.2.2.2.2.2)))
noncomputable def ref21_Base_Raise.impl (o0 : Int × Int × Int × Int × Int × Int × Int × Bool × Bool × Bool × Bool × Int × Int) (a1 : Int) : Option (Bool × (Int × Int × Int × Int × Int × Int × Int × Bool × Bool × Bool × Bool × Int × Int)) :=
  (if ((decide (a1 = 2))) = true then ref21_Base_Raise.k1 o0 (decide (o0.2.2.2.2.2.2.2.2.2.2.2.1 = 1)) else ref21_Base_Raise.k1 o0 false)
set_option maxRecDepth 100000 in
set_option maxHeartbeats 4000000 in
theorem ref21_Base_Raise.c {B : World} {hs : List MP} {w : World} {p0 : Nat} {o0 : Int × Int × Int × Int × Int × Int × Int × Bool × Bool × Bool × Bool × Int × Int} {a1 : Int} (hS : St B (Cl p0 50 [.slice none 0 0, .int .i64 0, .int .i64 0, .int .i64 0, .slice none 0 0, .int .i64 0, .int .i64 0, .int .i64 0, .slice none 0 0, .int .i64 0, .int .i64 0, .int .i64 0, .slice none 0 0, .int .i64 0, .int .i64 0, .int .i64 0, .slice none 0 0, .int .i64 0, .int .i64 0, .int .i64 0, .slice none 0 0, .int .i64 0, .int .i64 0, .int .i64 0, .slice none 0 0, .int .i64 0, .int .i64 0, .int .i64 0, .slice none 0 0, .int .i64 0, .int .i64 0, .int .i64 0, .slice none 0 0, .int .i64 o0.1, .int .i64 o0.2.1, .int .i64 o0.2.2.1, .int .i64 o0.2.2.2.1, .int .i64 o0.2.2.2.2.1, .int .i64 o0.2.2.2.2.2.1, .int .i64 o0.2.2.2.2.2.2.1, .bool o0.2.2.2.2.2.2.2.1, .bool o0.2.2.2.2.2.2.2.2.1, .bool o0.2.2.2.2.2.2.2.2.2.1, .bool o0.2.2.2.2.2.2.2.2.2.2.1, .int .i64 o0.2.2.2.2.2.2.2.2.2.2.2.1, .int .i64 o0.2.2.2.2.2.2.2.2.2.2.2.2] :: hs) w) {r : Bool × (Int × Int × Int × Int × Int × Int × Int × Bool × Bool × Bool × Bool × Int × Int)} (hr : ref21_Base_Raise.impl o0 a1 = some r) :
    Calls Try.prog 12 #[.pointer (some ⟨p0, 0, none⟩), .int .i64 a1] w fun e w' => ∃ x : Unit, e = .returned (.bool r.1) ∧ St B (Cl p0 50 [.slice none 0 0, .int .i64 0, .int .i64 0, .int .i64 0, .slice none 0 0, .int .i64 0, .int .i64 0, .int .i64 0, .slice none 0 0, .int .i64 0, .int .i64 0, .int .i64 0, .slice none 0 0, .int .i64 0, .int .i64 0, .int .i64 0, .slice none 0 0, .int .i64 0, .int .i64 0, .int .i64 0, .slice none 0 0, .int .i64 0, .int .i64 0, .int .i64 0, .slice none 0 0, .int .i64 0, .int .i64 0, .int .i64 0, .slice none 0 0, .int .i64 0, .int .i64 0, .int .i64 0, .slice none 0 0, .int .i64 r.2.1, .int .i64 r.2.2.1, .int .i64 r.2.2.2.1, .int .i64 r.2.2.2.2.1, .int .i64 r.2.2.2.2.2.1, .int .i64 r.2.2.2.2.2.2.1, .int .i64 r.2.2.2.2.2.2.2.1, .bool r.2.2.2.2.2.2.2.2.1, .bool r.2.2.2.2.2.2.2.2.2.1, .bool r.2.2.2.2.2.2.2.2.2.2.1, .bool r.2.2.2.2.2.2.2.2.2.2.2.1, .int .i64 r.2.2.2.2.2.2.2.2.2.2.2.2.1, .int .i64 r.2.2.2.2.2.2.2.2.2.2.2.2.2] :: hs) w' := by
 unfold ref21_Base_Raise.impl at hr
 refine calls_T Try.func12 rfl rfl rfl hS ?_
 refine T.seq ?_
 refine T.region ?_
 refine T.assign .list rfl (wants0 rfl) rfl rfl ?_
 refine T.nil ?_
 refine T.then_normal ?_
 refine T.seqJ (fun (s1 : Bool) (x1 : Unit) => [(0, .pointer (some ⟨p0, 0, none⟩)), (5, .bool s1)]) (fun s1 x1 => Cl p0 50 [.slice none 0 0, .int .i64 0, .int .i64 0, .int .i64 0, .slice none 0 0, .int .i64 0, .int .i64 0, .int .i64 0, .slice none 0 0, .int .i64 0, .int .i64 0, .int .i64 0, .slice none 0 0, .int .i64 0, .int .i64 0, .int .i64 0, .slice none 0 0, .int .i64 0, .int .i64 0, .int .i64 0, .slice none 0 0, .int .i64 0, .int .i64 0, .int .i64 0, .slice none 0 0, .int .i64 0, .int .i64 0, .int .i64 0, .slice none 0 0, .int .i64 0, .int .i64 0, .int .i64 0, .slice none 0 0, .int .i64 o0.1, .int .i64 o0.2.1, .int .i64 o0.2.2.1, .int .i64 o0.2.2.2.1, .int .i64 o0.2.2.2.2.1, .int .i64 o0.2.2.2.2.2.1, .int .i64 o0.2.2.2.2.2.2.1, .bool o0.2.2.2.2.2.2.2.1, .bool o0.2.2.2.2.2.2.2.2.1, .bool o0.2.2.2.2.2.2.2.2.2.1, .bool o0.2.2.2.2.2.2.2.2.2.2.1, .int .i64 o0.2.2.2.2.2.2.2.2.2.2.2.1, .int .i64 o0.2.2.2.2.2.2.2.2.2.2.2.2] :: hs) (fun s1 => ref21_Base_Raise.k1 o0 s1 = some r) (fun s1 x1 hk1 => ?_) (fun J1 => ?_)
 ·unfold ref21_Base_Raise.k1 at hk1
  refine T.seq ?_
  refine T.seq ?_
  refine T.region ?_
  refine T.move .list rfl (wants0 rfl) rfl rfl ?_
  refine T.nil ?_
  refine T.then_normal ?_
  refine T.cond rfl (fun hb1 => ?_) (fun hb1 => ?_)
  ·replace hk1 := inv_posB hb1 hk1
   refine T.region ?_
   refine T.move .list rfl (wants0 rfl) rfl rfl ?_
   refine T.nilCheck .list rfl (wants0 rfl) rfl rfl ?_
   refine T.field .list rfl (wants0 rfl) rfl rfl ?_
   refine T.store .list 0 rfl rfl (wants0 rfl) rfl rfl rfl rfl (Nat.le_of_ble_eq_true rfl) rfl (cs' := [.slice none 0 0, .int .i64 0, .int .i64 0, .int .i64 0, .slice none 0 0, .int .i64 0, .int .i64 0, .int .i64 0, .slice none 0 0, .int .i64 0, .int .i64 0, .int .i64 0, .slice none 0 0, .int .i64 0, .int .i64 0, .int .i64 0, .slice none 0 0, .int .i64 0, .int .i64 0, .int .i64 0, .slice none 0 0, .int .i64 0, .int .i64 0, .int .i64 0, .slice none 0 0, .int .i64 0, .int .i64 0, .int .i64 0, .slice none 0 0, .int .i64 0, .int .i64 0, .int .i64 0, .slice none 0 0, .int .i64 o0.1, .int .i64 o0.2.1, .int .i64 o0.2.2.1, .int .i64 o0.2.2.2.1, .int .i64 o0.2.2.2.2.1, .int .i64 o0.2.2.2.2.2.1, .int .i64 o0.2.2.2.2.2.2.1, .bool o0.2.2.2.2.2.2.2.1, .bool o0.2.2.2.2.2.2.2.2.1, .bool o0.2.2.2.2.2.2.2.2.2.1, .bool o0.2.2.2.2.2.2.2.2.2.2.1, .int .i64 2, .int .i64 o0.2.2.2.2.2.2.2.2.2.2.2.2]) rfl rfl ?_
   refine T.nil ?_
   refine T.then_normal ?_
   refine T.seq ?_
   refine T.region ?_
   refine T.move .list rfl (wants0 rfl) rfl rfl ?_
   refine T.assign .list rfl (wants0 rfl) rfl rfl ?_
   refine T.nil ?_
   refine T.then_normal ?_
   refine T.ret ?_
   obtain rfl := inv_some hk1
   refine T.pick [0] 1 rfl rfl (Nat.le_add_left _ _) rfl ?_
   refine T.ret1 rfl rfl (fun w hS => ⟨(), rfl, hS⟩)
  ·replace hk1 := inv_negB hb1 hk1
   refine T.skip ?_
   refine T.then_normal ?_
   refine T.seq ?_
   refine T.region ?_
   refine T.move .list rfl (wants0 rfl) rfl rfl ?_
   refine T.assign .list rfl (wants0 rfl) rfl rfl ?_
   refine T.nil ?_
   refine T.then_normal ?_
   refine T.ret ?_
   obtain rfl := inv_some hk1
   refine T.pick [0] 1 rfl rfl (Nat.le_add_left _ _) rfl ?_
   refine T.ret1 rfl rfl (fun w hS => ⟨(), rfl, hS⟩)
 ·refine T.region ?_
  refine T.move .list rfl (wants0 rfl) rfl rfl ?_
  refine T.bin .list rfl (wants0 rfl) rfl rfl rfl rfl ?_
  refine T.move .list rfl (wants0 rfl) rfl rfl ?_
  refine T.bool (b := (decide (a1 = 2))) (fun hb2 => ?_) (fun hb2 => ?_)
  ·replace hr := inv_posB hb2 hr
   refine T.move .list rfl (wants1 rfl rfl rfl hb2) rfl rfl ?_
   refine T.nilCheck .list rfl (wants1 rfl rfl rfl hb2) rfl rfl ?_
   refine T.field .list rfl (wants1 rfl rfl rfl hb2) rfl rfl ?_
   refine T.load .list 0 rfl rfl (wants1 rfl rfl rfl hb2) rfl rfl rfl ?_
   refine T.bin .list rfl (wants1 rfl rfl rfl hb2) rfl rfl rfl rfl ?_
   refine T.pickT .list rfl (wants0 rfl) rfl rfl hb2 rfl ?_
   refine T.assign .list rfl (wants0 rfl) rfl rfl ?_
   refine T.nil ?_
   refine T.then_normal ?_
   exact T.le (EnvLe.cons rfl (EnvLe.cons rfl EnvLe.nil)) (T.pick [0] 1 rfl rfl (Nat.le_add_left _ _) rfl (J1 (decide (o0.2.2.2.2.2.2.2.2.2.2.2.1 = 1)) () hr))
  ·replace hr := inv_negB hb2 hr
   refine T.leave .list (wantsNot rfl rfl rfl hb2) rfl ?_
   refine T.leave .list (wantsNot rfl rfl rfl hb2) rfl ?_
   refine T.leave .list (wantsNot rfl rfl rfl hb2) rfl ?_
   refine T.leave .list (wantsNot rfl rfl rfl hb2) rfl ?_
   refine T.leave .list (wantsNot rfl rfl rfl hb2) rfl ?_
   refine T.pickF .list rfl (wants0 rfl) rfl rfl hb2 rfl ?_
   refine T.assign .list rfl (wants0 rfl) rfl rfl ?_
   refine T.nil ?_
   refine T.then_normal ?_
   exact T.le (EnvLe.cons rfl (EnvLe.cons rfl EnvLe.nil)) (T.pick [0] 1 rfl rfl (Nat.le_add_left _ _) rfl (J1 false () hr))

noncomputable def ref21_Base_Least.k1 (s1 : Int × Bool) : Option (Int × Bool) :=
  some (s1.1, s1.2)
noncomputable def ref21_Base_Least.k2 (s2 : Int × Bool × Int) (s3 : Int × Bool) : Option ((Int × Bool × Int) ⊕ (Int × Bool)) :=
  some (.inl (s3.1, s3.2, IntKind.i64.wrap (s2.2.2 + 1)))
noncomputable def ref21_Base_Least.k3 (s2 : Int × Bool × Int) (o0 : Int × Int × Int × Int × Int × Int × Int × Bool × Bool × Bool × Bool × Int × Int) (s4 : Bool) : Option ((Int × Bool × Int) ⊕ (Int × Bool)) :=
  (if s4 = true then (if ((decide (s2.2.2 = 0))) = true then chk (0 ≤ s2.2.2 ∧ s2.2.2 < 4) (ref21_Base_Least.k2 s2 (o0.2.2.2.1, true)) else (if ((decide (s2.2.2 = 1))) = true then chk (0 ≤ s2.2.2 ∧ s2.2.2 < 4) (ref21_Base_Least.k2 s2 (o0.2.2.2.2.1, true)) else (if ((decide (s2.2.2 = 2))) = true then chk (0 ≤ s2.2.2 ∧ s2.2.2 < 4) (ref21_Base_Least.k2 s2 (o0.2.2.2.2.2.1, true)) else (if ((decide (s2.2.2 = 3))) = true then chk (0 ≤ s2.2.2 ∧ s2.2.2 < 4) (ref21_Base_Least.k2 s2 (o0.2.2.2.2.2.2.1, true)) else none)))) else ref21_Base_Least.k2 s2 (s2.1, s2.2.1))
noncomputable def ref21_Base_Least.st1 (o0 : Int × Int × Int × Int × Int × Int × Int × Bool × Bool × Bool × Bool × Int × Int) (s2 : Int × Bool × Int) : Option ((Int × Bool × Int) ⊕ (Int × Bool)) :=
  (if ((decide (s2.2.2 < 4))) = true then (if ((decide (s2.2.2 = 0))) = true then chk (0 ≤ s2.2.2 ∧ s2.2.2 < 4) ((if o0.2.2.2.2.2.2.2.1 = true then (if s2.2.1 = true then chk (0 ≤ s2.2.2 ∧ s2.2.2 < 4) (ref21_Base_Least.k3 s2 o0 (decide (o0.2.2.2.1 < s2.1))) else ref21_Base_Least.k3 s2 o0 true) else ref21_Base_Least.k3 s2 o0 false)) else (if ((decide (s2.2.2 = 1))) = true then chk (0 ≤ s2.2.2 ∧ s2.2.2 < 4) ((if o0.2.2.2.2.2.2.2.2.1 = true then (if s2.2.1 = true then chk (0 ≤ s2.2.2 ∧ s2.2.2 < 4) (ref21_Base_Least.k3 s2 o0 (decide (o0.2.2.2.2.1 < s2.1))) else ref21_Base_Least.k3 s2 o0 true) else ref21_Base_Least.k3 s2 o0 false)) else (if ((decide (s2.2.2 = 2))) = true then chk (0 ≤ s2.2.2 ∧ s2.2.2 < 4) ((if o0.2.2.2.2.2.2.2.2.2.1 = true then (if s2.2.1 = true then chk (0 ≤ s2.2.2 ∧ s2.2.2 < 4) (ref21_Base_Least.k3 s2 o0 (decide (o0.2.2.2.2.2.1 < s2.1))) else ref21_Base_Least.k3 s2 o0 true) else ref21_Base_Least.k3 s2 o0 false)) else (if ((decide (s2.2.2 = 3))) = true then chk (0 ≤ s2.2.2 ∧ s2.2.2 < 4) ((if o0.2.2.2.2.2.2.2.2.2.2.1 = true then (if s2.2.1 = true then chk (0 ≤ s2.2.2 ∧ s2.2.2 < 4) (ref21_Base_Least.k3 s2 o0 (decide (o0.2.2.2.2.2.2.1 < s2.1))) else ref21_Base_Least.k3 s2 o0 true) else ref21_Base_Least.k3 s2 o0 false)) else none)))) else some (.inr (s2.1, s2.2.1)))
noncomputable def ref21_Base_Least.impl (o0 : Int × Int × Int × Int × Int × Int × Int × Bool × Bool × Bool × Bool × Int × Int) : Option (Int × Bool) :=
  (loop (ref21_Base_Least.st1 o0) (0, false, 0)).bind (fun e1 => ref21_Base_Least.k1 e1)
set_option maxRecDepth 100000 in
set_option maxHeartbeats 4000000 in
theorem ref21_Base_Least.c {B : World} {hs : List MP} {w : World} {p0 : Nat} {o0 : Int × Int × Int × Int × Int × Int × Int × Bool × Bool × Bool × Bool × Int × Int} (hS : St B (Cl p0 50 [.slice none 0 0, .int .i64 0, .int .i64 0, .int .i64 0, .slice none 0 0, .int .i64 0, .int .i64 0, .int .i64 0, .slice none 0 0, .int .i64 0, .int .i64 0, .int .i64 0, .slice none 0 0, .int .i64 0, .int .i64 0, .int .i64 0, .slice none 0 0, .int .i64 0, .int .i64 0, .int .i64 0, .slice none 0 0, .int .i64 0, .int .i64 0, .int .i64 0, .slice none 0 0, .int .i64 0, .int .i64 0, .int .i64 0, .slice none 0 0, .int .i64 0, .int .i64 0, .int .i64 0, .slice none 0 0, .int .i64 o0.1, .int .i64 o0.2.1, .int .i64 o0.2.2.1, .int .i64 o0.2.2.2.1, .int .i64 o0.2.2.2.2.1, .int .i64 o0.2.2.2.2.2.1, .int .i64 o0.2.2.2.2.2.2.1, .bool o0.2.2.2.2.2.2.2.1, .bool o0.2.2.2.2.2.2.2.2.1, .bool o0.2.2.2.2.2.2.2.2.2.1, .bool o0.2.2.2.2.2.2.2.2.2.2.1, .int .i64 o0.2.2.2.2.2.2.2.2.2.2.2.1, .int .i64 o0.2.2.2.2.2.2.2.2.2.2.2.2] :: hs) w) {r : Int × Bool} (hr : ref21_Base_Least.impl o0 = some r) :
    Calls Try.prog 14 #[.pointer (some ⟨p0, 0, none⟩)] w fun e w' => ∃ x : Unit, e = .returned (.tuple #[.int .i64 r.1, .bool r.2]) ∧ St B (Cl p0 50 [.slice none 0 0, .int .i64 0, .int .i64 0, .int .i64 0, .slice none 0 0, .int .i64 0, .int .i64 0, .int .i64 0, .slice none 0 0, .int .i64 0, .int .i64 0, .int .i64 0, .slice none 0 0, .int .i64 0, .int .i64 0, .int .i64 0, .slice none 0 0, .int .i64 0, .int .i64 0, .int .i64 0, .slice none 0 0, .int .i64 0, .int .i64 0, .int .i64 0, .slice none 0 0, .int .i64 0, .int .i64 0, .int .i64 0, .slice none 0 0, .int .i64 0, .int .i64 0, .int .i64 0, .slice none 0 0, .int .i64 o0.1, .int .i64 o0.2.1, .int .i64 o0.2.2.1, .int .i64 o0.2.2.2.1, .int .i64 o0.2.2.2.2.1, .int .i64 o0.2.2.2.2.2.1, .int .i64 o0.2.2.2.2.2.2.1, .bool o0.2.2.2.2.2.2.2.1, .bool o0.2.2.2.2.2.2.2.2.1, .bool o0.2.2.2.2.2.2.2.2.2.1, .bool o0.2.2.2.2.2.2.2.2.2.2.1, .int .i64 o0.2.2.2.2.2.2.2.2.2.2.2.1, .int .i64 o0.2.2.2.2.2.2.2.2.2.2.2.2] :: hs) w' := by
 unfold ref21_Base_Least.impl at hr
 refine calls_T Try.func14 rfl rfl rfl hS ?_
 refine T.seq ?_
 refine T.region ?_
 refine T.assign .list rfl (wants0 rfl) rfl rfl ?_
 refine T.assign .list rfl (wants0 rfl) rfl rfl ?_
 refine T.nil ?_
 refine T.then_normal ?_
 refine T.seq ?_
 refine T.region ?_
 refine T.assign .list rfl (wants0 rfl) rfl rfl ?_
 refine T.assign .list rfl (wants0 rfl) rfl rfl ?_
 refine T.nil ?_
 refine T.then_normal ?_
 refine T.seqJ (fun (s1 : Int × Bool) (x1 : Unit) => [(4, .int .i64 s1.1), (5, .bool s1.2)]) (fun s1 x1 => Cl p0 50 [.slice none 0 0, .int .i64 0, .int .i64 0, .int .i64 0, .slice none 0 0, .int .i64 0, .int .i64 0, .int .i64 0, .slice none 0 0, .int .i64 0, .int .i64 0, .int .i64 0, .slice none 0 0, .int .i64 0, .int .i64 0, .int .i64 0, .slice none 0 0, .int .i64 0, .int .i64 0, .int .i64 0, .slice none 0 0, .int .i64 0, .int .i64 0, .int .i64 0, .slice none 0 0, .int .i64 0, .int .i64 0, .int .i64 0, .slice none 0 0, .int .i64 0, .int .i64 0, .int .i64 0, .slice none 0 0, .int .i64 o0.1, .int .i64 o0.2.1, .int .i64 o0.2.2.1, .int .i64 o0.2.2.2.1, .int .i64 o0.2.2.2.2.1, .int .i64 o0.2.2.2.2.2.1, .int .i64 o0.2.2.2.2.2.2.1, .bool o0.2.2.2.2.2.2.2.1, .bool o0.2.2.2.2.2.2.2.2.1, .bool o0.2.2.2.2.2.2.2.2.2.1, .bool o0.2.2.2.2.2.2.2.2.2.2.1, .int .i64 o0.2.2.2.2.2.2.2.2.2.2.2.1, .int .i64 o0.2.2.2.2.2.2.2.2.2.2.2.2] :: hs) (fun s1 => ref21_Base_Least.k1 s1 = some r) (fun s1 x1 hk1 => ?_) (fun J1 => ?_)
 ·unfold ref21_Base_Least.k1 at hk1
  refine T.seq ?_
  refine T.region ?_
  refine T.move .list rfl (wants0 rfl) rfl rfl ?_
  refine T.move .list rfl (wants0 rfl) rfl rfl ?_
  refine T.assign .list rfl (wants0 rfl) rfl rfl ?_
  refine T.assign .list rfl (wants0 rfl) rfl rfl ?_
  refine T.nil ?_
  refine T.then_normal ?_
  refine T.ret ?_
  obtain rfl := inv_some hk1
  refine T.pick [0] 1 rfl rfl (Nat.le_add_left _ _) rfl ?_
  refine T.ret2 rfl rfl rfl (fun w hS => ⟨(), rfl, hS⟩)
 ·refine T.seq ?_
  refine T.region ?_
  refine T.assign .list rfl (wants0 rfl) rfl rfl ?_
  refine T.nil ?_
  refine T.then_normal ?_
  refine T.block ?_
  obtain ⟨e1, hl1, hr⟩ := inv_bind hr
  refine T.le (EnvLe.cons rfl (EnvLe.cons rfl (EnvLe.cons rfl (EnvLe.cons rfl EnvLe.nil)))) (T.pick [0] 1 rfl rfl (Nat.le_add_left _ _) rfl (T.loop (s0 := (0, false, 0)) (env := fun s2 x2 => [(0, .pointer (some ⟨p0, 0, none⟩)), (4, .int .i64 s2.1), (5, .bool s2.2.1), (6, .int .i64 s2.2.2)]) (hs := fun (s2 : Int × Bool × Int) (x2 : Unit) => Cl p0 50 [.slice none 0 0, .int .i64 0, .int .i64 0, .int .i64 0, .slice none 0 0, .int .i64 0, .int .i64 0, .int .i64 0, .slice none 0 0, .int .i64 0, .int .i64 0, .int .i64 0, .slice none 0 0, .int .i64 0, .int .i64 0, .int .i64 0, .slice none 0 0, .int .i64 0, .int .i64 0, .int .i64 0, .slice none 0 0, .int .i64 0, .int .i64 0, .int .i64 0, .slice none 0 0, .int .i64 0, .int .i64 0, .int .i64 0, .slice none 0 0, .int .i64 0, .int .i64 0, .int .i64 0, .slice none 0 0, .int .i64 o0.1, .int .i64 o0.2.1, .int .i64 o0.2.2.1, .int .i64 o0.2.2.2.1, .int .i64 o0.2.2.2.2.1, .int .i64 o0.2.2.2.2.2.1, .int .i64 o0.2.2.2.2.2.2.1, .bool o0.2.2.2.2.2.2.2.1, .bool o0.2.2.2.2.2.2.2.2.1, .bool o0.2.2.2.2.2.2.2.2.2.1, .bool o0.2.2.2.2.2.2.2.2.2.2.1, .int .i64 o0.2.2.2.2.2.2.2.2.2.2.2.1, .int .i64 o0.2.2.2.2.2.2.2.2.2.2.2.2] :: hs) hl1 () (fun K1 s2 x2 o1 he1 hm1 hx1 => ?_)))
  unfold ref21_Base_Least.st1 at he1
  refine T.seq ?_
  refine T.seq ?_
  refine T.region ?_
  refine T.move .list rfl (wants0 rfl) rfl rfl ?_
  refine T.bin .list rfl (wants0 rfl) rfl rfl rfl rfl ?_
  refine T.nil ?_
  refine T.then_normal ?_
  refine T.cond rfl (fun hb1 => ?_) (fun hb1 => ?_)
  ·replace he1 := inv_posB hb1 he1
   refine T.skip ?_
   refine T.then_normal ?_
   refine T.seqJ (fun (s3 : Int × Bool) (x3 : Unit) => [(0, .pointer (some ⟨p0, 0, none⟩)), (4, .int .i64 s3.1), (5, .bool s3.2), (6, .int .i64 s2.2.2)]) (fun s3 x3 => Cl p0 50 [.slice none 0 0, .int .i64 0, .int .i64 0, .int .i64 0, .slice none 0 0, .int .i64 0, .int .i64 0, .int .i64 0, .slice none 0 0, .int .i64 0, .int .i64 0, .int .i64 0, .slice none 0 0, .int .i64 0, .int .i64 0, .int .i64 0, .slice none 0 0, .int .i64 0, .int .i64 0, .int .i64 0, .slice none 0 0, .int .i64 0, .int .i64 0, .int .i64 0, .slice none 0 0, .int .i64 0, .int .i64 0, .int .i64 0, .slice none 0 0, .int .i64 0, .int .i64 0, .int .i64 0, .slice none 0 0, .int .i64 o0.1, .int .i64 o0.2.1, .int .i64 o0.2.2.1, .int .i64 o0.2.2.2.1, .int .i64 o0.2.2.2.2.1, .int .i64 o0.2.2.2.2.2.1, .int .i64 o0.2.2.2.2.2.2.1, .bool o0.2.2.2.2.2.2.2.1, .bool o0.2.2.2.2.2.2.2.2.1, .bool o0.2.2.2.2.2.2.2.2.2.1, .bool o0.2.2.2.2.2.2.2.2.2.2.1, .int .i64 o0.2.2.2.2.2.2.2.2.2.2.2.1, .int .i64 o0.2.2.2.2.2.2.2.2.2.2.2.2] :: hs) (fun s3 => ref21_Base_Least.k2 s2 s3 = some o1) (fun s3 x3 hk2 => ?_) (fun J2 => ?_)
   ·unfold ref21_Base_Least.k2 at hk2
    refine T.region ?_
    refine T.move .list rfl (wants0 rfl) rfl rfl ?_
    refine T.bin .list rfl (wants0 rfl) rfl rfl rfl rfl ?_
    refine T.assign .list rfl (wants0 rfl) rfl rfl ?_
    refine T.nil ?_
    refine T.then_normal ?_
    obtain rfl := inv_some hk2
    exact T.le (EnvLe.cons rfl (EnvLe.cons rfl (EnvLe.cons rfl (EnvLe.cons rfl EnvLe.nil)))) (T.pick [0] 1 rfl rfl (Nat.le_add_left _ _) rfl (hm1 (s3.1, s3.2, IntKind.i64.wrap (s2.2.2 + 1)) rfl ()))
   ·refine T.block ?_
    refine T.seqJ (fun (s4 : Bool) (x4 : Unit) => [(0, .pointer (some ⟨p0, 0, none⟩)), (4, .int .i64 s2.1), (5, .bool s2.2.1), (6, .int .i64 s2.2.2), (30, .bool s4)]) (fun s4 x4 => Cl p0 50 [.slice none 0 0, .int .i64 0, .int .i64 0, .int .i64 0, .slice none 0 0, .int .i64 0, .int .i64 0, .int .i64 0, .slice none 0 0, .int .i64 0, .int .i64 0, .int .i64 0, .slice none 0 0, .int .i64 0, .int .i64 0, .int .i64 0, .slice none 0 0, .int .i64 0, .int .i64 0, .int .i64 0, .slice none 0 0, .int .i64 0, .int .i64 0, .int .i64 0, .slice none 0 0, .int .i64 0, .int .i64 0, .int .i64 0, .slice none 0 0, .int .i64 0, .int .i64 0, .int .i64 0, .slice none 0 0, .int .i64 o0.1, .int .i64 o0.2.1, .int .i64 o0.2.2.1, .int .i64 o0.2.2.2.1, .int .i64 o0.2.2.2.2.1, .int .i64 o0.2.2.2.2.2.1, .int .i64 o0.2.2.2.2.2.2.1, .bool o0.2.2.2.2.2.2.2.1, .bool o0.2.2.2.2.2.2.2.2.1, .bool o0.2.2.2.2.2.2.2.2.2.1, .bool o0.2.2.2.2.2.2.2.2.2.2.1, .int .i64 o0.2.2.2.2.2.2.2.2.2.2.2.1, .int .i64 o0.2.2.2.2.2.2.2.2.2.2.2.2] :: hs) (fun s4 => ref21_Base_Least.k3 s2 o0 s4 = some o1) (fun s4 x4 hk3 => ?_) (fun J3 => ?_)
    ·unfold ref21_Base_Least.k3 at hk3
     refine T.cond rfl (fun hb2 => ?_) (fun hb2 => ?_)
     ·replace hk3 := inv_posB hb2 hk3
      refine T.region ?_
      refine T.move .list rfl (wants0 rfl) rfl rfl ?_
      refine T.move .list rfl (wants0 rfl) rfl rfl ?_
      refine T.nilCheck .list rfl (wants0 rfl) rfl rfl ?_
      refine T.field .list rfl (wants0 rfl) rfl rfl ?_
      refine T.bool (b := (decide (s2.2.2 = 0))) (fun hb3 => ?_) (fun hb3 => ?_)
      ·replace hk3 := inv_posB hb3 hk3
       obtain ⟨hc1, hk3⟩ := inv_chk hk3
       refine T.idxArrC .list rfl (wants0 rfl) rfl rfl rfl hc1.1 hc1.2 (of_decide_eq_true hb3) rfl ?_
       refine T.load .list 0 rfl rfl (wants0 rfl) rfl rfl rfl ?_
       refine T.assign .list rfl (wants0 rfl) rfl rfl ?_
       refine T.assign .list rfl (wants0 rfl) rfl rfl ?_
       refine T.nil ?_
       refine T.in_normal ?_
       refine T.then_normal ?_
       exact T.le (EnvLe.cons rfl (EnvLe.cons rfl (EnvLe.cons rfl (EnvLe.cons rfl EnvLe.nil)))) (T.pick [0] 1 rfl rfl (Nat.le_add_left _ _) rfl (J2 (o0.2.2.2.1, true) () hk3))
      ·replace hk3 := inv_negB hb3 hk3
       refine T.bool (b := (decide (s2.2.2 = 1))) (fun hb4 => ?_) (fun hb4 => ?_)
       ·replace hk3 := inv_posB hb4 hk3
        obtain ⟨hc2, hk3⟩ := inv_chk hk3
        refine T.idxArrC .list rfl (wants0 rfl) rfl rfl rfl hc2.1 hc2.2 (of_decide_eq_true hb4) rfl ?_
        refine T.load .list 0 rfl rfl (wants0 rfl) rfl rfl rfl ?_
        refine T.assign .list rfl (wants0 rfl) rfl rfl ?_
        refine T.assign .list rfl (wants0 rfl) rfl rfl ?_
        refine T.nil ?_
        refine T.in_normal ?_
        refine T.then_normal ?_
        exact T.le (EnvLe.cons rfl (EnvLe.cons rfl (EnvLe.cons rfl (EnvLe.cons rfl EnvLe.nil)))) (T.pick [0] 1 rfl rfl (Nat.le_add_left _ _) rfl (J2 (o0.2.2.2.2.1, true) () hk3))
       ·replace hk3 := inv_negB hb4 hk3
        refine T.bool (b := (decide (s2.2.2 = 2))) (fun hb5 => ?_) (fun hb5 => ?_)
        ·replace hk3 := inv_posB hb5 hk3
         obtain ⟨hc3, hk3⟩ := inv_chk hk3
         refine T.idxArrC .list rfl (wants0 rfl) rfl rfl rfl hc3.1 hc3.2 (of_decide_eq_true hb5) rfl ?_
         refine T.load .list 0 rfl rfl (wants0 rfl) rfl rfl rfl ?_
         refine T.assign .list rfl (wants0 rfl) rfl rfl ?_
         refine T.assign .list rfl (wants0 rfl) rfl rfl ?_
         refine T.nil ?_
         refine T.in_normal ?_
         refine T.then_normal ?_
         exact T.le (EnvLe.cons rfl (EnvLe.cons rfl (EnvLe.cons rfl (EnvLe.cons rfl EnvLe.nil)))) (T.pick [0] 1 rfl rfl (Nat.le_add_left _ _) rfl (J2 (o0.2.2.2.2.2.1, true) () hk3))
        ·replace hk3 := inv_negB hb5 hk3
         refine T.bool (b := (decide (s2.2.2 = 3))) (fun hb6 => ?_) (fun hb6 => ?_)
         ·replace hk3 := inv_posB hb6 hk3
          obtain ⟨hc4, hk3⟩ := inv_chk hk3
          refine T.idxArrC .list rfl (wants0 rfl) rfl rfl rfl hc4.1 hc4.2 (of_decide_eq_true hb6) rfl ?_
          refine T.load .list 0 rfl rfl (wants0 rfl) rfl rfl rfl ?_
          refine T.assign .list rfl (wants0 rfl) rfl rfl ?_
          refine T.assign .list rfl (wants0 rfl) rfl rfl ?_
          refine T.nil ?_
          refine T.in_normal ?_
          refine T.then_normal ?_
          exact T.le (EnvLe.cons rfl (EnvLe.cons rfl (EnvLe.cons rfl (EnvLe.cons rfl EnvLe.nil)))) (T.pick [0] 1 rfl rfl (Nat.le_add_left _ _) rfl (J2 (o0.2.2.2.2.2.2.1, true) () hk3))
         ·replace hk3 := inv_negB hb6 hk3
          cases hk3
     ·replace hk3 := inv_negB hb2 hk3
      refine T.skip ?_
      refine T.in_normal ?_
      refine T.then_normal ?_
      exact T.le (EnvLe.cons rfl (EnvLe.cons rfl (EnvLe.cons rfl (EnvLe.cons rfl EnvLe.nil)))) (T.pick [0] 1 rfl rfl (Nat.le_add_left _ _) rfl (J2 (s2.1, s2.2.1) () hk3))
    ·refine T.region ?_
     refine T.move .list rfl (wants0 rfl) rfl rfl ?_
     refine T.move .list rfl (wants0 rfl) rfl rfl ?_
     refine T.nilCheck .list rfl (wants0 rfl) rfl rfl ?_
     refine T.field .list rfl (wants0 rfl) rfl rfl ?_
     refine T.bool (b := (decide (s2.2.2 = 0))) (fun hb7 => ?_) (fun hb7 => ?_)
     ·replace he1 := inv_posB hb7 he1
      obtain ⟨hc5, he1⟩ := inv_chk he1
      refine T.idxArrC .list rfl (wants0 rfl) rfl rfl rfl hc5.1 hc5.2 (of_decide_eq_true hb7) rfl ?_
      refine T.load .list 0 rfl rfl (wants0 rfl) rfl rfl rfl ?_
      refine T.move .list rfl (wants0 rfl) rfl rfl ?_
      refine T.bool (b := o0.2.2.2.2.2.2.2.1) (fun hb8 => ?_) (fun hb8 => ?_)
      ·replace he1 := inv_posB hb8 he1
       refine T.move .list rfl (wants1 rfl rfl rfl hb8) rfl rfl ?_
       refine T.not .list rfl (wants1 rfl rfl rfl hb8) rfl rfl ?_
       refine T.move .list rfl (wants1 rfl rfl rfl hb8) rfl rfl ?_
       refine T.bool (b := s2.2.1) (fun hb9 => ?_) (fun hb9 => ?_)
       ·replace he1 := inv_posB hb9 he1
        refine T.move .list rfl (wants1 rfl rfl rfl (not_t hb9)) rfl rfl ?_
        refine T.move .list rfl (wants1 rfl rfl rfl (not_t hb9)) rfl rfl ?_
        refine T.nilCheck .list rfl (wants1 rfl rfl rfl (not_t hb9)) rfl rfl ?_
        refine T.field .list rfl (wants1 rfl rfl rfl (not_t hb9)) rfl rfl ?_
        obtain ⟨hc6, he1⟩ := inv_chk he1
        refine T.idxArrC .list rfl (wants1 rfl rfl rfl (not_t hb9)) rfl rfl rfl hc6.1 hc6.2 (of_decide_eq_true hb7) rfl ?_
        refine T.load .list 0 rfl rfl (wants1 rfl rfl rfl (not_t hb9)) rfl rfl rfl ?_
        refine T.move .list rfl (wants1 rfl rfl rfl (not_t hb9)) rfl rfl ?_
        refine T.bin .list rfl (wants1 rfl rfl rfl (not_t hb9)) rfl rfl rfl rfl ?_
        refine T.pickF .list rfl (wants1 rfl rfl rfl hb8) rfl rfl (not_t hb9) rfl ?_
        refine T.pickT .list rfl (wants0 rfl) rfl rfl hb8 rfl ?_
        refine T.nil ?_
        refine T.then_normal ?_
        exact T.le (EnvLe.cons rfl (EnvLe.cons rfl (EnvLe.cons rfl (EnvLe.cons rfl (EnvLe.cons rfl EnvLe.nil))))) (T.pick [0] 1 rfl rfl (Nat.le_add_left _ _) rfl (J3 (decide (o0.2.2.2.1 < s2.1)) () he1))
       ·replace he1 := inv_negB hb9 he1
        refine T.leave .list (wantsNot rfl rfl rfl (not_f hb9)) rfl ?_
        refine T.leave .list (wantsNot rfl rfl rfl (not_f hb9)) rfl ?_
        refine T.leave .list (wantsNot rfl rfl rfl (not_f hb9)) rfl ?_
        refine T.leave .list (wantsNot rfl rfl rfl (not_f hb9)) rfl ?_
        refine T.leave .list (wantsNot rfl rfl rfl (not_f hb9)) rfl ?_
        refine T.leave .list (wantsNot rfl rfl rfl (not_f hb9)) rfl ?_
        refine T.leave .list (wantsNot rfl rfl rfl (not_f hb9)) rfl ?_
        refine T.leave .list (wantsNot rfl rfl rfl (not_f hb9)) rfl ?_
        refine T.pickT .list rfl (wants1 rfl rfl rfl hb8) rfl rfl (not_f hb9) rfl ?_
        refine T.pickT .list rfl (wants0 rfl) rfl rfl hb8 rfl ?_
        refine T.nil ?_
        refine T.then_normal ?_
        exact T.le (EnvLe.cons rfl (EnvLe.cons rfl (EnvLe.cons rfl (EnvLe.cons rfl (EnvLe.cons rfl EnvLe.nil))))) (T.pick [0] 1 rfl rfl (Nat.le_add_left _ _) rfl (J3 true () he1))
      ·replace he1 := inv_negB hb8 he1
       refine T.leave .list (wantsNot rfl rfl rfl hb8) rfl ?_
       refine T.leave .list (wantsNot rfl rfl rfl hb8) rfl ?_
       refine T.leave .list (wantsNot rfl rfl rfl hb8) rfl ?_
       refine T.leave .list (wantsUndef rfl rfl rfl) rfl ?_
       refine T.leave .list (wantsUndef rfl rfl rfl) rfl ?_
       refine T.leave .list (wantsUndef rfl rfl rfl) rfl ?_
       refine T.leave .list (wantsUndef rfl rfl rfl) rfl ?_
       refine T.leave .list (wantsUndef rfl rfl rfl) rfl ?_
       refine T.leave .list (wantsUndef rfl rfl rfl) rfl ?_
       refine T.leave .list (wantsUndef rfl rfl rfl) rfl ?_
       refine T.leave .list (wantsUndef rfl rfl rfl) rfl ?_
       refine T.leave .list (wantsNot rfl rfl rfl hb8) rfl ?_
       refine T.pickF .list rfl (wants0 rfl) rfl rfl hb8 rfl ?_
       refine T.nil ?_
       refine T.then_normal ?_
       exact T.le (EnvLe.cons rfl (EnvLe.cons rfl (EnvLe.cons rfl (EnvLe.cons rfl (EnvLe.cons rfl EnvLe.nil))))) (T.pick [0] 1 rfl rfl (Nat.le_add_left _ _) rfl (J3 false () he1))
     ·replace he1 := inv_negB hb7 he1
      refine T.bool (b := (decide (s2.2.2 = 1))) (fun hb10 => ?_) (fun hb10 => ?_)
      ·replace he1 := inv_posB hb10 he1
       obtain ⟨hc7, he1⟩ := inv_chk he1
       refine T.idxArrC .list rfl (wants0 rfl) rfl rfl rfl hc7.1 hc7.2 (of_decide_eq_true hb10) rfl ?_
       refine T.load .list 0 rfl rfl (wants0 rfl) rfl rfl rfl ?_
       refine T.move .list rfl (wants0 rfl) rfl rfl ?_
       refine T.bool (b := o0.2.2.2.2.2.2.2.2.1) (fun hb11 => ?_) (fun hb11 => ?_)
       ·replace he1 := inv_posB hb11 he1
        refine T.move .list rfl (wants1 rfl rfl rfl hb11) rfl rfl ?_
        refine T.not .list rfl (wants1 rfl rfl rfl hb11) rfl rfl ?_
        refine T.move .list rfl (wants1 rfl rfl rfl hb11) rfl rfl ?_
        refine T.bool (b := s2.2.1) (fun hb12 => ?_) (fun hb12 => ?_)
        ·replace he1 := inv_posB hb12 he1
         refine T.move .list rfl (wants1 rfl rfl rfl (not_t hb12)) rfl rfl ?_
         refine T.move .list rfl (wants1 rfl rfl rfl (not_t hb12)) rfl rfl ?_
         refine T.nilCheck .list rfl (wants1 rfl rfl rfl (not_t hb12)) rfl rfl ?_
         refine T.field .list rfl (wants1 rfl rfl rfl (not_t hb12)) rfl rfl ?_
         obtain ⟨hc8, he1⟩ := inv_chk he1
         refine T.idxArrC .list rfl (wants1 rfl rfl rfl (not_t hb12)) rfl rfl rfl hc8.1 hc8.2 (of_decide_eq_true hb10) rfl ?_
         refine T.load .list 0 rfl rfl (wants1 rfl rfl rfl (not_t hb12)) rfl rfl rfl ?_
         refine T.move .list rfl (wants1 rfl rfl rfl (not_t hb12)) rfl rfl ?_
         refine T.bin .list rfl (wants1 rfl rfl rfl (not_t hb12)) rfl rfl rfl rfl ?_
         refine T.pickF .list rfl (wants1 rfl rfl rfl hb11) rfl rfl (not_t hb12) rfl ?_
         refine T.pickT .list rfl (wants0 rfl) rfl rfl hb11 rfl ?_
         refine T.nil ?_
         refine T.then_normal ?_
         exact T.le (EnvLe.cons rfl (EnvLe.cons rfl (EnvLe.cons rfl (EnvLe.cons rfl (EnvLe.cons rfl EnvLe.nil))))) (T.pick [0] 1 rfl rfl (Nat.le_add_left _ _) rfl (J3 (decide (o0.2.2.2.2.1 < s2.1)) () he1))
        ·replace he1 := inv_negB hb12 he1
         refine T.leave .list (wantsNot rfl rfl rfl (not_f hb12)) rfl ?_
         refine T.leave .list (wantsNot rfl rfl rfl (not_f hb12)) rfl ?_
         refine T.leave .list (wantsNot rfl rfl rfl (not_f hb12)) rfl ?_
         refine T.leave .list (wantsNot rfl rfl rfl (not_f hb12)) rfl ?_
         refine T.leave .list (wantsNot rfl rfl rfl (not_f hb12)) rfl ?_
         refine T.leave .list (wantsNot rfl rfl rfl (not_f hb12)) rfl ?_
         refine T.leave .list (wantsNot rfl rfl rfl (not_f hb12)) rfl ?_
         refine T.leave .list (wantsNot rfl rfl rfl (not_f hb12)) rfl ?_
         refine T.pickT .list rfl (wants1 rfl rfl rfl hb11) rfl rfl (not_f hb12) rfl ?_
         refine T.pickT .list rfl (wants0 rfl) rfl rfl hb11 rfl ?_
         refine T.nil ?_
         refine T.then_normal ?_
         exact T.le (EnvLe.cons rfl (EnvLe.cons rfl (EnvLe.cons rfl (EnvLe.cons rfl (EnvLe.cons rfl EnvLe.nil))))) (T.pick [0] 1 rfl rfl (Nat.le_add_left _ _) rfl (J3 true () he1))
       ·replace he1 := inv_negB hb11 he1
        refine T.leave .list (wantsNot rfl rfl rfl hb11) rfl ?_
        refine T.leave .list (wantsNot rfl rfl rfl hb11) rfl ?_
        refine T.leave .list (wantsNot rfl rfl rfl hb11) rfl ?_
        refine T.leave .list (wantsUndef rfl rfl rfl) rfl ?_
        refine T.leave .list (wantsUndef rfl rfl rfl) rfl ?_
        refine T.leave .list (wantsUndef rfl rfl rfl) rfl ?_
        refine T.leave .list (wantsUndef rfl rfl rfl) rfl ?_
        refine T.leave .list (wantsUndef rfl rfl rfl) rfl ?_
        refine T.leave .list (wantsUndef rfl rfl rfl) rfl ?_
        refine T.leave .list (wantsUndef rfl rfl rfl) rfl ?_
        refine T.leave .list (wantsUndef rfl rfl rfl) rfl ?_
        refine T.leave .list (wantsNot rfl rfl rfl hb11) rfl ?_
        refine T.pickF .list rfl (wants0 rfl) rfl rfl hb11 rfl ?_
        refine T.nil ?_
        refine T.then_normal ?_
        exact T.le (EnvLe.cons rfl (EnvLe.cons rfl (EnvLe.cons rfl (EnvLe.cons rfl (EnvLe.cons rfl EnvLe.nil))))) (T.pick [0] 1 rfl rfl (Nat.le_add_left _ _) rfl (J3 false () he1))
      ·replace he1 := inv_negB hb10 he1
       refine T.bool (b := (decide (s2.2.2 = 2))) (fun hb13 => ?_) (fun hb13 => ?_)
       ·replace he1 := inv_posB hb13 he1
        obtain ⟨hc9, he1⟩ := inv_chk he1
        refine T.idxArrC .list rfl (wants0 rfl) rfl rfl rfl hc9.1 hc9.2 (of_decide_eq_true hb13) rfl ?_
        refine T.load .list 0 rfl rfl (wants0 rfl) rfl rfl rfl ?_
        refine T.move .list rfl (wants0 rfl) rfl rfl ?_
        refine T.bool (b := o0.2.2.2.2.2.2.2.2.2.1) (fun hb14 => ?_) (fun hb14 => ?_)
        ·replace he1 := inv_posB hb14 he1
         refine T.move .list rfl (wants1 rfl rfl rfl hb14) rfl rfl ?_
         refine T.not .list rfl (wants1 rfl rfl rfl hb14) rfl rfl ?_
         refine T.move .list rfl (wants1 rfl rfl rfl hb14) rfl rfl ?_
         refine T.bool (b := s2.2.1) (fun hb15 => ?_) (fun hb15 => ?_)
         ·replace he1 := inv_posB hb15 he1
          refine T.move .list rfl (wants1 rfl rfl rfl (not_t hb15)) rfl rfl ?_
          refine T.move .list rfl (wants1 rfl rfl rfl (not_t hb15)) rfl rfl ?_
          refine T.nilCheck .list rfl (wants1 rfl rfl rfl (not_t hb15)) rfl rfl ?_
          refine T.field .list rfl (wants1 rfl rfl rfl (not_t hb15)) rfl rfl ?_
          obtain ⟨hc10, he1⟩ := inv_chk he1
          refine T.idxArrC .list rfl (wants1 rfl rfl rfl (not_t hb15)) rfl rfl rfl hc10.1 hc10.2 (of_decide_eq_true hb13) rfl ?_
          refine T.load .list 0 rfl rfl (wants1 rfl rfl rfl (not_t hb15)) rfl rfl rfl ?_
          refine T.move .list rfl (wants1 rfl rfl rfl (not_t hb15)) rfl rfl ?_
          refine T.bin .list rfl (wants1 rfl rfl rfl (not_t hb15)) rfl rfl rfl rfl ?_
          refine T.pickF .list rfl (wants1 rfl rfl rfl hb14) rfl rfl (not_t hb15) rfl ?_
          refine T.pickT .list rfl (wants0 rfl) rfl rfl hb14 rfl ?_
          refine T.nil ?_
          refine T.then_normal ?_
          exact T.le (EnvLe.cons rfl (EnvLe.cons rfl (EnvLe.cons rfl (EnvLe.cons rfl (EnvLe.cons rfl EnvLe.nil))))) (T.pick [0] 1 rfl rfl (Nat.le_add_left _ _) rfl (J3 (decide (o0.2.2.2.2.2.1 < s2.1)) () he1))
         ·replace he1 := inv_negB hb15 he1
          refine T.leave .list (wantsNot rfl rfl rfl (not_f hb15)) rfl ?_
          refine T.leave .list (wantsNot rfl rfl rfl (not_f hb15)) rfl ?_
          refine T.leave .list (wantsNot rfl rfl rfl (not_f hb15)) rfl ?_
          refine T.leave .list (wantsNot rfl rfl rfl (not_f hb15)) rfl ?_
          refine T.leave .list (wantsNot rfl rfl rfl (not_f hb15)) rfl ?_
          refine T.leave .list (wantsNot rfl rfl rfl (not_f hb15)) rfl ?_
          refine T.leave .list (wantsNot rfl rfl rfl (not_f hb15)) rfl ?_
          refine T.leave .list (wantsNot rfl rfl rfl (not_f hb15)) rfl ?_
          refine T.pickT .list rfl (wants1 rfl rfl rfl hb14) rfl rfl (not_f hb15) rfl ?_
          refine T.pickT .list rfl (wants0 rfl) rfl rfl hb14 rfl ?_
          refine T.nil ?_
          refine T.then_normal ?_
          exact T.le (EnvLe.cons rfl (EnvLe.cons rfl (EnvLe.cons rfl (EnvLe.cons rfl (EnvLe.cons rfl EnvLe.nil))))) (T.pick [0] 1 rfl rfl (Nat.le_add_left _ _) rfl (J3 true () he1))
        ·replace he1 := inv_negB hb14 he1
         refine T.leave .list (wantsNot rfl rfl rfl hb14) rfl ?_
         refine T.leave .list (wantsNot rfl rfl rfl hb14) rfl ?_
         refine T.leave .list (wantsNot rfl rfl rfl hb14) rfl ?_
         refine T.leave .list (wantsUndef rfl rfl rfl) rfl ?_
         refine T.leave .list (wantsUndef rfl rfl rfl) rfl ?_
         refine T.leave .list (wantsUndef rfl rfl rfl) rfl ?_
         refine T.leave .list (wantsUndef rfl rfl rfl) rfl ?_
         refine T.leave .list (wantsUndef rfl rfl rfl) rfl ?_
         refine T.leave .list (wantsUndef rfl rfl rfl) rfl ?_
         refine T.leave .list (wantsUndef rfl rfl rfl) rfl ?_
         refine T.leave .list (wantsUndef rfl rfl rfl) rfl ?_
         refine T.leave .list (wantsNot rfl rfl rfl hb14) rfl ?_
         refine T.pickF .list rfl (wants0 rfl) rfl rfl hb14 rfl ?_
         refine T.nil ?_
         refine T.then_normal ?_
         exact T.le (EnvLe.cons rfl (EnvLe.cons rfl (EnvLe.cons rfl (EnvLe.cons rfl (EnvLe.cons rfl EnvLe.nil))))) (T.pick [0] 1 rfl rfl (Nat.le_add_left _ _) rfl (J3 false () he1))
       ·replace he1 := inv_negB hb13 he1
        refine T.bool (b := (decide (s2.2.2 = 3))) (fun hb16 => ?_) (fun hb16 => ?_)
        ·replace he1 := inv_posB hb16 he1
         obtain ⟨hc11, he1⟩ := inv_chk he1
         refine T.idxArrC .list rfl (wants0 rfl) rfl rfl rfl hc11.1 hc11.2 (of_decide_eq_true hb16) rfl ?_
         refine T.load .list 0 rfl rfl (wants0 rfl) rfl rfl rfl ?_
         refine T.move .list rfl (wants0 rfl) rfl rfl ?_
         refine T.bool (b := o0.2.2.2.2.2.2.2.2.2.2.1) (fun hb17 => ?_) (fun hb17 => ?_)
         ·replace he1 := inv_posB hb17 he1
          refine T.move .list rfl (wants1 rfl rfl rfl hb17) rfl rfl ?_
          refine T.not .list rfl (wants1 rfl rfl rfl hb17) rfl rfl ?_
          refine T.move .list rfl (wants1 rfl rfl rfl hb17) rfl rfl ?_
          refine T.bool (b := s2.2.1) (fun hb18 => ?_) (fun hb18 => ?_)
          ·replace he1 := inv_posB hb18 he1
           refine T.move .list rfl (wants1 rfl rfl rfl (not_t hb18)) rfl rfl ?_
           refine T.move .list rfl (wants1 rfl rfl rfl (not_t hb18)) rfl rfl ?_
           refine T.nilCheck .list rfl (wants1 rfl rfl rfl (not_t hb18)) rfl rfl ?_
           refine T.field .list rfl (wants1 rfl rfl rfl (not_t hb18)) rfl rfl ?_
           obtain ⟨hc12, he1⟩ := inv_chk he1
           refine T.idxArrC .list rfl (wants1 rfl rfl rfl (not_t hb18)) rfl rfl rfl hc12.1 hc12.2 (of_decide_eq_true hb16) rfl ?_
           refine T.load .list 0 rfl rfl (wants1 rfl rfl rfl (not_t hb18)) rfl rfl rfl ?_
           refine T.move .list rfl (wants1 rfl rfl rfl (not_t hb18)) rfl rfl ?_
           refine T.bin .list rfl (wants1 rfl rfl rfl (not_t hb18)) rfl rfl rfl rfl ?_
           refine T.pickF .list rfl (wants1 rfl rfl rfl hb17) rfl rfl (not_t hb18) rfl ?_
           refine T.pickT .list rfl (wants0 rfl) rfl rfl hb17 rfl ?_
           refine T.nil ?_
           refine T.then_normal ?_
           exact T.le (EnvLe.cons rfl (EnvLe.cons rfl (EnvLe.cons rfl (EnvLe.cons rfl (EnvLe.cons rfl EnvLe.nil))))) (T.pick [0] 1 rfl rfl (Nat.le_add_left _ _) rfl (J3 (decide (o0.2.2.2.2.2.2.1 < s2.1)) () he1))
          ·replace he1 := inv_negB hb18 he1
           refine T.leave .list (wantsNot rfl rfl rfl (not_f hb18)) rfl ?_
           refine T.leave .list (wantsNot rfl rfl rfl (not_f hb18)) rfl ?_
           refine T.leave .list (wantsNot rfl rfl rfl (not_f hb18)) rfl ?_
           refine T.leave .list (wantsNot rfl rfl rfl (not_f hb18)) rfl ?_
           refine T.leave .list (wantsNot rfl rfl rfl (not_f hb18)) rfl ?_
           refine T.leave .list (wantsNot rfl rfl rfl (not_f hb18)) rfl ?_
           refine T.leave .list (wantsNot rfl rfl rfl (not_f hb18)) rfl ?_
           refine T.leave .list (wantsNot rfl rfl rfl (not_f hb18)) rfl ?_
           refine T.pickT .list rfl (wants1 rfl rfl rfl hb17) rfl rfl (not_f hb18) rfl ?_
           refine T.pickT .list rfl (wants0 rfl) rfl rfl hb17 rfl ?_
           refine T.nil ?_
           refine T.then_normal ?_
           exact T.le (EnvLe.cons rfl (EnvLe.cons rfl (EnvLe.cons rfl (EnvLe.cons rfl (EnvLe.cons rfl EnvLe.nil))))) (T.pick [0] 1 rfl rfl (Nat.le_add_left _ _) rfl (J3 true () he1))
         ·replace he1 := inv_negB hb17 he1
          refine T.leave .list (wantsNot rfl rfl rfl hb17) rfl ?_
          refine T.leave .list (wantsNot rfl rfl rfl hb17) rfl ?_
          refine T.leave .list (wantsNot rfl rfl rfl hb17) rfl ?_
          refine T.leave .list (wantsUndef rfl rfl rfl) rfl ?_
          refine T.leave .list (wantsUndef rfl rfl rfl) rfl ?_
          refine T.leave .list (wantsUndef rfl rfl rfl) rfl ?_
          refine T.leave .list (wantsUndef rfl rfl rfl) rfl ?_
          refine T.leave .list (wantsUndef rfl rfl rfl) rfl ?_
          refine T.leave .list (wantsUndef rfl rfl rfl) rfl ?_
          refine T.leave .list (wantsUndef rfl rfl rfl) rfl ?_
          refine T.leave .list (wantsUndef rfl rfl rfl) rfl ?_
          refine T.leave .list (wantsNot rfl rfl rfl hb17) rfl ?_
          refine T.pickF .list rfl (wants0 rfl) rfl rfl hb17 rfl ?_
          refine T.nil ?_
          refine T.then_normal ?_
          exact T.le (EnvLe.cons rfl (EnvLe.cons rfl (EnvLe.cons rfl (EnvLe.cons rfl (EnvLe.cons rfl EnvLe.nil))))) (T.pick [0] 1 rfl rfl (Nat.le_add_left _ _) rfl (J3 false () he1))
        ·replace he1 := inv_negB hb16 he1
         cases he1
  ·replace he1 := inv_negB hb1 he1
   refine T.exit ?_
   refine T.then_exit ?_
   refine T.then_exit ?_
   obtain rfl := inv_some he1
   obtain rfl := hx1 _ rfl
   refine T.in_hit ?_
   refine T.then_normal ?_
   exact T.le (EnvLe.cons rfl (EnvLe.cons rfl EnvLe.nil)) (T.pick [0] 1 rfl rfl (Nat.le_add_left _ _) rfl (J1 (s2.1, s2.2.1) () hr))

noncomputable def law20_ViewPlays.k1 (s1 : Unit) : Option Bool :=
  (law20_told.impl ).bind fun r3 => some r3
noncomputable def law20_ViewPlays.k5 (s5 : (List ((Int × (List UInt8) × (List UInt8)) × Bool)) × Int × Int × Int × Int × Int × Int × Int × Bool × Bool × Bool × Bool × Int × Int) (s2 : (List ((Int × (List UInt8) × (List UInt8)) × Bool)) × Int × Int × Int × Int × Int × Int × Int × Bool × Bool × Bool × Bool × Int × Int × Int) (s6 : Bool) : Option (((List ((Int × (List UInt8) × (List UInt8)) × Bool)) × Int × Int × Int × Int × Int × Int × Int × Bool × Bool × Bool × Bool × Int × Int × Int) ⊕ (Bool ⊕ Unit)) :=
  (if s6 = true then some (.inr (.inl false)) else some (.inl (s5.1, s5.2.1, s5.2.2.1, s5.2.2.2.1, s5.2.2.2.2.1, s5.2.2.2.2.2.1, s5.2.2.2.2.2.2.1, s5.2.2.2.2.2.2.2.1, s5.2.2.2.2.2.2.2.2.1, s5.2.2.2.2.2.2.2.2.2.1, s5.2.2.2.2.2.2.2.2.2.2.1, s5.2.2.2.2.2.2.2.2.2.2.2.1, s5.2.2.2.2.2.2.2.2.2.2.2.2.1, s5.2.2.2.2.2.2.2.2.2.2.2.2.2, IntKind.i64.wrap (s2.2.2.2.2.2.2.2.2.2.2.2.2.2.2 + 1))))
noncomputable def law20_ViewPlays.k4 (r1p0 : Unit × (Int × Int × Int × Int × Int × Int × Int × Int × Int × Int × Int × Int × Int × Int × Int × Int × Int) × (Int × Int × Int × Int) × (Int × Int × Int × Int) × (List (Int × Int)) × (Int × Bool × Int × Int × Int × Int × Int) × (List (Int × (List UInt8))) × (List (Int × (List UInt8))) × (List (Int × Int)) × (List (Int × Int)) × (List ((Int × (List UInt8) × (List UInt8)) × Bool))) (s2 : (List ((Int × (List UInt8) × (List UInt8)) × Bool)) × Int × Int × Int × Int × Int × Int × Int × Bool × Bool × Bool × Bool × Int × Int × Int) (s5 : (List ((Int × (List UInt8) × (List UInt8)) × Bool)) × Int × Int × Int × Int × Int × Int × Int × Bool × Bool × Bool × Bool × Int × Int) : Option (((List ((Int × (List UInt8) × (List UInt8)) × Bool)) × Int × Int × Int × Int × Int × Int × Int × Bool × Bool × Bool × Bool × Int × Int × Int) ⊕ (Bool ⊕ Unit)) :=
  (view_Least.impl ((r1p0.2.1.1, r1p0.2.1.2.1, r1p0.2.1.2.2.1, r1p0.2.1.2.2.2.1, r1p0.2.1.2.2.2.2.1, r1p0.2.1.2.2.2.2.2.1, r1p0.2.1.2.2.2.2.2.2.1, r1p0.2.1.2.2.2.2.2.2.2.1, r1p0.2.1.2.2.2.2.2.2.2.2.1, r1p0.2.1.2.2.2.2.2.2.2.2.2.1, r1p0.2.1.2.2.2.2.2.2.2.2.2.2.1, r1p0.2.1.2.2.2.2.2.2.2.2.2.2.2.1, r1p0.2.1.2.2.2.2.2.2.2.2.2.2.2.2.1, r1p0.2.1.2.2.2.2.2.2.2.2.2.2.2.2.2.1, r1p0.2.1.2.2.2.2.2.2.2.2.2.2.2.2.2.2.1, r1p0.2.1.2.2.2.2.2.2.2.2.2.2.2.2.2.2.2.1, r1p0.2.1.2.2.2.2.2.2.2.2.2.2.2.2.2.2.2.2)) ((r1p0.2.2.1.1, r1p0.2.2.1.2.1, r1p0.2.2.1.2.2.1, r1p0.2.2.1.2.2.2)) ((r1p0.2.2.2.1.1, r1p0.2.2.2.1.2.1, r1p0.2.2.2.1.2.2.1, r1p0.2.2.2.1.2.2.2)) r1p0.2.2.2.2.1 ((r1p0.2.2.2.2.2.1.1, r1p0.2.2.2.2.2.1.2.1, r1p0.2.2.2.2.2.1.2.2.1, r1p0.2.2.2.2.2.1.2.2.2.1, r1p0.2.2.2.2.2.1.2.2.2.2.1, r1p0.2.2.2.2.2.1.2.2.2.2.2.1, r1p0.2.2.2.2.2.1.2.2.2.2.2.2)) r1p0.2.2.2.2.2.2.1 r1p0.2.2.2.2.2.2.2.1 r1p0.2.2.2.2.2.2.2.2.1 r1p0.2.2.2.2.2.2.2.2.2.1 s5.1).bind fun r4 => (ref21_Base_Least.impl ((s5.2.1, s5.2.2.1, s5.2.2.2.1, s5.2.2.2.2.1, s5.2.2.2.2.2.1, s5.2.2.2.2.2.2.1, s5.2.2.2.2.2.2.2.1, s5.2.2.2.2.2.2.2.2.1, s5.2.2.2.2.2.2.2.2.2.1, s5.2.2.2.2.2.2.2.2.2.2.1, s5.2.2.2.2.2.2.2.2.2.2.2.1, s5.2.2.2.2.2.2.2.2.2.2.2.2.1, s5.2.2.2.2.2.2.2.2.2.2.2.2.2))).bind fun r5 => (view_Version.impl ((r1p0.2.1.1, r1p0.2.1.2.1, r1p0.2.1.2.2.1, r1p0.2.1.2.2.2.1, r1p0.2.1.2.2.2.2.1, r1p0.2.1.2.2.2.2.2.1, r1p0.2.1.2.2.2.2.2.2.1, r1p0.2.1.2.2.2.2.2.2.2.1, r1p0.2.1.2.2.2.2.2.2.2.2.1, r1p0.2.1.2.2.2.2.2.2.2.2.2.1, r1p0.2.1.2.2.2.2.2.2.2.2.2.2.1, r1p0.2.1.2.2.2.2.2.2.2.2.2.2.2.1, r1p0.2.1.2.2.2.2.2.2.2.2.2.2.2.2.1, r1p0.2.1.2.2.2.2.2.2.2.2.2.2.2.2.2.1, r1p0.2.1.2.2.2.2.2.2.2.2.2.2.2.2.2.2.1, r1p0.2.1.2.2.2.2.2.2.2.2.2.2.2.2.2.2.2.1, r1p0.2.1.2.2.2.2.2.2.2.2.2.2.2.2.2.2.2.2)) ((r1p0.2.2.1.1, r1p0.2.2.1.2.1, r1p0.2.2.1.2.2.1, r1p0.2.2.1.2.2.2)) ((r1p0.2.2.2.1.1, r1p0.2.2.2.1.2.1, r1p0.2.2.2.1.2.2.1, r1p0.2.2.2.1.2.2.2)) r1p0.2.2.2.2.1 ((r1p0.2.2.2.2.2.1.1, r1p0.2.2.2.2.2.1.2.1, r1p0.2.2.2.2.2.1.2.2.1, r1p0.2.2.2.2.2.1.2.2.2.1, r1p0.2.2.2.2.2.1.2.2.2.2.1, r1p0.2.2.2.2.2.1.2.2.2.2.2.1, r1p0.2.2.2.2.2.1.2.2.2.2.2.2)) r1p0.2.2.2.2.2.2.1 r1p0.2.2.2.2.2.2.2.1 r1p0.2.2.2.2.2.2.2.2.1 r1p0.2.2.2.2.2.2.2.2.2.1 s5.1).bind fun r6 => (if ((decide (r4.2.2 = 0))) = true then (if ((decide (r4.1 = r5.1))) = true then (if ((decide (r4.2.1 = r5.2))) = true then (if ((decide (r6.2 = 0))) = true then law20_ViewPlays.k5 s5 s2 (!(decide (r6.1 = s5.2.2.2.2.2.2.2.2.2.2.2.2.1))) else law20_ViewPlays.k5 s5 s2 true) else law20_ViewPlays.k5 s5 s2 true) else law20_ViewPlays.k5 s5 s2 true) else law20_ViewPlays.k5 s5 s2 true)
noncomputable def law20_ViewPlays.k6 (r7 : Int × (List ((Int × (List UInt8) × (List UInt8)) × Bool))) (r1p0 : Unit × (Int × Int × Int × Int × Int × Int × Int × Int × Int × Int × Int × Int × Int × Int × Int × Int × Int) × (Int × Int × Int × Int) × (Int × Int × Int × Int) × (List (Int × Int)) × (Int × Bool × Int × Int × Int × Int × Int) × (List (Int × (List UInt8))) × (List (Int × (List UInt8))) × (List (Int × Int)) × (List (Int × Int)) × (List ((Int × (List UInt8) × (List UInt8)) × Bool))) (s2 : (List ((Int × (List UInt8) × (List UInt8)) × Bool)) × Int × Int × Int × Int × Int × Int × Int × Bool × Bool × Bool × Bool × Int × Int × Int) (l0 : List (Int × Int × Int)) (s7 : Bool) : Option (((List ((Int × (List UInt8) × (List UInt8)) × Bool)) × Int × Int × Int × Int × Int × Int × Int × Bool × Bool × Bool × Bool × Int × Int × Int) ⊕ (Bool ⊕ Unit)) :=
  (if s7 = true then (if ((!(decide (r7.1 = 1)))) = true then some (.inr (.inl false)) else law20_ViewPlays.k4 r1p0 s2 (r7.2, s2.2.1, s2.2.2.1, s2.2.2.2.1, s2.2.2.2.2.1, s2.2.2.2.2.2.1, s2.2.2.2.2.2.2.1, s2.2.2.2.2.2.2.2.1, s2.2.2.2.2.2.2.2.2.1, s2.2.2.2.2.2.2.2.2.2.1, s2.2.2.2.2.2.2.2.2.2.2.1, s2.2.2.2.2.2.2.2.2.2.2.2.1, s2.2.2.2.2.2.2.2.2.2.2.2.2.1, s2.2.2.2.2.2.2.2.2.2.2.2.2.2.1)) else (ref21_Base_Note.impl ((s2.2.1, s2.2.2.1, s2.2.2.2.1, s2.2.2.2.2.1, s2.2.2.2.2.2.1, s2.2.2.2.2.2.2.1, s2.2.2.2.2.2.2.2.1, s2.2.2.2.2.2.2.2.2.1, s2.2.2.2.2.2.2.2.2.2.1, s2.2.2.2.2.2.2.2.2.2.2.1, s2.2.2.2.2.2.2.2.2.2.2.2.1, s2.2.2.2.2.2.2.2.2.2.2.2.2.1, s2.2.2.2.2.2.2.2.2.2.2.2.2.2.1)) (((((l0).getD (s2.2.2.2.2.2.2.2.2.2.2.2.2.2.2 : Int).toNat default)).2.1)) (((((l0).getD (s2.2.2.2.2.2.2.2.2.2.2.2.2.2.2 : Int).toNat default)).2.2))).bind fun r8 => (if ((!(decide (r7.1 = 0)))) = true then some (.inr (.inl false)) else law20_ViewPlays.k4 r1p0 s2 (r7.2, r8.1, r8.2.1, r8.2.2.1, r8.2.2.2.1, r8.2.2.2.2.1, r8.2.2.2.2.2.1, r8.2.2.2.2.2.2.1, r8.2.2.2.2.2.2.2.1, r8.2.2.2.2.2.2.2.2.1, r8.2.2.2.2.2.2.2.2.2.1, r8.2.2.2.2.2.2.2.2.2.2.1, r8.2.2.2.2.2.2.2.2.2.2.2.1, r8.2.2.2.2.2.2.2.2.2.2.2.2)))
noncomputable def law20_ViewPlays.k7 (r1p0 : Unit × (Int × Int × Int × Int × Int × Int × Int × Int × Int × Int × Int × Int × Int × Int × Int × Int × Int) × (Int × Int × Int × Int) × (Int × Int × Int × Int) × (List (Int × Int)) × (Int × Bool × Int × Int × Int × Int × Int) × (List (Int × (List UInt8))) × (List (Int × (List UInt8))) × (List (Int × Int)) × (List (Int × Int)) × (List ((Int × (List UInt8) × (List UInt8)) × Bool))) (s2 : (List ((Int × (List UInt8) × (List UInt8)) × Bool)) × Int × Int × Int × Int × Int × Int × Int × Bool × Bool × Bool × Bool × Int × Int × Int) (s8 : Bool) : Option (((List ((Int × (List UInt8) × (List UInt8)) × Bool)) × Int × Int × Int × Int × Int × Int × Int × Bool × Bool × Bool × Bool × Int × Int × Int) ⊕ (Bool ⊕ Unit)) :=
  (if s8 = true then some (.inr (.inl false)) else law20_ViewPlays.k4 r1p0 s2 (s2.1, s2.2.1, s2.2.2.1, s2.2.2.2.1, s2.2.2.2.2.1, s2.2.2.2.2.2.1, s2.2.2.2.2.2.2.1, s2.2.2.2.2.2.2.2.1, s2.2.2.2.2.2.2.2.2.1, s2.2.2.2.2.2.2.2.2.2.1, s2.2.2.2.2.2.2.2.2.2.2.1, s2.2.2.2.2.2.2.2.2.2.2.2.1, s2.2.2.2.2.2.2.2.2.2.2.2.2.1, s2.2.2.2.2.2.2.2.2.2.2.2.2.2.1))
noncomputable def law20_ViewPlays.k8 (r1p0 : Unit × (Int × Int × Int × Int × Int × Int × Int × Int × Int × Int × Int × Int × Int × Int × Int × Int × Int) × (Int × Int × Int × Int) × (Int × Int × Int × Int) × (List (Int × Int)) × (Int × Bool × Int × Int × Int × Int × Int) × (List (Int × (List UInt8))) × (List (Int × (List UInt8))) × (List (Int × Int)) × (List (Int × Int)) × (List ((Int × (List UInt8) × (List UInt8)) × Bool))) (s2 : (List ((Int × (List UInt8) × (List UInt8)) × Bool)) × Int × Int × Int × Int × Int × Int × Int × Bool × Bool × Bool × Bool × Int × Int × Int) (r11 : Bool × Int × (List ((Int × (List UInt8) × (List UInt8)) × Bool))) (s9 : Int × Int × Int × Int × Int × Int × Int × Bool × Bool × Bool × Bool × Int × Int × Bool) : Option (((List ((Int × (List UInt8) × (List UInt8)) × Bool)) × Int × Int × Int × Int × Int × Int × Int × Bool × Bool × Bool × Bool × Int × Int × Int) ⊕ (Bool ⊕ Unit)) :=
  (if s9.2.2.2.2.2.2.2.2.2.2.2.2.2 = true then some (.inr (.inl false)) else law20_ViewPlays.k4 r1p0 s2 (r11.2.2, s9.1, s9.2.1, s9.2.2.1, s9.2.2.2.1, s9.2.2.2.2.1, s9.2.2.2.2.2.1, s9.2.2.2.2.2.2.1, s9.2.2.2.2.2.2.2.1, s9.2.2.2.2.2.2.2.2.1, s9.2.2.2.2.2.2.2.2.2.1, s9.2.2.2.2.2.2.2.2.2.2.1, s9.2.2.2.2.2.2.2.2.2.2.2.1, s9.2.2.2.2.2.2.2.2.2.2.2.2.1))
noncomputable def law20_ViewPlays.k3 (l0 : List (Int × Int × Int)) (s2 : (List ((Int × (List UInt8) × (List UInt8)) × Bool)) × Int × Int × Int × Int × Int × Int × Int × Bool × Bool × Bool × Bool × Int × Int × Int) (r1p0 : Unit × (Int × Int × Int × Int × Int × Int × Int × Int × Int × Int × Int × Int × Int × Int × Int × Int × Int) × (Int × Int × Int × Int) × (Int × Int × Int × Int) × (List (Int × Int)) × (Int × Bool × Int × Int × Int × Int × Int) × (List (Int × (List UInt8))) × (List (Int × (List UInt8))) × (List (Int × Int)) × (List (Int × Int)) × (List ((Int × (List UInt8) × (List UInt8)) × Bool))) (s4 : Bool) : Option (((List ((Int × (List UInt8) × (List UInt8)) × Bool)) × Int × Int × Int × Int × Int × Int × Int × Bool × Bool × Bool × Bool × Int × Int × Int) ⊕ (Bool ⊕ Unit)) :=
  (if ((decide (((((((l0).getD (s2.2.2.2.2.2.2.2.2.2.2.2.2.2.2 : Int).toNat default)).1))) = 0))) = true then (view_Note.impl ((r1p0.2.1.1, r1p0.2.1.2.1, r1p0.2.1.2.2.1, r1p0.2.1.2.2.2.1, r1p0.2.1.2.2.2.2.1, r1p0.2.1.2.2.2.2.2.1, r1p0.2.1.2.2.2.2.2.2.1, r1p0.2.1.2.2.2.2.2.2.2.1, r1p0.2.1.2.2.2.2.2.2.2.2.1, r1p0.2.1.2.2.2.2.2.2.2.2.2.1, r1p0.2.1.2.2.2.2.2.2.2.2.2.2.1, r1p0.2.1.2.2.2.2.2.2.2.2.2.2.2.1, r1p0.2.1.2.2.2.2.2.2.2.2.2.2.2.2.1, r1p0.2.1.2.2.2.2.2.2.2.2.2.2.2.2.2.1, r1p0.2.1.2.2.2.2.2.2.2.2.2.2.2.2.2.2.1, r1p0.2.1.2.2.2.2.2.2.2.2.2.2.2.2.2.2.2.1, r1p0.2.1.2.2.2.2.2.2.2.2.2.2.2.2.2.2.2.2)) ((r1p0.2.2.1.1, r1p0.2.2.1.2.1, r1p0.2.2.1.2.2.1, r1p0.2.2.1.2.2.2)) ((r1p0.2.2.2.1.1, r1p0.2.2.2.1.2.1, r1p0.2.2.2.1.2.2.1, r1p0.2.2.2.1.2.2.2)) r1p0.2.2.2.2.1 ((r1p0.2.2.2.2.2.1.1, r1p0.2.2.2.2.2.1.2.1, r1p0.2.2.2.2.2.1.2.2.1, r1p0.2.2.2.2.2.1.2.2.2.1, r1p0.2.2.2.2.2.1.2.2.2.2.1, r1p0.2.2.2.2.2.1.2.2.2.2.2.1, r1p0.2.2.2.2.2.1.2.2.2.2.2.2)) r1p0.2.2.2.2.2.2.1 r1p0.2.2.2.2.2.2.2.1 r1p0.2.2.2.2.2.2.2.2.1 r1p0.2.2.2.2.2.2.2.2.2.1 s2.1 (((((l0).getD (s2.2.2.2.2.2.2.2.2.2.2.2.2.2.2 : Int).toNat default)).2.1)) (((((l0).getD (s2.2.2.2.2.2.2.2.2.2.2.2.2.2.2 : Int).toNat default)).2.2))).bind fun r7 => (if s4 = true then law20_ViewPlays.k6 r7 r1p0 s2 l0 true else (if ((decide (((((((l0).getD (s2.2.2.2.2.2.2.2.2.2.2.2.2.2.2 : Int).toNat default)).2.2))) < 0))) = true then law20_ViewPlays.k6 r7 r1p0 s2 l0 true else law20_ViewPlays.k6 r7 r1p0 s2 l0 (decide ((2147483647 : Int) < (((((l0).getD (s2.2.2.2.2.2.2.2.2.2.2.2.2.2.2 : Int).toNat default)).2.2)))))) else (if ((decide (((((((l0).getD (s2.2.2.2.2.2.2.2.2.2.2.2.2.2.2 : Int).toNat default)).1))) = 1))) = true then (view_Get.impl ((r1p0.2.1.1, r1p0.2.1.2.1, r1p0.2.1.2.2.1, r1p0.2.1.2.2.2.1, r1p0.2.1.2.2.2.2.1, r1p0.2.1.2.2.2.2.2.1, r1p0.2.1.2.2.2.2.2.2.1, r1p0.2.1.2.2.2.2.2.2.2.1, r1p0.2.1.2.2.2.2.2.2.2.2.1, r1p0.2.1.2.2.2.2.2.2.2.2.2.1, r1p0.2.1.2.2.2.2.2.2.2.2.2.2.1, r1p0.2.1.2.2.2.2.2.2.2.2.2.2.2.1, r1p0.2.1.2.2.2.2.2.2.2.2.2.2.2.2.1, r1p0.2.1.2.2.2.2.2.2.2.2.2.2.2.2.2.1, r1p0.2.1.2.2.2.2.2.2.2.2.2.2.2.2.2.2.1, r1p0.2.1.2.2.2.2.2.2.2.2.2.2.2.2.2.2.2.1, r1p0.2.1.2.2.2.2.2.2.2.2.2.2.2.2.2.2.2.2)) ((r1p0.2.2.1.1, r1p0.2.2.1.2.1, r1p0.2.2.1.2.2.1, r1p0.2.2.1.2.2.2)) ((r1p0.2.2.2.1.1, r1p0.2.2.2.1.2.1, r1p0.2.2.2.1.2.2.1, r1p0.2.2.2.1.2.2.2)) r1p0.2.2.2.2.1 ((r1p0.2.2.2.2.2.1.1, r1p0.2.2.2.2.2.1.2.1, r1p0.2.2.2.2.2.1.2.2.1, r1p0.2.2.2.2.2.1.2.2.2.1, r1p0.2.2.2.2.2.1.2.2.2.2.1, r1p0.2.2.2.2.2.1.2.2.2.2.2.1, r1p0.2.2.2.2.2.1.2.2.2.2.2.2)) r1p0.2.2.2.2.2.2.1 r1p0.2.2.2.2.2.2.2.1 r1p0.2.2.2.2.2.2.2.2.1 r1p0.2.2.2.2.2.2.2.2.2.1 s2.1 (((((l0).getD (s2.2.2.2.2.2.2.2.2.2.2.2.2.2.2 : Int).toNat default)).2.1))).bind fun r9 => (if s4 = true then (if ((decide (r9.2.2 = 1))) = true then (if r9.2.1 = true then law20_ViewPlays.k7 r1p0 s2 true else (if ((decide (r9.1 = 0))) = true then law20_ViewPlays.k7 r1p0 s2 false else law20_ViewPlays.k7 r1p0 s2 true)) else law20_ViewPlays.k7 r1p0 s2 true) else (if ((decide (r9.2.2 = 0))) = true then (if ((decide ((((((l0).getD (s2.2.2.2.2.2.2.2.2.2.2.2.2.2.2 : Int).toNat default)).2.1)) = 0))) = true then chk (0 ≤ (((((l0).getD (s2.2.2.2.2.2.2.2.2.2.2.2.2.2.2 : Int).toNat default)).2.1)) ∧ (((((l0).getD (s2.2.2.2.2.2.2.2.2.2.2.2.2.2.2 : Int).toNat default)).2.1)) < 4) ((if ((decide (r9.2.1 = s2.2.2.2.2.2.2.2.2.1))) = true then chk (0 ≤ (((((l0).getD (s2.2.2.2.2.2.2.2.2.2.2.2.2.2.2 : Int).toNat default)).2.1)) ∧ (((((l0).getD (s2.2.2.2.2.2.2.2.2.2.2.2.2.2.2 : Int).toNat default)).2.1)) < 4) (law20_ViewPlays.k7 r1p0 s2 (!(decide (r9.1 = s2.2.2.2.2.1)))) else law20_ViewPlays.k7 r1p0 s2 true)) else (if ((decide ((((((l0).getD (s2.2.2.2.2.2.2.2.2.2.2.2.2.2.2 : Int).toNat default)).2.1)) = 1))) = true then chk (0 ≤ (((((l0).getD (s2.2.2.2.2.2.2.2.2.2.2.2.2.2.2 : Int).toNat default)).2.1)) ∧ (((((l0).getD (s2.2.2.2.2.2.2.2.2.2.2.2.2.2.2 : Int).toNat default)).2.1)) < 4) ((if ((decide (r9.2.1 = s2.2.2.2.2.2.2.2.2.2.1))) = true then chk (0 ≤ (((((l0).getD (s2.2.2.2.2.2.2.2.2.2.2.2.2.2.2 : Int).toNat default)).2.1)) ∧ (((((l0).getD (s2.2.2.2.2.2.2.2.2.2.2.2.2.2.2 : Int).toNat default)).2.1)) < 4) (law20_ViewPlays.k7 r1p0 s2 (!(decide (r9.1 = s2.2.2.2.2.2.1)))) else law20_ViewPlays.k7 r1p0 s2 true)) else (if ((decide ((((((l0).getD (s2.2.2.2.2.2.2.2.2.2.2.2.2.2.2 : Int).toNat default)).2.1)) = 2))) = true then chk (0 ≤ (((((l0).getD (s2.2.2.2.2.2.2.2.2.2.2.2.2.2.2 : Int).toNat default)).2.1)) ∧ (((((l0).getD (s2.2.2.2.2.2.2.2.2.2.2.2.2.2.2 : Int).toNat default)).2.1)) < 4) ((if ((decide (r9.2.1 = s2.2.2.2.2.2.2.2.2.2.2.1))) = true then chk (0 ≤ (((((l0).getD (s2.2.2.2.2.2.2.2.2.2.2.2.2.2.2 : Int).toNat default)).2.1)) ∧ (((((l0).getD (s2.2.2.2.2.2.2.2.2.2.2.2.2.2.2 : Int).toNat default)).2.1)) < 4) (law20_ViewPlays.k7 r1p0 s2 (!(decide (r9.1 = s2.2.2.2.2.2.2.1)))) else law20_ViewPlays.k7 r1p0 s2 true)) else (if ((decide ((((((l0).getD (s2.2.2.2.2.2.2.2.2.2.2.2.2.2.2 : Int).toNat default)).2.1)) = 3))) = true then chk (0 ≤ (((((l0).getD (s2.2.2.2.2.2.2.2.2.2.2.2.2.2.2 : Int).toNat default)).2.1)) ∧ (((((l0).getD (s2.2.2.2.2.2.2.2.2.2.2.2.2.2.2 : Int).toNat default)).2.1)) < 4) ((if ((decide (r9.2.1 = s2.2.2.2.2.2.2.2.2.2.2.2.1))) = true then chk (0 ≤ (((((l0).getD (s2.2.2.2.2.2.2.2.2.2.2.2.2.2.2 : Int).toNat default)).2.1)) ∧ (((((l0).getD (s2.2.2.2.2.2.2.2.2.2.2.2.2.2.2 : Int).toNat default)).2.1)) < 4) (law20_ViewPlays.k7 r1p0 s2 (!(decide (r9.1 = s2.2.2.2.2.2.2.2.1)))) else law20_ViewPlays.k7 r1p0 s2 true)) else none)))) else law20_ViewPlays.k7 r1p0 s2 true)) else (view_Version.impl ((r1p0.2.1.1, r1p0.2.1.2.1, r1p0.2.1.2.2.1, r1p0.2.1.2.2.2.1, r1p0.2.1.2.2.2.2.1, r1p0.2.1.2.2.2.2.2.1, r1p0.2.1.2.2.2.2.2.2.1, r1p0.2.1.2.2.2.2.2.2.2.1, r1p0.2.1.2.2.2.2.2.2.2.2.1, r1p0.2.1.2.2.2.2.2.2.2.2.2.1, r1p0.2.1.2.2.2.2.2.2.2.2.2.2.1, r1p0.2.1.2.2.2.2.2.2.2.2.2.2.2.1, r1p0.2.1.2.2.2.2.2.2.2.2.2.2.2.2.1, r1p0.2.1.2.2.2.2.2.2.2.2.2.2.2.2.2.1, r1p0.2.1.2.2.2.2.2.2.2.2.2.2.2.2.2.2.1, r1p0.2.1.2.2.2.2.2.2.2.2.2.2.2.2.2.2.2.1, r1p0.2.1.2.2.2.2.2.2.2.2.2.2.2.2.2.2.2.2)) ((r1p0.2.2.1.1, r1p0.2.2.1.2.1, r1p0.2.2.1.2.2.1, r1p0.2.2.1.2.2.2)) ((r1p0.2.2.2.1.1, r1p0.2.2.2.1.2.1, r1p0.2.2.2.1.2.2.1, r1p0.2.2.2.1.2.2.2)) r1p0.2.2.2.2.1 ((r1p0.2.2.2.2.2.1.1, r1p0.2.2.2.2.2.1.2.1, r1p0.2.2.2.2.2.1.2.2.1, r1p0.2.2.2.2.2.1.2.2.2.1, r1p0.2.2.2.2.2.1.2.2.2.2.1, r1p0.2.2.2.2.2.1.2.2.2.2.2.1, r1p0.2.2.2.2.2.1.2.2.2.2.2.2)) r1p0.2.2.2.2.2.2.1 r1p0.2.2.2.2.2.2.2.1 r1p0.2.2.2.2.2.2.2.2.1 r1p0.2.2.2.2.2.2.2.2.2.1 s2.1).bind fun r10 => (view_Raise.impl ((r1p0.2.1.1, r1p0.2.1.2.1, r1p0.2.1.2.2.1, r1p0.2.1.2.2.2.1, r1p0.2.1.2.2.2.2.1, r1p0.2.1.2.2.2.2.2.1, r1p0.2.1.2.2.2.2.2.2.1, r1p0.2.1.2.2.2.2.2.2.2.1, r1p0.2.1.2.2.2.2.2.2.2.2.1, r1p0.2.1.2.2.2.2.2.2.2.2.2.1, r1p0.2.1.2.2.2.2.2.2.2.2.2.2.1, r1p0.2.1.2.2.2.2.2.2.2.2.2.2.2.1, r1p0.2.1.2.2.2.2.2.2.2.2.2.2.2.2.1, r1p0.2.1.2.2.2.2.2.2.2.2.2.2.2.2.2.1, r1p0.2.1.2.2.2.2.2.2.2.2.2.2.2.2.2.2.1, r1p0.2.1.2.2.2.2.2.2.2.2.2.2.2.2.2.2.2.1, r1p0.2.1.2.2.2.2.2.2.2.2.2.2.2.2.2.2.2.2)) ((r1p0.2.2.1.1, r1p0.2.2.1.2.1, r1p0.2.2.1.2.2.1, r1p0.2.2.1.2.2.2)) ((r1p0.2.2.2.1.1, r1p0.2.2.2.1.2.1, r1p0.2.2.2.1.2.2.1, r1p0.2.2.2.1.2.2.2)) r1p0.2.2.2.2.1 ((r1p0.2.2.2.2.2.1.1, r1p0.2.2.2.2.2.1.2.1, r1p0.2.2.2.2.2.1.2.2.1, r1p0.2.2.2.2.2.1.2.2.2.1, r1p0.2.2.2.2.2.1.2.2.2.2.1, r1p0.2.2.2.2.2.1.2.2.2.2.2.1, r1p0.2.2.2.2.2.1.2.2.2.2.2.2)) r1p0.2.2.2.2.2.2.1 r1p0.2.2.2.2.2.2.2.1 r1p0.2.2.2.2.2.2.2.2.1 r1p0.2.2.2.2.2.2.2.2.2.1 s2.1 (((((l0).getD (s2.2.2.2.2.2.2.2.2.2.2.2.2.2.2 : Int).toNat default)).2.2))).bind fun r11 => (if ((decide (r11.2.1 = 0))) = true then (ref21_Base_Raise.impl ((s2.2.1, s2.2.2.1, s2.2.2.2.1, s2.2.2.2.2.1, s2.2.2.2.2.2.1, s2.2.2.2.2.2.2.1, s2.2.2.2.2.2.2.2.1, s2.2.2.2.2.2.2.2.2.1, s2.2.2.2.2.2.2.2.2.2.1, s2.2.2.2.2.2.2.2.2.2.2.1, s2.2.2.2.2.2.2.2.2.2.2.2.1, s2.2.2.2.2.2.2.2.2.2.2.2.2.1, s2.2.2.2.2.2.2.2.2.2.2.2.2.2.1)) (((((l0).getD (s2.2.2.2.2.2.2.2.2.2.2.2.2.2.2 : Int).toNat default)).2.2))).bind fun r12 => (if ((decide (r11.1 = r12.1))) = true then (if r11.1 = true then law20_ViewPlays.k8 r1p0 s2 r11 (r12.2.1, r12.2.2.1, r12.2.2.2.1, r12.2.2.2.2.1, r12.2.2.2.2.2.1, r12.2.2.2.2.2.2.1, r12.2.2.2.2.2.2.2.1, r12.2.2.2.2.2.2.2.2.1, r12.2.2.2.2.2.2.2.2.2.1, r12.2.2.2.2.2.2.2.2.2.2.1, r12.2.2.2.2.2.2.2.2.2.2.2.1, r12.2.2.2.2.2.2.2.2.2.2.2.2.1, r12.2.2.2.2.2.2.2.2.2.2.2.2.2, (!(decide (r10.1 = 1)))) else law20_ViewPlays.k8 r1p0 s2 r11 (r12.2.1, r12.2.2.1, r12.2.2.2.1, r12.2.2.2.2.1, r12.2.2.2.2.2.1, r12.2.2.2.2.2.2.1, r12.2.2.2.2.2.2.2.1, r12.2.2.2.2.2.2.2.2.1, r12.2.2.2.2.2.2.2.2.2.1, r12.2.2.2.2.2.2.2.2.2.2.1, r12.2.2.2.2.2.2.2.2.2.2.2.1, r12.2.2.2.2.2.2.2.2.2.2.2.2.1, r12.2.2.2.2.2.2.2.2.2.2.2.2.2, false)) else law20_ViewPlays.k8 r1p0 s2 r11 (r12.2.1, r12.2.2.1, r12.2.2.2.1, r12.2.2.2.2.1, r12.2.2.2.2.2.1, r12.2.2.2.2.2.2.1, r12.2.2.2.2.2.2.2.1, r12.2.2.2.2.2.2.2.2.1, r12.2.2.2.2.2.2.2.2.2.1, r12.2.2.2.2.2.2.2.2.2.2.1, r12.2.2.2.2.2.2.2.2.2.2.2.1, r12.2.2.2.2.2.2.2.2.2.2.2.2.1, r12.2.2.2.2.2.2.2.2.2.2.2.2.2, true)) else law20_ViewPlays.k8 r1p0 s2 r11 (s2.2.1, s2.2.2.1, s2.2.2.2.1, s2.2.2.2.2.1, s2.2.2.2.2.2.1, s2.2.2.2.2.2.2.1, s2.2.2.2.2.2.2.2.1, s2.2.2.2.2.2.2.2.2.1, s2.2.2.2.2.2.2.2.2.2.1, s2.2.2.2.2.2.2.2.2.2.2.1, s2.2.2.2.2.2.2.2.2.2.2.2.1, s2.2.2.2.2.2.2.2.2.2.2.2.2.1, s2.2.2.2.2.2.2.2.2.2.2.2.2.2.1, true))))
noncomputable def law20_ViewPlays.k2 (s2 : (List ((Int × (List UInt8) × (List UInt8)) × Bool)) × Int × Int × Int × Int × Int × Int × Int × Bool × Bool × Bool × Bool × Int × Int × Int) (l0 : List (Int × Int × Int)) (r1p0 : Unit × (Int × Int × Int × Int × Int × Int × Int × Int × Int × Int × Int × Int × Int × Int × Int × Int × Int) × (Int × Int × Int × Int) × (Int × Int × Int × Int) × (List (Int × Int)) × (Int × Bool × Int × Int × Int × Int × Int) × (List (Int × (List UInt8))) × (List (Int × (List UInt8))) × (List (Int × Int)) × (List (Int × Int)) × (List ((Int × (List UInt8) × (List UInt8)) × Bool))) (s3 : Bool) : Option (((List ((Int × (List UInt8) × (List UInt8)) × Bool)) × Int × Int × Int × Int × Int × Int × Int × Bool × Bool × Bool × Bool × Int × Int × Int) ⊕ (Bool ⊕ Unit)) :=
  (if s3 = true then chk (0 ≤ s2.2.2.2.2.2.2.2.2.2.2.2.2.2.2 ∧ s2.2.2.2.2.2.2.2.2.2.2.2.2.2.2 < (l0.length : Int)) ((if ((decide (((((((l0).getD (s2.2.2.2.2.2.2.2.2.2.2.2.2.2.2 : Int).toNat default)).2.1))) < 0))) = true then law20_ViewPlays.k3 l0 s2 r1p0 true else law20_ViewPlays.k3 l0 s2 r1p0 (decide ((3 : Int) < (((((l0).getD (s2.2.2.2.2.2.2.2.2.2.2.2.2.2.2 : Int).toNat default)).2.1)))))) else some (.inr (.inr ())))
noncomputable def law20_ViewPlays.st1 (l0 : List (Int × Int × Int)) (r1p0 : Unit × (Int × Int × Int × Int × Int × Int × Int × Int × Int × Int × Int × Int × Int × Int × Int × Int × Int) × (Int × Int × Int × Int) × (Int × Int × Int × Int) × (List (Int × Int)) × (Int × Bool × Int × Int × Int × Int × Int) × (List (Int × (List UInt8))) × (List (Int × (List UInt8))) × (List (Int × Int)) × (List (Int × Int)) × (List ((Int × (List UInt8) × (List UInt8)) × Bool))) (s2 : (List ((Int × (List UInt8) × (List UInt8)) × Bool)) × Int × Int × Int × Int × Int × Int × Int × Bool × Bool × Bool × Bool × Int × Int × Int) : Option (((List ((Int × (List UInt8) × (List UInt8)) × Bool)) × Int × Int × Int × Int × Int × Int × Int × Bool × Bool × Bool × Bool × Int × Int × Int) ⊕ (Bool ⊕ Unit)) :=
  (if ((decide (s2.2.2.2.2.2.2.2.2.2.2.2.2.2.2 < ((l0.length : Int))))) = true then law20_ViewPlays.k2 s2 l0 r1p0 (decide (s2.2.2.2.2.2.2.2.2.2.2.2.2.2.2 < 60)) else law20_ViewPlays.k2 s2 l0 r1p0 false)
noncomputable def law20_ViewPlays.impl (l0 : List (Int × Int × Int)) : Option Bool :=
  (law13_New.impl ).bind fun r1 => (match r1 with | (none, r1p1) => (some false) | (some r1p0, r1p1) => ((ref21_New.impl ).bind fun r2 => (loop (law20_ViewPlays.st1 l0 r1p0) (r1p0.2.2.2.2.2.2.2.2.2.2, r2.1, r2.2.1, r2.2.2.1, r2.2.2.2.1, r2.2.2.2.2.1, r2.2.2.2.2.2.1, r2.2.2.2.2.2.2.1, r2.2.2.2.2.2.2.2.1, r2.2.2.2.2.2.2.2.2.1, r2.2.2.2.2.2.2.2.2.2.1, r2.2.2.2.2.2.2.2.2.2.2.1, r2.2.2.2.2.2.2.2.2.2.2.2.1, r2.2.2.2.2.2.2.2.2.2.2.2.2, 0)).bind (fun e1 => match e1 with | .inl v => some v | .inr v => law20_ViewPlays.k1 v)))
set_option maxRecDepth 100000 in
set_option maxHeartbeats 4000000 in
theorem law20_ViewPlays.c {B : World} {hs : List MP} {w : World} {i0 c0 : Nat} {A0 : Option Addr} {l0 : List (Int × Int × Int)} (hS : St B (hs) w) (h0 : (hs)[i0]? = some (Ro (Elt.pair E64 (Elt.pair E64 E64)) A0 c0 l0)) {r : Bool} (hr : law20_ViewPlays.impl l0 = some r) :
    Calls Try.prog 3 #[.slice A0 l0.length c0] w fun e w' => ∃ x : Unit, e = .returned (.bool r) ∧ St B (hs) w' := by
 unfold law20_ViewPlays.impl at hr
 refine calls_T Try.func3 rfl rfl rfl hS ?_
 refine T.front i0 h0 ?_
 refine T.seq ?_
 refine T.region ?_
 refine T.assign .list rfl (wants0 rfl) rfl rfl ?_
 refine T.nil ?_
 refine T.then_normal ?_
 refine T.seq ?_
 refine T.region ?_
 obtain ⟨r1, hg1, hr⟩ := inv_bind hr
 rcases r1 with ⟨_ | r1p0, r1p1⟩
 ·dsimp only at hr
  refine T.call (v := fun (x1 : (Nat) × (Nat) × (Nat) × (Nat) × (Nat) × (Nat) × (Nat) × (Option Addr × Nat) × (Nat) × (Nat) × (Option Addr × Nat)) => .tuple #[.pointer none, .pointer none]) (hs' := fun x1 => Ro (Elt.pair E64 (Elt.pair E64 E64)) A0 c0 l0 :: hs) .list (wants0 rfl) rfl (run_callF (vs := []) rfl Try.func5 rfl (by decide) rfl) (fun w hS => law13_New.c hS  hg1) (fun x1 => ?_)
  refine T.move .list rfl (wants0 rfl) rfl rfl ?_
  refine T.extract .list rfl (wants0 rfl) rfl rfl rfl ?_
  refine T.extract .list rfl (wants0 rfl) rfl rfl rfl ?_
  refine T.assign .list rfl (wants0 rfl) rfl rfl ?_
  refine T.assign .list rfl (wants0 rfl) rfl rfl ?_
  refine T.nil ?_
  refine T.then_normal ?_
  refine T.seq ?_
  refine T.seq ?_
  refine T.region ?_
  refine T.move .list rfl (wants0 rfl) rfl rfl ?_
  refine T.ptrEq (pt := 99) .list rfl (wants0 rfl) rfl rfl rfl (by kernel_rfl) (.inr rfl) rfl ?_
  refine T.nil ?_
  refine T.then_normal ?_
  refine T.condT rfl rfl ?_
  refine T.seq ?_
  refine T.region ?_
  refine T.assign .list rfl (wants0 rfl) rfl rfl ?_
  refine T.nil ?_
  refine T.then_normal ?_
  refine T.ret ?_
  refine T.then_ret ?_
  obtain rfl := inv_some hr
  refine T.pick [] 1 rfl rfl (Nat.le_add_left _ _) rfl ?_
  refine T.ret1 rfl rfl (fun w hS => ⟨(), rfl, hS⟩)
 ·dsimp only at hr
  refine T.call (v := fun (x2 : (Nat) × (Nat) × (Nat) × (Nat) × (Nat) × (Nat) × (Nat) × (Option Addr × Nat) × (Nat) × (Nat) × (Option Addr × Nat)) => .tuple #[.pointer (some ⟨x2.1, 0, none⟩), .pointer (some ⟨x2.2.1, 0, none⟩)]) (hs' := fun x2 => Cl x2.1 99 [.pointer (some ⟨x2.2.1, 0, none⟩), .slice x2.2.2.2.2.2.2.2.2.2.2.1 r1p0.2.2.2.2.2.2.2.2.2.2.length x2.2.2.2.2.2.2.2.2.2.2.2] :: Cl x2.2.1 89 [.pointer (some ⟨x2.2.2.1, 0, none⟩), .int .i64 r1p0.2.1.1, .int .i64 r1p0.2.1.2.1, .int .i64 r1p0.2.1.2.2.1, .int .i64 r1p0.2.1.2.2.2.1, .int .i64 r1p0.2.1.2.2.2.2.1, .int .i64 r1p0.2.1.2.2.2.2.2.1, .int .i64 r1p0.2.1.2.2.2.2.2.2.1, .int .i64 r1p0.2.1.2.2.2.2.2.2.2.1, .int .i64 r1p0.2.1.2.2.2.2.2.2.2.2.1, .int .i64 r1p0.2.1.2.2.2.2.2.2.2.2.2.1, .int .i64 r1p0.2.1.2.2.2.2.2.2.2.2.2.2.1, .int .i64 r1p0.2.1.2.2.2.2.2.2.2.2.2.2.2.1, .int .i64 r1p0.2.1.2.2.2.2.2.2.2.2.2.2.2.2.1, .int .i64 r1p0.2.1.2.2.2.2.2.2.2.2.2.2.2.2.2.1, .int .i64 r1p0.2.1.2.2.2.2.2.2.2.2.2.2.2.2.2.2.1, .int .i64 r1p0.2.1.2.2.2.2.2.2.2.2.2.2.2.2.2.2.2.1, .int .i64 r1p0.2.1.2.2.2.2.2.2.2.2.2.2.2.2.2.2.2.2] :: Cl x2.2.2.1 115 [.pointer (some ⟨x2.2.2.2.1, 0, none⟩), .nilIface, .int .i64 r1p0.2.2.1.1, .int .i64 r1p0.2.2.1.2.1, .nilIface, .int .i64 r1p0.2.2.1.2.2.1, .int .i64 r1p0.2.2.1.2.2.2, .map (some x2.2.2.2.2.2.2.2.2.1), .slice none 0 0, .slice none 0 0, .map (some x2.2.2.2.2.2.2.2.2.2.1)] :: Cl x2.2.2.2.1 134 [.int .i64 r1p0.2.2.2.1.1, .map (some x2.2.2.2.2.1), .pointer (some ⟨x2.2.2.2.2.2.1, 0, none⟩), .int .i64 r1p0.2.2.2.1.2.1, .int .u64 r1p0.2.2.2.1.2.2.1, .int .i64 r1p0.2.2.2.1.2.2.2] :: Mp E64 x2.2.2.2.2.1 r1p0.2.2.2.2.1 :: Cl x2.2.2.2.2.2.1 83 [.int .i64 r1p0.2.2.2.2.2.1.1, .map (some x2.2.2.2.2.2.2.1), .slice x2.2.2.2.2.2.2.2.1.1 r1p0.2.2.2.2.2.2.2.1.length x2.2.2.2.2.2.2.2.1.2, .bool r1p0.2.2.2.2.2.1.2.1, .int .i64 r1p0.2.2.2.2.2.1.2.2.1, .int .i64 r1p0.2.2.2.2.2.1.2.2.2.1, .int .u64 r1p0.2.2.2.2.2.1.2.2.2.2.1, .int .i64 r1p0.2.2.2.2.2.1.2.2.2.2.2.1, .int .i64 r1p0.2.2.2.2.2.1.2.2.2.2.2.2] :: Mp (Elt.slice E8) x2.2.2.2.2.2.2.1 r1p0.2.2.2.2.2.2.1 :: Bf (Elt.pair E64 (Elt.slice E8)) 158 x2.2.2.2.2.2.2.2.1.1 x2.2.2.2.2.2.2.2.1.2 r1p0.2.2.2.2.2.2.2.1 :: Mp E64 x2.2.2.2.2.2.2.2.2.1 r1p0.2.2.2.2.2.2.2.2.1 :: Mp E64 x2.2.2.2.2.2.2.2.2.2.1 r1p0.2.2.2.2.2.2.2.2.2.1 :: Bf (Elt.pair (Elt.pair E64 (Elt.pair (Elt.slice E8) (Elt.slice E8))) EBool) 102 x2.2.2.2.2.2.2.2.2.2.2.1 x2.2.2.2.2.2.2.2.2.2.2.2 r1p0.2.2.2.2.2.2.2.2.2.2 :: Ro (Elt.pair E64 (Elt.pair E64 E64)) A0 c0 l0 :: hs) .list (wants0 rfl) rfl (run_callF (vs := []) rfl Try.func5 rfl (by decide) rfl) (fun w hS => law13_New.c hS  hg1) (fun x2 => ?_)
  refine T.move .list rfl (wants0 rfl) rfl rfl ?_
  refine T.extract .list rfl (wants0 rfl) rfl rfl rfl ?_
  refine T.extract .list rfl (wants0 rfl) rfl rfl rfl ?_
  refine T.assign .list rfl (wants0 rfl) rfl rfl ?_
  refine T.assign .list rfl (wants0 rfl) rfl rfl ?_
  refine T.nil ?_
  refine T.then_normal ?_
  refine T.seq ?_
  refine T.seq ?_
  refine T.region ?_
  refine T.move .list rfl (wants0 rfl) rfl rfl ?_
  refine T.ptrEq (pt := 99) .list rfl (wants0 rfl) rfl rfl rfl (by kernel_rfl) (.inr rfl) rfl ?_
  refine T.nil ?_
  refine T.then_normal ?_
  refine T.condF rfl rfl ?_
  refine T.skip ?_
  refine T.then_normal ?_
  refine T.seq ?_
  refine T.region ?_
  obtain ⟨r2, hg2, hr⟩ := inv_bind hr
  refine T.call .list (wants0 rfl) rfl (run_callF (vs := []) rfl Try.func6 rfl (by decide) rfl) (fun w hS => ref21_New.c hS  hg2) (fun x3 => ?_)
  refine T.assign .list rfl (wants0 rfl) rfl rfl ?_
  refine T.nil ?_
  refine T.then_normal ?_
  refine T.seqJ (fun (s1 : Unit) (x4 : Unit) => []) (fun s1 x4 => hs) (fun s1 => law20_ViewPlays.k1 s1 = some r) (fun s1 x4 hk1 => ?_) (fun J1 => ?_)
  ·unfold law20_ViewPlays.k1 at hk1
   refine T.seq ?_
   refine T.region ?_
   obtain ⟨r3, hg3, hk1⟩ := inv_bind hk1
   refine T.call .list (wants0 rfl) rfl (run_callF (vs := []) rfl Try.func15 rfl (by decide) rfl) (fun w hS => law20_told.c hS  hg3) (fun x5 => ?_)
   refine T.assign .list rfl (wants0 rfl) rfl rfl ?_
   refine T.nil ?_
   refine T.then_normal ?_
   refine T.ret ?_
   obtain rfl := inv_some hk1
   refine T.pick [] 0 rfl rfl (Nat.le_add_left _ _) rfl ?_
   refine T.ret1 rfl rfl (fun w hS => ⟨(), rfl, hS⟩)
  ·refine T.seq ?_
   refine T.region ?_
   refine T.assign .list rfl (wants0 rfl) rfl rfl ?_
   refine T.nil ?_
   refine T.then_normal ?_
   refine T.block ?_
   obtain ⟨e1, hl1, hr⟩ := inv_bind hr
   refine T.le (EnvLe.cons rfl (EnvLe.cons rfl (EnvLe.cons rfl (EnvLe.cons rfl EnvLe.nil)))) (T.pick [12, 1, 2, 3, 4, 5, 6, 7, 8, 9, 10, 11, 0] 13 rfl rfl (Nat.le_add_left _ _) rfl (T.loop (s0 := (r1p0.2.2.2.2.2.2.2.2.2.2, r2.1, r2.2.1, r2.2.2.1, r2.2.2.2.1, r2.2.2.2.2.1, r2.2.2.2.2.2.1, r2.2.2.2.2.2.2.1, r2.2.2.2.2.2.2.2.1, r2.2.2.2.2.2.2.2.2.1, r2.2.2.2.2.2.2.2.2.2.1, r2.2.2.2.2.2.2.2.2.2.2.1, r2.2.2.2.2.2.2.2.2.2.2.2.1, r2.2.2.2.2.2.2.2.2.2.2.2.2, 0)) (env := fun s2 x6 => [(0, .slice A0 l0.length c0), (3, .pointer (some ⟨x2.1, 0, none⟩)), (5, .pointer (some ⟨x3, 0, none⟩)), (6, .int .i64 s2.2.2.2.2.2.2.2.2.2.2.2.2.2.2)]) (hs := fun (s2 : (List ((Int × (List UInt8) × (List UInt8)) × Bool)) × Int × Int × Int × Int × Int × Int × Int × Bool × Bool × Bool × Bool × Int × Int × Int) (x6 : (Option Addr × Nat)) => Ro (Elt.pair E64 (Elt.pair E64 E64)) A0 c0 l0 :: Cl x2.1 99 [.pointer (some ⟨x2.2.1, 0, none⟩), .slice x6.1 s2.1.length x6.2] :: Cl x2.2.1 89 [.pointer (some ⟨x2.2.2.1, 0, none⟩), .int .i64 r1p0.2.1.1, .int .i64 r1p0.2.1.2.1, .int .i64 r1p0.2.1.2.2.1, .int .i64 r1p0.2.1.2.2.2.1, .int .i64 r1p0.2.1.2.2.2.2.1, .int .i64 r1p0.2.1.2.2.2.2.2.1, .int .i64 r1p0.2.1.2.2.2.2.2.2.1, .int .i64 r1p0.2.1.2.2.2.2.2.2.2.1, .int .i64 r1p0.2.1.2.2.2.2.2.2.2.2.1, .int .i64 r1p0.2.1.2.2.2.2.2.2.2.2.2.1, .int .i64 r1p0.2.1.2.2.2.2.2.2.2.2.2.2.1, .int .i64 r1p0.2.1.2.2.2.2.2.2.2.2.2.2.2.1, .int .i64 r1p0.2.1.2.2.2.2.2.2.2.2.2.2.2.2.1, .int .i64 r1p0.2.1.2.2.2.2.2.2.2.2.2.2.2.2.2.1, .int .i64 r1p0.2.1.2.2.2.2.2.2.2.2.2.2.2.2.2.2.1, .int .i64 r1p0.2.1.2.2.2.2.2.2.2.2.2.2.2.2.2.2.2.1, .int .i64 r1p0.2.1.2.2.2.2.2.2.2.2.2.2.2.2.2.2.2.2] :: Cl x2.2.2.1 115 [.pointer (some ⟨x2.2.2.2.1, 0, none⟩), .nilIface, .int .i64 r1p0.2.2.1.1, .int .i64 r1p0.2.2.1.2.1, .nilIface, .int .i64 r1p0.2.2.1.2.2.1, .int .i64 r1p0.2.2.1.2.2.2, .map (some x2.2.2.2.2.2.2.2.2.1), .slice none 0 0, .slice none 0 0, .map (some x2.2.2.2.2.2.2.2.2.2.1)] :: Cl x2.2.2.2.1 134 [.int .i64 r1p0.2.2.2.1.1, .map (some x2.2.2.2.2.1), .pointer (some ⟨x2.2.2.2.2.2.1, 0, none⟩), .int .i64 r1p0.2.2.2.1.2.1, .int .u64 r1p0.2.2.2.1.2.2.1, .int .i64 r1p0.2.2.2.1.2.2.2] :: Mp E64 x2.2.2.2.2.1 r1p0.2.2.2.2.1 :: Cl x2.2.2.2.2.2.1 83 [.int .i64 r1p0.2.2.2.2.2.1.1, .map (some x2.2.2.2.2.2.2.1), .slice x2.2.2.2.2.2.2.2.1.1 r1p0.2.2.2.2.2.2.2.1.length x2.2.2.2.2.2.2.2.1.2, .bool r1p0.2.2.2.2.2.1.2.1, .int .i64 r1p0.2.2.2.2.2.1.2.2.1, .int .i64 r1p0.2.2.2.2.2.1.2.2.2.1, .int .u64 r1p0.2.2.2.2.2.1.2.2.2.2.1, .int .i64 r1p0.2.2.2.2.2.1.2.2.2.2.2.1, .int .i64 r1p0.2.2.2.2.2.1.2.2.2.2.2.2] :: Mp (Elt.slice E8) x2.2.2.2.2.2.2.1 r1p0.2.2.2.2.2.2.1 :: Bf (Elt.pair E64 (Elt.slice E8)) 158 x2.2.2.2.2.2.2.2.1.1 x2.2.2.2.2.2.2.2.1.2 r1p0.2.2.2.2.2.2.2.1 :: Mp E64 x2.2.2.2.2.2.2.2.2.1 r1p0.2.2.2.2.2.2.2.2.1 :: Mp E64 x2.2.2.2.2.2.2.2.2.2.1 r1p0.2.2.2.2.2.2.2.2.2.1 :: Bf (Elt.pair (Elt.pair E64 (Elt.pair (Elt.slice E8) (Elt.slice E8))) EBool) 102 x6.1 x6.2 s2.1 :: Cl x3 50 [.slice none 0 0, .int .i64 0, .int .i64 0, .int .i64 0, .slice none 0 0, .int .i64 0, .int .i64 0, .int .i64 0, .slice none 0 0, .int .i64 0, .int .i64 0, .int .i64 0, .slice none 0 0, .int .i64 0, .int .i64 0, .int .i64 0, .slice none 0 0, .int .i64 0, .int .i64 0, .int .i64 0, .slice none 0 0, .int .i64 0, .int .i64 0, .int .i64 0, .slice none 0 0, .int .i64 0, .int .i64 0, .int .i64 0, .slice none 0 0, .int .i64 0, .int .i64 0, .int .i64 0, .slice none 0 0, .int .i64 s2.2.1, .int .i64 s2.2.2.1, .int .i64 s2.2.2.2.1, .int .i64 s2.2.2.2.2.1, .int .i64 s2.2.2.2.2.2.1, .int .i64 s2.2.2.2.2.2.2.1, .int .i64 s2.2.2.2.2.2.2.2.1, .bool s2.2.2.2.2.2.2.2.2.1, .bool s2.2.2.2.2.2.2.2.2.2.1, .bool s2.2.2.2.2.2.2.2.2.2.2.1, .bool s2.2.2.2.2.2.2.2.2.2.2.2.1, .int .i64 s2.2.2.2.2.2.2.2.2.2.2.2.2.1, .int .i64 s2.2.2.2.2.2.2.2.2.2.2.2.2.2.1] :: hs) hl1 (x2.2.2.2.2.2.2.2.2.2.2.1, x2.2.2.2.2.2.2.2.2.2.2.2) (fun K1 s2 x6 o1 he1 hm1 hx1 => ?_)))
   unfold law20_ViewPlays.st1 at he1
   refine T.seq ?_
   refine T.seqJ (fun (s3 : Bool) (x7 : Unit) => [(0, .slice A0 l0.length c0), (3, .pointer (some ⟨x2.1, 0, none⟩)), (5, .pointer (some ⟨x3, 0, none⟩)), (6, .int .i64 s2.2.2.2.2.2.2.2.2.2.2.2.2.2.2), (38, .bool s3)]) (fun s3 x7 => Ro (Elt.pair E64 (Elt.pair E64 E64)) A0 c0 l0 :: Cl x2.1 99 [.pointer (some ⟨x2.2.1, 0, none⟩), .slice x6.1 s2.1.length x6.2] :: Cl x2.2.1 89 [.pointer (some ⟨x2.2.2.1, 0, none⟩), .int .i64 r1p0.2.1.1, .int .i64 r1p0.2.1.2.1, .int .i64 r1p0.2.1.2.2.1, .int .i64 r1p0.2.1.2.2.2.1, .int .i64 r1p0.2.1.2.2.2.2.1, .int .i64 r1p0.2.1.2.2.2.2.2.1, .int .i64 r1p0.2.1.2.2.2.2.2.2.1, .int .i64 r1p0.2.1.2.2.2.2.2.2.2.1, .int .i64 r1p0.2.1.2.2.2.2.2.2.2.2.1, .int .i64 r1p0.2.1.2.2.2.2.2.2.2.2.2.1, .int .i64 r1p0.2.1.2.2.2.2.2.2.2.2.2.2.1, .int .i64 r1p0.2.1.2.2.2.2.2.2.2.2.2.2.2.1, .int .i64 r1p0.2.1.2.2.2.2.2.2.2.2.2.2.2.2.1, .int .i64 r1p0.2.1.2.2.2.2.2.2.2.2.2.2.2.2.2.1, .int .i64 r1p0.2.1.2.2.2.2.2.2.2.2.2.2.2.2.2.2.1, .int .i64 r1p0.2.1.2.2.2.2.2.2.2.2.2.2.2.2.2.2.2.1, .int .i64 r1p0.2.1.2.2.2.2.2.2.2.2.2.2.2.2.2.2.2.2] :: Cl x2.2.2.1 115 [.pointer (some ⟨x2.2.2.2.1, 0, none⟩), .nilIface, .int .i64 r1p0.2.2.1.1, .int .i64 r1p0.2.2.1.2.1, .nilIface, .int .i64 r1p0.2.2.1.2.2.1, .int .i64 r1p0.2.2.1.2.2.2, .map (some x2.2.2.2.2.2.2.2.2.1), .slice none 0 0, .slice none 0 0, .map (some x2.2.2.2.2.2.2.2.2.2.1)] :: Cl x2.2.2.2.1 134 [.int .i64 r1p0.2.2.2.1.1, .map (some x2.2.2.2.2.1), .pointer (some ⟨x2.2.2.2.2.2.1, 0, none⟩), .int .i64 r1p0.2.2.2.1.2.1, .int .u64 r1p0.2.2.2.1.2.2.1, .int .i64 r1p0.2.2.2.1.2.2.2] :: Mp E64 x2.2.2.2.2.1 r1p0.2.2.2.2.1 :: Cl x2.2.2.2.2.2.1 83 [.int .i64 r1p0.2.2.2.2.2.1.1, .map (some x2.2.2.2.2.2.2.1), .slice x2.2.2.2.2.2.2.2.1.1 r1p0.2.2.2.2.2.2.2.1.length x2.2.2.2.2.2.2.2.1.2, .bool r1p0.2.2.2.2.2.1.2.1, .int .i64 r1p0.2.2.2.2.2.1.2.2.1, .int .i64 r1p0.2.2.2.2.2.1.2.2.2.1, .int .u64 r1p0.2.2.2.2.2.1.2.2.2.2.1, .int .i64 r1p0.2.2.2.2.2.1.2.2.2.2.2.1, .int .i64 r1p0.2.2.2.2.2.1.2.2.2.2.2.2] :: Mp (Elt.slice E8) x2.2.2.2.2.2.2.1 r1p0.2.2.2.2.2.2.1 :: Bf (Elt.pair E64 (Elt.slice E8)) 158 x2.2.2.2.2.2.2.2.1.1 x2.2.2.2.2.2.2.2.1.2 r1p0.2.2.2.2.2.2.2.1 :: Mp E64 x2.2.2.2.2.2.2.2.2.1 r1p0.2.2.2.2.2.2.2.2.1 :: Mp E64 x2.2.2.2.2.2.2.2.2.2.1 r1p0.2.2.2.2.2.2.2.2.2.1 :: Bf (Elt.pair (Elt.pair E64 (Elt.pair (Elt.slice E8) (Elt.slice E8))) EBool) 102 x6.1 x6.2 s2.1 :: Cl x3 50 [.slice none 0 0, .int .i64 0, .int .i64 0, .int .i64 0, .slice none 0 0, .int .i64 0, .int .i64 0, .int .i64 0, .slice none 0 0, .int .i64 0, .int .i64 0, .int .i64 0, .slice none 0 0, .int .i64 0, .int .i64 0, .int .i64 0, .slice none 0 0, .int .i64 0, .int .i64 0, .int .i64 0, .slice none 0 0, .int .i64 0, .int .i64 0, .int .i64 0, .slice none 0 0, .int .i64 0, .int .i64 0, .int .i64 0, .slice none 0 0, .int .i64 0, .int .i64 0, .int .i64 0, .slice none 0 0, .int .i64 s2.2.1, .int .i64 s2.2.2.1, .int .i64 s2.2.2.2.1, .int .i64 s2.2.2.2.2.1, .int .i64 s2.2.2.2.2.2.1, .int .i64 s2.2.2.2.2.2.2.1, .int .i64 s2.2.2.2.2.2.2.2.1, .bool s2.2.2.2.2.2.2.2.2.1, .bool s2.2.2.2.2.2.2.2.2.2.1, .bool s2.2.2.2.2.2.2.2.2.2.2.1, .bool s2.2.2.2.2.2.2.2.2.2.2.2.1, .int .i64 s2.2.2.2.2.2.2.2.2.2.2.2.2.1, .int .i64 s2.2.2.2.2.2.2.2.2.2.2.2.2.2.1] :: hs) (fun s3 => law20_ViewPlays.k2 s2 l0 r1p0 s3 = some o1) (fun s3 x7 hk2 => ?_) (fun J2 => ?_)
   ·unfold law20_ViewPlays.k2 at hk2
    refine T.cond rfl (fun hb1 => ?_) (fun hb1 => ?_)
    ·replace hk2 := inv_posB hb1 hk2
     refine T.skip ?_
     refine T.then_normal ?_
     refine T.seq ?_
     refine T.block ?_
     refine T.seq ?_
     refine T.region ?_
     refine T.move .list rfl (wants0 rfl) rfl rfl ?_
     refine T.move .list rfl (wants0 rfl) rfl rfl ?_
     obtain ⟨hc1, hk2⟩ := inv_chk hk2
     refine T.idxRo .list 0 rfl rfl (wants0 rfl) rfl rfl rfl hc1.1 hc1.2 (Nat.le_refl _) ?_
     refine T.ldFRo 0 .list Fd.self (Sh.pair Sh.sc (Sh.pair Sh.sc Sh.sc)) rfl (.inl rfl) rfl rfl hc1.1 hc1.2 rfl (wants0 rfl) rfl rfl rfl (v := fun x8 => .agg #[.int .i64 (((((l0).getD (s2.2.2.2.2.2.2.2.2.2.2.2.2.2.2 : Int).toNat default)).1)), .int .i64 (((((l0).getD (s2.2.2.2.2.2.2.2.2.2.2.2.2.2.2 : Int).toNat default)).2.1)), .int .i64 (((((l0).getD (s2.2.2.2.2.2.2.2.2.2.2.2.2.2.2 : Int).toNat default)).2.2))]) (hs' := fun x8 => Ro (Elt.pair E64 (Elt.pair E64 E64)) A0 c0 l0 :: Cl x2.1 99 [.pointer (some ⟨x2.2.1, 0, none⟩), .slice x6.1 s2.1.length x6.2] :: Cl x2.2.1 89 [.pointer (some ⟨x2.2.2.1, 0, none⟩), .int .i64 r1p0.2.1.1, .int .i64 r1p0.2.1.2.1, .int .i64 r1p0.2.1.2.2.1, .int .i64 r1p0.2.1.2.2.2.1, .int .i64 r1p0.2.1.2.2.2.2.1, .int .i64 r1p0.2.1.2.2.2.2.2.1, .int .i64 r1p0.2.1.2.2.2.2.2.2.1, .int .i64 r1p0.2.1.2.2.2.2.2.2.2.1, .int .i64 r1p0.2.1.2.2.2.2.2.2.2.2.1, .int .i64 r1p0.2.1.2.2.2.2.2.2.2.2.2.1, .int .i64 r1p0.2.1.2.2.2.2.2.2.2.2.2.2.1, .int .i64 r1p0.2.1.2.2.2.2.2.2.2.2.2.2.2.1, .int .i64 r1p0.2.1.2.2.2.2.2.2.2.2.2.2.2.2.1, .int .i64 r1p0.2.1.2.2.2.2.2.2.2.2.2.2.2.2.2.1, .int .i64 r1p0.2.1.2.2.2.2.2.2.2.2.2.2.2.2.2.2.1, .int .i64 r1p0.2.1.2.2.2.2.2.2.2.2.2.2.2.2.2.2.2.1, .int .i64 r1p0.2.1.2.2.2.2.2.2.2.2.2.2.2.2.2.2.2.2] :: Cl x2.2.2.1 115 [.pointer (some ⟨x2.2.2.2.1, 0, none⟩), .nilIface, .int .i64 r1p0.2.2.1.1, .int .i64 r1p0.2.2.1.2.1, .nilIface, .int .i64 r1p0.2.2.1.2.2.1, .int .i64 r1p0.2.2.1.2.2.2, .map (some x2.2.2.2.2.2.2.2.2.1), .slice none 0 0, .slice none 0 0, .map (some x2.2.2.2.2.2.2.2.2.2.1)] :: Cl x2.2.2.2.1 134 [.int .i64 r1p0.2.2.2.1.1, .map (some x2.2.2.2.2.1), .pointer (some ⟨x2.2.2.2.2.2.1, 0, none⟩), .int .i64 r1p0.2.2.2.1.2.1, .int .u64 r1p0.2.2.2.1.2.2.1, .int .i64 r1p0.2.2.2.1.2.2.2] :: Mp E64 x2.2.2.2.2.1 r1p0.2.2.2.2.1 :: Cl x2.2.2.2.2.2.1 83 [.int .i64 r1p0.2.2.2.2.2.1.1, .map (some x2.2.2.2.2.2.2.1), .slice x2.2.2.2.2.2.2.2.1.1 r1p0.2.2.2.2.2.2.2.1.length x2.2.2.2.2.2.2.2.1.2, .bool r1p0.2.2.2.2.2.1.2.1, .int .i64 r1p0.2.2.2.2.2.1.2.2.1, .int .i64 r1p0.2.2.2.2.2.1.2.2.2.1, .int .u64 r1p0.2.2.2.2.2.1.2.2.2.2.1, .int .i64 r1p0.2.2.2.2.2.1.2.2.2.2.2.1, .int .i64 r1p0.2.2.2.2.2.1.2.2.2.2.2.2] :: Mp (Elt.slice E8) x2.2.2.2.2.2.2.1 r1p0.2.2.2.2.2.2.1 :: Bf (Elt.pair E64 (Elt.slice E8)) 158 x2.2.2.2.2.2.2.2.1.1 x2.2.2.2.2.2.2.2.1.2 r1p0.2.2.2.2.2.2.2.1 :: Mp E64 x2.2.2.2.2.2.2.2.2.1 r1p0.2.2.2.2.2.2.2.2.1 :: Mp E64 x2.2.2.2.2.2.2.2.2.2.1 r1p0.2.2.2.2.2.2.2.2.2.1 :: Bf (Elt.pair (Elt.pair E64 (Elt.pair (Elt.slice E8) (Elt.slice E8))) EBool) 102 x6.1 x6.2 s2.1 :: Cl x3 50 [.slice none 0 0, .int .i64 0, .int .i64 0, .int .i64 0, .slice none 0 0, .int .i64 0, .int .i64 0, .int .i64 0, .slice none 0 0, .int .i64 0, .int .i64 0, .int .i64 0, .slice none 0 0, .int .i64 0, .int .i64 0, .int .i64 0, .slice none 0 0, .int .i64 0, .int .i64 0, .int .i64 0, .slice none 0 0, .int .i64 0, .int .i64 0, .int .i64 0, .slice none 0 0, .int .i64 0, .int .i64 0, .int .i64 0, .slice none 0 0, .int .i64 0, .int .i64 0, .int .i64 0, .slice none 0 0, .int .i64 s2.2.1, .int .i64 s2.2.2.1, .int .i64 s2.2.2.2.1, .int .i64 s2.2.2.2.2.1, .int .i64 s2.2.2.2.2.2.1, .int .i64 s2.2.2.2.2.2.2.1, .int .i64 s2.2.2.2.2.2.2.2.1, .bool s2.2.2.2.2.2.2.2.2.1, .bool s2.2.2.2.2.2.2.2.2.2.1, .bool s2.2.2.2.2.2.2.2.2.2.2.1, .bool s2.2.2.2.2.2.2.2.2.2.2.2.1, .int .i64 s2.2.2.2.2.2.2.2.2.2.2.2.2.1, .int .i64 s2.2.2.2.2.2.2.2.2.2.2.2.2.2.1] :: hs) (fun _ => rfl) (fun _ => rfl) (fun x8 => ?_)
     refine T.allocS .list rfl (wants0 rfl) rfl (cs := [.int .i64 0, .int .i64 0, .int .i64 0]) rfl (fun b1 => ?_)
     refine T.store .list 0 rfl rfl (wants0 rfl) rfl rfl rfl rfl (Nat.le_of_ble_eq_true rfl) rfl (cs' := [.int .i64 (((((l0).getD (s2.2.2.2.2.2.2.2.2.2.2.2.2.2.2 : Int).toNat default)).1)), .int .i64 (((((l0).getD (s2.2.2.2.2.2.2.2.2.2.2.2.2.2.2 : Int).toNat default)).2.1)), .int .i64 (((((l0).getD (s2.2.2.2.2.2.2.2.2.2.2.2.2.2.2 : Int).toNat default)).2.2))]) rfl rfl ?_
     refine T.nil ?_
     refine T.then_normal ?_
     refine T.seqJ (fun (s4 : Bool) (x9 : Unit) => [(0, .slice A0 l0.length c0), (3, .pointer (some ⟨x2.1, 0, none⟩)), (5, .pointer (some ⟨x3, 0, none⟩)), (6, .int .i64 s2.2.2.2.2.2.2.2.2.2.2.2.2.2.2), (7, .pointer (some ⟨b1, 0, none⟩)), (8, .bool s4)]) (fun s4 x9 => Ro (Elt.pair E64 (Elt.pair E64 E64)) A0 c0 l0 :: Cl x2.1 99 [.pointer (some ⟨x2.2.1, 0, none⟩), .slice x6.1 s2.1.length x6.2] :: Cl x2.2.1 89 [.pointer (some ⟨x2.2.2.1, 0, none⟩), .int .i64 r1p0.2.1.1, .int .i64 r1p0.2.1.2.1, .int .i64 r1p0.2.1.2.2.1, .int .i64 r1p0.2.1.2.2.2.1, .int .i64 r1p0.2.1.2.2.2.2.1, .int .i64 r1p0.2.1.2.2.2.2.2.1, .int .i64 r1p0.2.1.2.2.2.2.2.2.1, .int .i64 r1p0.2.1.2.2.2.2.2.2.2.1, .int .i64 r1p0.2.1.2.2.2.2.2.2.2.2.1, .int .i64 r1p0.2.1.2.2.2.2.2.2.2.2.2.1, .int .i64 r1p0.2.1.2.2.2.2.2.2.2.2.2.2.1, .int .i64 r1p0.2.1.2.2.2.2.2.2.2.2.2.2.2.1, .int .i64 r1p0.2.1.2.2.2.2.2.2.2.2.2.2.2.2.1, .int .i64 r1p0.2.1.2.2.2.2.2.2.2.2.2.2.2.2.2.1, .int .i64 r1p0.2.1.2.2.2.2.2.2.2.2.2.2.2.2.2.2.1, .int .i64 r1p0.2.1.2.2.2.2.2.2.2.2.2.2.2.2.2.2.2.1, .int .i64 r1p0.2.1.2.2.2.2.2.2.2.2.2.2.2.2.2.2.2.2] :: Cl x2.2.2.1 115 [.pointer (some ⟨x2.2.2.2.1, 0, none⟩), .nilIface, .int .i64 r1p0.2.2.1.1, .int .i64 r1p0.2.2.1.2.1, .nilIface, .int .i64 r1p0.2.2.1.2.2.1, .int .i64 r1p0.2.2.1.2.2.2, .map (some x2.2.2.2.2.2.2.2.2.1), .slice none 0 0, .slice none 0 0, .map (some x2.2.2.2.2.2.2.2.2.2.1)] :: Cl x2.2.2.2.1 134 [.int .i64 r1p0.2.2.2.1.1, .map (some x2.2.2.2.2.1), .pointer (some ⟨x2.2.2.2.2.2.1, 0, none⟩), .int .i64 r1p0.2.2.2.1.2.1, .int .u64 r1p0.2.2.2.1.2.2.1, .int .i64 r1p0.2.2.2.1.2.2.2] :: Mp E64 x2.2.2.2.2.1 r1p0.2.2.2.2.1 :: Cl x2.2.2.2.2.2.1 83 [.int .i64 r1p0.2.2.2.2.2.1.1, .map (some x2.2.2.2.2.2.2.1), .slice x2.2.2.2.2.2.2.2.1.1 r1p0.2.2.2.2.2.2.2.1.length x2.2.2.2.2.2.2.2.1.2, .bool r1p0.2.2.2.2.2.1.2.1, .int .i64 r1p0.2.2.2.2.2.1.2.2.1, .int .i64 r1p0.2.2.2.2.2.1.2.2.2.1, .int .u64 r1p0.2.2.2.2.2.1.2.2.2.2.1, .int .i64 r1p0.2.2.2.2.2.1.2.2.2.2.2.1, .int .i64 r1p0.2.2.2.2.2.1.2.2.2.2.2.2] :: Mp (Elt.slice E8) x2.2.2.2.2.2.2.1 r1p0.2.2.2.2.2.2.1 :: Bf (Elt.pair E64 (Elt.slice E8)) 158 x2.2.2.2.2.2.2.2.1.1 x2.2.2.2.2.2.2.2.1.2 r1p0.2.2.2.2.2.2.2.1 :: Mp E64 x2.2.2.2.2.2.2.2.2.1 r1p0.2.2.2.2.2.2.2.2.1 :: Mp E64 x2.2.2.2.2.2.2.2.2.2.1 r1p0.2.2.2.2.2.2.2.2.2.1 :: Bf (Elt.pair (Elt.pair E64 (Elt.pair (Elt.slice E8) (Elt.slice E8))) EBool) 102 x6.1 x6.2 s2.1 :: Cl x3 50 [.slice none 0 0, .int .i64 0, .int .i64 0, .int .i64 0, .slice none 0 0, .int .i64 0, .int .i64 0, .int .i64 0, .slice none 0 0, .int .i64 0, .int .i64 0, .int .i64 0, .slice none 0 0, .int .i64 0, .int .i64 0, .int .i64 0, .slice none 0 0, .int .i64 0, .int .i64 0, .int .i64 0, .slice none 0 0, .int .i64 0, .int .i64 0, .int .i64 0, .slice none 0 0, .int .i64 0, .int .i64 0, .int .i64 0, .slice none 0 0, .int .i64 0, .int .i64 0, .int .i64 0, .slice none 0 0, .int .i64 s2.2.1, .int .i64 s2.2.2.1, .int .i64 s2.2.2.2.1, .int .i64 s2.2.2.2.2.1, .int .i64 s2.2.2.2.2.2.1, .int .i64 s2.2.2.2.2.2.2.1, .int .i64 s2.2.2.2.2.2.2.2.1, .bool s2.2.2.2.2.2.2.2.2.1, .bool s2.2.2.2.2.2.2.2.2.2.1, .bool s2.2.2.2.2.2.2.2.2.2.2.1, .bool s2.2.2.2.2.2.2.2.2.2.2.2.1, .int .i64 s2.2.2.2.2.2.2.2.2.2.2.2.2.1, .int .i64 s2.2.2.2.2.2.2.2.2.2.2.2.2.2.1] :: Cl b1 30 [.int .i64 (((((l0).getD (s2.2.2.2.2.2.2.2.2.2.2.2.2.2.2 : Int).toNat default)).1)), .int .i64 (((((l0).getD (s2.2.2.2.2.2.2.2.2.2.2.2.2.2.2 : Int).toNat default)).2.1)), .int .i64 (((((l0).getD (s2.2.2.2.2.2.2.2.2.2.2.2.2.2.2 : Int).toNat default)).2.2))] :: hs) (fun s4 => law20_ViewPlays.k3 l0 s2 r1p0 s4 = some o1) (fun s4 x9 hk3 => ?_) (fun J3 => ?_)
     ·unfold law20_ViewPlays.k3 at hk3
      refine T.seqJ (fun (s5 : (List ((Int × (List UInt8) × (List UInt8)) × Bool)) × Int × Int × Int × Int × Int × Int × Int × Bool × Bool × Bool × Bool × Int × Int) (x10 : (Option Addr × Nat)) => [(0, .slice A0 l0.length c0), (3, .pointer (some ⟨x2.1, 0, none⟩)), (5, .pointer (some ⟨x3, 0, none⟩)), (6, .int .i64 s2.2.2.2.2.2.2.2.2.2.2.2.2.2.2)]) (fun s5 x10 => Ro (Elt.pair E64 (Elt.pair E64 E64)) A0 c0 l0 :: Cl x2.1 99 [.pointer (some ⟨x2.2.1, 0, none⟩), .slice x10.1 s5.1.length x10.2] :: Cl x2.2.1 89 [.pointer (some ⟨x2.2.2.1, 0, none⟩), .int .i64 r1p0.2.1.1, .int .i64 r1p0.2.1.2.1, .int .i64 r1p0.2.1.2.2.1, .int .i64 r1p0.2.1.2.2.2.1, .int .i64 r1p0.2.1.2.2.2.2.1, .int .i64 r1p0.2.1.2.2.2.2.2.1, .int .i64 r1p0.2.1.2.2.2.2.2.2.1, .int .i64 r1p0.2.1.2.2.2.2.2.2.2.1, .int .i64 r1p0.2.1.2.2.2.2.2.2.2.2.1, .int .i64 r1p0.2.1.2.2.2.2.2.2.2.2.2.1, .int .i64 r1p0.2.1.2.2.2.2.2.2.2.2.2.2.1, .int .i64 r1p0.2.1.2.2.2.2.2.2.2.2.2.2.2.1, .int .i64 r1p0.2.1.2.2.2.2.2.2.2.2.2.2.2.2.1, .int .i64 r1p0.2.1.2.2.2.2.2.2.2.2.2.2.2.2.2.1, .int .i64 r1p0.2.1.2.2.2.2.2.2.2.2.2.2.2.2.2.2.1, .int .i64 r1p0.2.1.2.2.2.2.2.2.2.2.2.2.2.2.2.2.2.1, .int .i64 r1p0.2.1.2.2.2.2.2.2.2.2.2.2.2.2.2.2.2.2] :: Cl x2.2.2.1 115 [.pointer (some ⟨x2.2.2.2.1, 0, none⟩), .nilIface, .int .i64 r1p0.2.2.1.1, .int .i64 r1p0.2.2.1.2.1, .nilIface, .int .i64 r1p0.2.2.1.2.2.1, .int .i64 r1p0.2.2.1.2.2.2, .map (some x2.2.2.2.2.2.2.2.2.1), .slice none 0 0, .slice none 0 0, .map (some x2.2.2.2.2.2.2.2.2.2.1)] :: Cl x2.2.2.2.1 134 [.int .i64 r1p0.2.2.2.1.1, .map (some x2.2.2.2.2.1), .pointer (some ⟨x2.2.2.2.2.2.1, 0, none⟩), .int .i64 r1p0.2.2.2.1.2.1, .int .u64 r1p0.2.2.2.1.2.2.1, .int .i64 r1p0.2.2.2.1.2.2.2] :: Mp E64 x2.2.2.2.2.1 r1p0.2.2.2.2.1 :: Cl x2.2.2.2.2.2.1 83 [.int .i64 r1p0.2.2.2.2.2.1.1, .map (some x2.2.2.2.2.2.2.1), .slice x2.2.2.2.2.2.2.2.1.1 r1p0.2.2.2.2.2.2.2.1.length x2.2.2.2.2.2.2.2.1.2, .bool r1p0.2.2.2.2.2.1.2.1, .int .i64 r1p0.2.2.2.2.2.1.2.2.1, .int .i64 r1p0.2.2.2.2.2.1.2.2.2.1, .int .u64 r1p0.2.2.2.2.2.1.2.2.2.2.1, .int .i64 r1p0.2.2.2.2.2.1.2.2.2.2.2.1, .int .i64 r1p0.2.2.2.2.2.1.2.2.2.2.2.2] :: Mp (Elt.slice E8) x2.2.2.2.2.2.2.1 r1p0.2.2.2.2.2.2.1 :: Bf (Elt.pair E64 (Elt.slice E8)) 158 x2.2.2.2.2.2.2.2.1.1 x2.2.2.2.2.2.2.2.1.2 r1p0.2.2.2.2.2.2.2.1 :: Mp E64 x2.2.2.2.2.2.2.2.2.1 r1p0.2.2.2.2.2.2.2.2.1 :: Mp E64 x2.2.2.2.2.2.2.2.2.2.1 r1p0.2.2.2.2.2.2.2.2.2.1 :: Bf (Elt.pair (Elt.pair E64 (Elt.pair (Elt.slice E8) (Elt.slice E8))) EBool) 102 x10.1 x10.2 s5.1 :: Cl x3 50 [.slice none 0 0, .int .i64 0, .int .i64 0, .int .i64 0, .slice none 0 0, .int .i64 0, .int .i64 0, .int .i64 0, .slice none 0 0, .int .i64 0, .int .i64 0, .int .i64 0, .slice none 0 0, .int .i64 0, .int .i64 0, .int .i64 0, .slice none 0 0, .int .i64 0, .int .i64 0, .int .i64 0, .slice none 0 0, .int .i64 0, .int .i64 0, .int .i64 0, .slice none 0 0, .int .i64 0, .int .i64 0, .int .i64 0, .slice none 0 0, .int .i64 0, .int .i64 0, .int .i64 0, .slice none 0 0, .int .i64 s5.2.1, .int .i64 s5.2.2.1, .int .i64 s5.2.2.2.1, .int .i64 s5.2.2.2.2.1, .int .i64 s5.2.2.2.2.2.1, .int .i64 s5.2.2.2.2.2.2.1, .int .i64 s5.2.2.2.2.2.2.2.1, .bool s5.2.2.2.2.2.2.2.2.1, .bool s5.2.2.2.2.2.2.2.2.2.1, .bool s5.2.2.2.2.2.2.2.2.2.2.1, .bool s5.2.2.2.2.2.2.2.2.2.2.2.1, .int .i64 s5.2.2.2.2.2.2.2.2.2.2.2.2.1, .int .i64 s5.2.2.2.2.2.2.2.2.2.2.2.2.2] :: hs) (fun s5 => law20_ViewPlays.k4 r1p0 s2 s5 = some o1) (fun s5 x10 hk4 => ?_) (fun J4 => ?_)
      ·unfold law20_ViewPlays.k4 at hk4
       refine T.seq ?_
       refine T.region ?_
       refine T.move .list rfl (wants0 rfl) rfl rfl ?_
       refine T.pick [1, 2, 3, 4, 5, 6, 7, 8, 9, 10, 11, 0, 12] 13 rfl rfl (Nat.le_add_left _ _) (hs' := Cl x2.1 99 [.pointer (some ⟨x2.2.1, 0, none⟩), .slice x10.1 s5.1.length x10.2] :: Cl x2.2.1 89 [.pointer (some ⟨x2.2.2.1, 0, none⟩), .int .i64 r1p0.2.1.1, .int .i64 r1p0.2.1.2.1, .int .i64 r1p0.2.1.2.2.1, .int .i64 r1p0.2.1.2.2.2.1, .int .i64 r1p0.2.1.2.2.2.2.1, .int .i64 r1p0.2.1.2.2.2.2.2.1, .int .i64 r1p0.2.1.2.2.2.2.2.2.1, .int .i64 r1p0.2.1.2.2.2.2.2.2.2.1, .int .i64 r1p0.2.1.2.2.2.2.2.2.2.2.1, .int .i64 r1p0.2.1.2.2.2.2.2.2.2.2.2.1, .int .i64 r1p0.2.1.2.2.2.2.2.2.2.2.2.2.1, .int .i64 r1p0.2.1.2.2.2.2.2.2.2.2.2.2.2.1, .int .i64 r1p0.2.1.2.2.2.2.2.2.2.2.2.2.2.2.1, .int .i64 r1p0.2.1.2.2.2.2.2.2.2.2.2.2.2.2.2.1, .int .i64 r1p0.2.1.2.2.2.2.2.2.2.2.2.2.2.2.2.2.1, .int .i64 r1p0.2.1.2.2.2.2.2.2.2.2.2.2.2.2.2.2.2.1, .int .i64 r1p0.2.1.2.2.2.2.2.2.2.2.2.2.2.2.2.2.2.2] :: Cl x2.2.2.1 115 [.pointer (some ⟨x2.2.2.2.1, 0, none⟩), .nilIface, .int .i64 r1p0.2.2.1.1, .int .i64 r1p0.2.2.1.2.1, .nilIface, .int .i64 r1p0.2.2.1.2.2.1, .int .i64 r1p0.2.2.1.2.2.2, .map (some x2.2.2.2.2.2.2.2.2.1), .slice none 0 0, .slice none 0 0, .map (some x2.2.2.2.2.2.2.2.2.2.1)] :: Cl x2.2.2.2.1 134 [.int .i64 r1p0.2.2.2.1.1, .map (some x2.2.2.2.2.1), .pointer (some ⟨x2.2.2.2.2.2.1, 0, none⟩), .int .i64 r1p0.2.2.2.1.2.1, .int .u64 r1p0.2.2.2.1.2.2.1, .int .i64 r1p0.2.2.2.1.2.2.2] :: Mp E64 x2.2.2.2.2.1 r1p0.2.2.2.2.1 :: Cl x2.2.2.2.2.2.1 83 [.int .i64 r1p0.2.2.2.2.2.1.1, .map (some x2.2.2.2.2.2.2.1), .slice x2.2.2.2.2.2.2.2.1.1 r1p0.2.2.2.2.2.2.2.1.length x2.2.2.2.2.2.2.2.1.2, .bool r1p0.2.2.2.2.2.1.2.1, .int .i64 r1p0.2.2.2.2.2.1.2.2.1, .int .i64 r1p0.2.2.2.2.2.1.2.2.2.1, .int .u64 r1p0.2.2.2.2.2.1.2.2.2.2.1, .int .i64 r1p0.2.2.2.2.2.1.2.2.2.2.2.1, .int .i64 r1p0.2.2.2.2.2.1.2.2.2.2.2.2] :: Mp (Elt.slice E8) x2.2.2.2.2.2.2.1 r1p0.2.2.2.2.2.2.1 :: Bf (Elt.pair E64 (Elt.slice E8)) 158 x2.2.2.2.2.2.2.2.1.1 x2.2.2.2.2.2.2.2.1.2 r1p0.2.2.2.2.2.2.2.1 :: Mp E64 x2.2.2.2.2.2.2.2.2.1 r1p0.2.2.2.2.2.2.2.2.1 :: Mp E64 x2.2.2.2.2.2.2.2.2.2.1 r1p0.2.2.2.2.2.2.2.2.2.1 :: Bf (Elt.pair (Elt.pair E64 (Elt.pair (Elt.slice E8) (Elt.slice E8))) EBool) 102 x10.1 x10.2 s5.1 :: Ro (Elt.pair E64 (Elt.pair E64 E64)) A0 c0 l0 :: Cl x3 50 [.slice none 0 0, .int .i64 0, .int .i64 0, .int .i64 0, .slice none 0 0, .int .i64 0, .int .i64 0, .int .i64 0, .slice none 0 0, .int .i64 0, .int .i64 0, .int .i64 0, .slice none 0 0, .int .i64 0, .int .i64 0, .int .i64 0, .slice none 0 0, .int .i64 0, .int .i64 0, .int .i64 0, .slice none 0 0, .int .i64 0, .int .i64 0, .int .i64 0, .slice none 0 0, .int .i64 0, .int .i64 0, .int .i64 0, .slice none 0 0, .int .i64 0, .int .i64 0, .int .i64 0, .slice none 0 0, .int .i64 s5.2.1, .int .i64 s5.2.2.1, .int .i64 s5.2.2.2.1, .int .i64 s5.2.2.2.2.1, .int .i64 s5.2.2.2.2.2.1, .int .i64 s5.2.2.2.2.2.2.1, .int .i64 s5.2.2.2.2.2.2.2.1, .bool s5.2.2.2.2.2.2.2.2.1, .bool s5.2.2.2.2.2.2.2.2.2.1, .bool s5.2.2.2.2.2.2.2.2.2.2.1, .bool s5.2.2.2.2.2.2.2.2.2.2.2.1, .int .i64 s5.2.2.2.2.2.2.2.2.2.2.2.2.1, .int .i64 s5.2.2.2.2.2.2.2.2.2.2.2.2.2] :: hs) rfl ?_
       obtain ⟨r4, hg4, hk4⟩ := inv_bind hk4
       refine T.call .list (wants0 rfl) rfl (run_callF (vs := [_]) rfl Try.func13 rfl (by decide) rfl) (fun w hS => view_Least.c hS (o0a := (r1p0.2.1.1, r1p0.2.1.2.1, r1p0.2.1.2.2.1, r1p0.2.1.2.2.2.1, r1p0.2.1.2.2.2.2.1, r1p0.2.1.2.2.2.2.2.1, r1p0.2.1.2.2.2.2.2.2.1, r1p0.2.1.2.2.2.2.2.2.2.1, r1p0.2.1.2.2.2.2.2.2.2.2.1, r1p0.2.1.2.2.2.2.2.2.2.2.2.1, r1p0.2.1.2.2.2.2.2.2.2.2.2.2.1, r1p0.2.1.2.2.2.2.2.2.2.2.2.2.2.1, r1p0.2.1.2.2.2.2.2.2.2.2.2.2.2.2.1, r1p0.2.1.2.2.2.2.2.2.2.2.2.2.2.2.2.1, r1p0.2.1.2.2.2.2.2.2.2.2.2.2.2.2.2.2.1, r1p0.2.1.2.2.2.2.2.2.2.2.2.2.2.2.2.2.2.1, r1p0.2.1.2.2.2.2.2.2.2.2.2.2.2.2.2.2.2.2)) (o0aa := (r1p0.2.2.1.1, r1p0.2.2.1.2.1, r1p0.2.2.1.2.2.1, r1p0.2.2.1.2.2.2)) (o0aaa := (r1p0.2.2.2.1.1, r1p0.2.2.2.1.2.1, r1p0.2.2.2.1.2.2.1, r1p0.2.2.2.1.2.2.2)) (q0aaab := r1p0.2.2.2.2.1) (o0aaac := (r1p0.2.2.2.2.2.1.1, r1p0.2.2.2.2.2.1.2.1, r1p0.2.2.2.2.2.1.2.2.1, r1p0.2.2.2.2.2.1.2.2.2.1, r1p0.2.2.2.2.2.1.2.2.2.2.1, r1p0.2.2.2.2.2.1.2.2.2.2.2.1, r1p0.2.2.2.2.2.1.2.2.2.2.2.2)) (q0aaacb := r1p0.2.2.2.2.2.2.1) (q0aaacc := r1p0.2.2.2.2.2.2.2.1) (q0aah := r1p0.2.2.2.2.2.2.2.2.1) (q0aak := r1p0.2.2.2.2.2.2.2.2.2.1) (q0b := s5.1)  hg4) (fun x11 => ?_)
       refine T.move .list rfl (wants0 rfl) rfl rfl ?_
       refine T.extract .list rfl (wants0 rfl) rfl rfl rfl ?_
       refine T.extract .list rfl (wants0 rfl) rfl rfl rfl ?_
       refine T.extract .list rfl (wants0 rfl) rfl rfl rfl ?_
       refine T.assign .list rfl (wants0 rfl) rfl rfl ?_
       refine T.assign .list rfl (wants0 rfl) rfl rfl ?_
       refine T.assign .list rfl (wants0 rfl) rfl rfl ?_
       refine T.nil ?_
       refine T.then_normal ?_
       refine T.seq ?_
       refine T.region ?_
       refine T.move .list rfl (wants0 rfl) rfl rfl ?_
       refine T.pick [12, 0, 1, 2, 3, 4, 5, 6, 7, 8, 9, 10, 11] 13 rfl rfl (Nat.le_add_left _ _) (hs' := Cl x3 50 [.slice none 0 0, .int .i64 0, .int .i64 0, .int .i64 0, .slice none 0 0, .int .i64 0, .int .i64 0, .int .i64 0, .slice none 0 0, .int .i64 0, .int .i64 0, .int .i64 0, .slice none 0 0, .int .i64 0, .int .i64 0, .int .i64 0, .slice none 0 0, .int .i64 0, .int .i64 0, .int .i64 0, .slice none 0 0, .int .i64 0, .int .i64 0, .int .i64 0, .slice none 0 0, .int .i64 0, .int .i64 0, .int .i64 0, .slice none 0 0, .int .i64 0, .int .i64 0, .int .i64 0, .slice none 0 0, .int .i64 s5.2.1, .int .i64 s5.2.2.1, .int .i64 s5.2.2.2.1, .int .i64 s5.2.2.2.2.1, .int .i64 s5.2.2.2.2.2.1, .int .i64 s5.2.2.2.2.2.2.1, .int .i64 s5.2.2.2.2.2.2.2.1, .bool s5.2.2.2.2.2.2.2.2.1, .bool s5.2.2.2.2.2.2.2.2.2.1, .bool s5.2.2.2.2.2.2.2.2.2.2.1, .bool s5.2.2.2.2.2.2.2.2.2.2.2.1, .int .i64 s5.2.2.2.2.2.2.2.2.2.2.2.2.1, .int .i64 s5.2.2.2.2.2.2.2.2.2.2.2.2.2] :: Cl x2.1 99 [.pointer (some ⟨x2.2.1, 0, none⟩), .slice x10.1 s5.1.length x10.2] :: Cl x2.2.1 89 [.pointer (some ⟨x2.2.2.1, 0, none⟩), .int .i64 r1p0.2.1.1, .int .i64 r1p0.2.1.2.1, .int .i64 r1p0.2.1.2.2.1, .int .i64 r1p0.2.1.2.2.2.1, .int .i64 r1p0.2.1.2.2.2.2.1, .int .i64 r1p0.2.1.2.2.2.2.2.1, .int .i64 r1p0.2.1.2.2.2.2.2.2.1, .int .i64 r1p0.2.1.2.2.2.2.2.2.2.1, .int .i64 r1p0.2.1.2.2.2.2.2.2.2.2.1, .int .i64 r1p0.2.1.2.2.2.2.2.2.2.2.2.1, .int .i64 r1p0.2.1.2.2.2.2.2.2.2.2.2.2.1, .int .i64 r1p0.2.1.2.2.2.2.2.2.2.2.2.2.2.1, .int .i64 r1p0.2.1.2.2.2.2.2.2.2.2.2.2.2.2.1, .int .i64 r1p0.2.1.2.2.2.2.2.2.2.2.2.2.2.2.2.1, .int .i64 r1p0.2.1.2.2.2.2.2.2.2.2.2.2.2.2.2.2.1, .int .i64 r1p0.2.1.2.2.2.2.2.2.2.2.2.2.2.2.2.2.2.1, .int .i64 r1p0.2.1.2.2.2.2.2.2.2.2.2.2.2.2.2.2.2.2] :: Cl x2.2.2.1 115 [.pointer (some ⟨x2.2.2.2.1, 0, none⟩), .nilIface, .int .i64 r1p0.2.2.1.1, .int .i64 r1p0.2.2.1.2.1, .nilIface, .int .i64 r1p0.2.2.1.2.2.1, .int .i64 r1p0.2.2.1.2.2.2, .map (some x2.2.2.2.2.2.2.2.2.1), .slice none 0 0, .slice none 0 0, .map (some x2.2.2.2.2.2.2.2.2.2.1)] :: Cl x2.2.2.2.1 134 [.int .i64 r1p0.2.2.2.1.1, .map (some x2.2.2.2.2.1), .pointer (some ⟨x2.2.2.2.2.2.1, 0, none⟩), .int .i64 r1p0.2.2.2.1.2.1, .int .u64 r1p0.2.2.2.1.2.2.1, .int .i64 r1p0.2.2.2.1.2.2.2] :: Mp E64 x2.2.2.2.2.1 r1p0.2.2.2.2.1 :: Cl x2.2.2.2.2.2.1 83 [.int .i64 r1p0.2.2.2.2.2.1.1, .map (some x2.2.2.2.2.2.2.1), .slice x2.2.2.2.2.2.2.2.1.1 r1p0.2.2.2.2.2.2.2.1.length x2.2.2.2.2.2.2.2.1.2, .bool r1p0.2.2.2.2.2.1.2.1, .int .i64 r1p0.2.2.2.2.2.1.2.2.1, .int .i64 r1p0.2.2.2.2.2.1.2.2.2.1, .int .u64 r1p0.2.2.2.2.2.1.2.2.2.2.1, .int .i64 r1p0.2.2.2.2.2.1.2.2.2.2.2.1, .int .i64 r1p0.2.2.2.2.2.1.2.2.2.2.2.2] :: Mp (Elt.slice E8) x2.2.2.2.2.2.2.1 r1p0.2.2.2.2.2.2.1 :: Bf (Elt.pair E64 (Elt.slice E8)) 158 x2.2.2.2.2.2.2.2.1.1 x2.2.2.2.2.2.2.2.1.2 r1p0.2.2.2.2.2.2.2.1 :: Mp E64 x2.2.2.2.2.2.2.2.2.1 r1p0.2.2.2.2.2.2.2.2.1 :: Mp E64 x2.2.2.2.2.2.2.2.2.2.1 r1p0.2.2.2.2.2.2.2.2.2.1 :: Bf (Elt.pair (Elt.pair E64 (Elt.pair (Elt.slice E8) (Elt.slice E8))) EBool) 102 x10.1 x10.2 s5.1 :: Ro (Elt.pair E64 (Elt.pair E64 E64)) A0 c0 l0 :: hs) rfl ?_
       obtain ⟨r5, hg5, hk4⟩ := inv_bind hk4
       refine T.call .list (wants0 rfl) rfl (run_callF (vs := [_]) rfl Try.func14 rfl (by decide) rfl) (fun w hS => ref21_Base_Least.c hS (o0 := (s5.2.1, s5.2.2.1, s5.2.2.2.1, s5.2.2.2.2.1, s5.2.2.2.2.2.1, s5.2.2.2.2.2.2.1, s5.2.2.2.2.2.2.2.1, s5.2.2.2.2.2.2.2.2.1, s5.2.2.2.2.2.2.2.2.2.1, s5.2.2.2.2.2.2.2.2.2.2.1, s5.2.2.2.2.2.2.2.2.2.2.2.1, s5.2.2.2.2.2.2.2.2.2.2.2.2.1, s5.2.2.2.2.2.2.2.2.2.2.2.2.2))  hg5) (fun x12 => ?_)
       refine T.move .list rfl (wants0 rfl) rfl rfl ?_
       refine T.extract .list rfl (wants0 rfl) rfl rfl rfl ?_
       refine T.extract .list rfl (wants0 rfl) rfl rfl rfl ?_
       refine T.assign .list rfl (wants0 rfl) rfl rfl ?_
       refine T.assign .list rfl (wants0 rfl) rfl rfl ?_
       refine T.nil ?_
       refine T.then_normal ?_
       refine T.seq ?_
       refine T.region ?_
       refine T.move .list rfl (wants0 rfl) rfl rfl ?_
       refine T.pick [1, 2, 3, 4, 5, 6, 7, 8, 9, 10, 11, 0, 12] 13 rfl rfl (Nat.le_add_left _ _) (hs' := Cl x2.1 99 [.pointer (some ⟨x2.2.1, 0, none⟩), .slice x10.1 s5.1.length x10.2] :: Cl x2.2.1 89 [.pointer (some ⟨x2.2.2.1, 0, none⟩), .int .i64 r1p0.2.1.1, .int .i64 r1p0.2.1.2.1, .int .i64 r1p0.2.1.2.2.1, .int .i64 r1p0.2.1.2.2.2.1, .int .i64 r1p0.2.1.2.2.2.2.1, .int .i64 r1p0.2.1.2.2.2.2.2.1, .int .i64 r1p0.2.1.2.2.2.2.2.2.1, .int .i64 r1p0.2.1.2.2.2.2.2.2.2.1, .int .i64 r1p0.2.1.2.2.2.2.2.2.2.2.1, .int .i64 r1p0.2.1.2.2.2.2.2.2.2.2.2.1, .int .i64 r1p0.2.1.2.2.2.2.2.2.2.2.2.2.1, .int .i64 r1p0.2.1.2.2.2.2.2.2.2.2.2.2.2.1, .int .i64 r1p0.2.1.2.2.2.2.2.2.2.2.2.2.2.2.1, .int .i64 r1p0.2.1.2.2.2.2.2.2.2.2.2.2.2.2.2.1, .int .i64 r1p0.2.1.2.2.2.2.2.2.2.2.2.2.2.2.2.2.1, .int .i64 r1p0.2.1.2.2.2.2.2.2.2.2.2.2.2.2.2.2.2.1, .int .i64 r1p0.2.1.2.2.2.2.2.2.2.2.2.2.2.2.2.2.2.2] :: Cl x2.2.2.1 115 [.pointer (some ⟨x2.2.2.2.1, 0, none⟩), .nilIface, .int .i64 r1p0.2.2.1.1, .int .i64 r1p0.2.2.1.2.1, .nilIface, .int .i64 r1p0.2.2.1.2.2.1, .int .i64 r1p0.2.2.1.2.2.2, .map (some x2.2.2.2.2.2.2.2.2.1), .slice none 0 0, .slice none 0 0, .map (some x2.2.2.2.2.2.2.2.2.2.1)] :: Cl x2.2.2.2.1 134 [.int .i64 r1p0.2.2.2.1.1, .map (some x2.2.2.2.2.1), .pointer (some ⟨x2.2.2.2.2.2.1, 0, none⟩), .int .i64 r1p0.2.2.2.1.2.1, .int .u64 r1p0.2.2.2.1.2.2.1, .int .i64 r1p0.2.2.2.1.2.2.2] :: Mp E64 x2.2.2.2.2.1 r1p0.2.2.2.2.1 :: Cl x2.2.2.2.2.2.1 83 [.int .i64 r1p0.2.2.2.2.2.1.1, .map (some x2.2.2.2.2.2.2.1), .slice x2.2.2.2.2.2.2.2.1.1 r1p0.2.2.2.2.2.2.2.1.length x2.2.2.2.2.2.2.2.1.2, .bool r1p0.2.2.2.2.2.1.2.1, .int .i64 r1p0.2.2.2.2.2.1.2.2.1, .int .i64 r1p0.2.2.2.2.2.1.2.2.2.1, .int .u64 r1p0.2.2.2.2.2.1.2.2.2.2.1, .int .i64 r1p0.2.2.2.2.2.1.2.2.2.2.2.1, .int .i64 r1p0.2.2.2.2.2.1.2.2.2.2.2.2] :: Mp (Elt.slice E8) x2.2.2.2.2.2.2.1 r1p0.2.2.2.2.2.2.1 :: Bf (Elt.pair E64 (Elt.slice E8)) 158 x2.2.2.2.2.2.2.2.1.1 x2.2.2.2.2.2.2.2.1.2 r1p0.2.2.2.2.2.2.2.1 :: Mp E64 x2.2.2.2.2.2.2.2.2.1 r1p0.2.2.2.2.2.2.2.2.1 :: Mp E64 x2.2.2.2.2.2.2.2.2.2.1 r1p0.2.2.2.2.2.2.2.2.2.1 :: Bf (Elt.pair (Elt.pair E64 (Elt.pair (Elt.slice E8) (Elt.slice E8))) EBool) 102 x10.1 x10.2 s5.1 :: Cl x3 50 [.slice none 0 0, .int .i64 0, .int .i64 0, .int .i64 0, .slice none 0 0, .int .i64 0, .int .i64 0, .int .i64 0, .slice none 0 0, .int .i64 0, .int .i64 0, .int .i64 0, .slice none 0 0, .int .i64 0, .int .i64 0, .int .i64 0, .slice none 0 0, .int .i64 0, .int .i64 0, .int .i64 0, .slice none 0 0, .int .i64 0, .int .i64 0, .int .i64 0, .slice none 0 0, .int .i64 0, .int .i64 0, .int .i64 0, .slice none 0 0, .int .i64 0, .int .i64 0, .int .i64 0, .slice none 0 0, .int .i64 s5.2.1, .int .i64 s5.2.2.1, .int .i64 s5.2.2.2.1, .int .i64 s5.2.2.2.2.1, .int .i64 s5.2.2.2.2.2.1, .int .i64 s5.2.2.2.2.2.2.1, .int .i64 s5.2.2.2.2.2.2.2.1, .bool s5.2.2.2.2.2.2.2.2.1, .bool s5.2.2.2.2.2.2.2.2.2.1, .bool s5.2.2.2.2.2.2.2.2.2.2.1, .bool s5.2.2.2.2.2.2.2.2.2.2.2.1, .int .i64 s5.2.2.2.2.2.2.2.2.2.2.2.2.1, .int .i64 s5.2.2.2.2.2.2.2.2.2.2.2.2.2] :: Ro (Elt.pair E64 (Elt.pair E64 E64)) A0 c0 l0 :: hs) rfl ?_
       obtain ⟨r6, hg6, hk4⟩ := inv_bind hk4
       refine T.call .list (wants0 rfl) rfl (run_callF (vs := [_]) rfl Try.func10 rfl (by decide) rfl) (fun w hS => view_Version.c hS (o0a := (r1p0.2.1.1, r1p0.2.1.2.1, r1p0.2.1.2.2.1, r1p0.2.1.2.2.2.1, r1p0.2.1.2.2.2.2.1, r1p0.2.1.2.2.2.2.2.1, r1p0.2.1.2.2.2.2.2.2.1, r1p0.2.1.2.2.2.2.2.2.2.1, r1p0.2.1.2.2.2.2.2.2.2.2.1, r1p0.2.1.2.2.2.2.2.2.2.2.2.1, r1p0.2.1.2.2.2.2.2.2.2.2.2.2.1, r1p0.2.1.2.2.2.2.2.2.2.2.2.2.2.1, r1p0.2.1.2.2.2.2.2.2.2.2.2.2.2.2.1, r1p0.2.1.2.2.2.2.2.2.2.2.2.2.2.2.2.1, r1p0.2.1.2.2.2.2.2.2.2.2.2.2.2.2.2.2.1, r1p0.2.1.2.2.2.2.2.2.2.2.2.2.2.2.2.2.2.1, r1p0.2.1.2.2.2.2.2.2.2.2.2.2.2.2.2.2.2.2)) (o0aa := (r1p0.2.2.1.1, r1p0.2.2.1.2.1, r1p0.2.2.1.2.2.1, r1p0.2.2.1.2.2.2)) (o0aaa := (r1p0.2.2.2.1.1, r1p0.2.2.2.1.2.1, r1p0.2.2.2.1.2.2.1, r1p0.2.2.2.1.2.2.2)) (q0aaab := r1p0.2.2.2.2.1) (o0aaac := (r1p0.2.2.2.2.2.1.1, r1p0.2.2.2.2.2.1.2.1, r1p0.2.2.2.2.2.1.2.2.1, r1p0.2.2.2.2.2.1.2.2.2.1, r1p0.2.2.2.2.2.1.2.2.2.2.1, r1p0.2.2.2.2.2.1.2.2.2.2.2.1, r1p0.2.2.2.2.2.1.2.2.2.2.2.2)) (q0aaacb := r1p0.2.2.2.2.2.2.1) (q0aaacc := r1p0.2.2.2.2.2.2.2.1) (q0aah := r1p0.2.2.2.2.2.2.2.2.1) (q0aak := r1p0.2.2.2.2.2.2.2.2.2.1) (q0b := s5.1)  hg6) (fun x13 => ?_)
       refine T.move .list rfl (wants0 rfl) rfl rfl ?_
       refine T.extract .list rfl (wants0 rfl) rfl rfl rfl ?_
       refine T.extract .list rfl (wants0 rfl) rfl rfl rfl ?_
       refine T.assign .list rfl (wants0 rfl) rfl rfl ?_
       refine T.assign .list rfl (wants0 rfl) rfl rfl ?_
       refine T.nil ?_
       refine T.then_normal ?_
       refine T.seqJ (fun (s6 : Bool) (x14 : Unit) => [(0, .slice A0 l0.length c0), (3, .pointer (some ⟨x2.1, 0, none⟩)), (5, .pointer (some ⟨x3, 0, none⟩)), (6, .int .i64 s2.2.2.2.2.2.2.2.2.2.2.2.2.2.2), (204, .bool s6)]) (fun s6 x14 => Ro (Elt.pair E64 (Elt.pair E64 E64)) A0 c0 l0 :: Cl x2.1 99 [.pointer (some ⟨x2.2.1, 0, none⟩), .slice x10.1 s5.1.length x10.2] :: Cl x2.2.1 89 [.pointer (some ⟨x2.2.2.1, 0, none⟩), .int .i64 r1p0.2.1.1, .int .i64 r1p0.2.1.2.1, .int .i64 r1p0.2.1.2.2.1, .int .i64 r1p0.2.1.2.2.2.1, .int .i64 r1p0.2.1.2.2.2.2.1, .int .i64 r1p0.2.1.2.2.2.2.2.1, .int .i64 r1p0.2.1.2.2.2.2.2.2.1, .int .i64 r1p0.2.1.2.2.2.2.2.2.2.1, .int .i64 r1p0.2.1.2.2.2.2.2.2.2.2.1, .int .i64 r1p0.2.1.2.2.2.2.2.2.2.2.2.1, .int .i64 r1p0.2.1.2.2.2.2.2.2.2.2.2.2.1, .int .i64 r1p0.2.1.2.2.2.2.2.2.2.2.2.2.2.1, .int .i64 r1p0.2.1.2.2.2.2.2.2.2.2.2.2.2.2.1, .int .i64 r1p0.2.1.2.2.2.2.2.2.2.2.2.2.2.2.2.1, .int .i64 r1p0.2.1.2.2.2.2.2.2.2.2.2.2.2.2.2.2.1, .int .i64 r1p0.2.1.2.2.2.2.2.2.2.2.2.2.2.2.2.2.2.1, .int .i64 r1p0.2.1.2.2.2.2.2.2.2.2.2.2.2.2.2.2.2.2] :: Cl x2.2.2.1 115 [.pointer (some ⟨x2.2.2.2.1, 0, none⟩), .nilIface, .int .i64 r1p0.2.2.1.1, .int .i64 r1p0.2.2.1.2.1, .nilIface, .int .i64 r1p0.2.2.1.2.2.1, .int .i64 r1p0.2.2.1.2.2.2, .map (some x2.2.2.2.2.2.2.2.2.1), .slice none 0 0, .slice none 0 0, .map (some x2.2.2.2.2.2.2.2.2.2.1)] :: Cl x2.2.2.2.1 134 [.int .i64 r1p0.2.2.2.1.1, .map (some x2.2.2.2.2.1), .pointer (some ⟨x2.2.2.2.2.2.1, 0, none⟩), .int .i64 r1p0.2.2.2.1.2.1, .int .u64 r1p0.2.2.2.1.2.2.1, .int .i64 r1p0.2.2.2.1.2.2.2] :: Mp E64 x2.2.2.2.2.1 r1p0.2.2.2.2.1 :: Cl x2.2.2.2.2.2.1 83 [.int .i64 r1p0.2.2.2.2.2.1.1, .map (some x2.2.2.2.2.2.2.1), .slice x2.2.2.2.2.2.2.2.1.1 r1p0.2.2.2.2.2.2.2.1.length x2.2.2.2.2.2.2.2.1.2, .bool r1p0.2.2.2.2.2.1.2.1, .int .i64 r1p0.2.2.2.2.2.1.2.2.1, .int .i64 r1p0.2.2.2.2.2.1.2.2.2.1, .int .u64 r1p0.2.2.2.2.2.1.2.2.2.2.1, .int .i64 r1p0.2.2.2.2.2.1.2.2.2.2.2.1, .int .i64 r1p0.2.2.2.2.2.1.2.2.2.2.2.2] :: Mp (Elt.slice E8) x2.2.2.2.2.2.2.1 r1p0.2.2.2.2.2.2.1 :: Bf (Elt.pair E64 (Elt.slice E8)) 158 x2.2.2.2.2.2.2.2.1.1 x2.2.2.2.2.2.2.2.1.2 r1p0.2.2.2.2.2.2.2.1 :: Mp E64 x2.2.2.2.2.2.2.2.2.1 r1p0.2.2.2.2.2.2.2.2.1 :: Mp E64 x2.2.2.2.2.2.2.2.2.2.1 r1p0.2.2.2.2.2.2.2.2.2.1 :: Bf (Elt.pair (Elt.pair E64 (Elt.pair (Elt.slice E8) (Elt.slice E8))) EBool) 102 x10.1 x10.2 s5.1 :: Cl x3 50 [.slice none 0 0, .int .i64 0, .int .i64 0, .int .i64 0, .slice none 0 0, .int .i64 0, .int .i64 0, .int .i64 0, .slice none 0 0, .int .i64 0, .int .i64 0, .int .i64 0, .slice none 0 0, .int .i64 0, .int .i64 0, .int .i64 0, .slice none 0 0, .int .i64 0, .int .i64 0, .int .i64 0, .slice none 0 0, .int .i64 0, .int .i64 0, .int .i64 0, .slice none 0 0, .int .i64 0, .int .i64 0, .int .i64 0, .slice none 0 0, .int .i64 0, .int .i64 0, .int .i64 0, .slice none 0 0, .int .i64 s5.2.1, .int .i64 s5.2.2.1, .int .i64 s5.2.2.2.1, .int .i64 s5.2.2.2.2.1, .int .i64 s5.2.2.2.2.2.1, .int .i64 s5.2.2.2.2.2.2.1, .int .i64 s5.2.2.2.2.2.2.2.1, .bool s5.2.2.2.2.2.2.2.2.1, .bool s5.2.2.2.2.2.2.2.2.2.1, .bool s5.2.2.2.2.2.2.2.2.2.2.1, .bool s5.2.2.2.2.2.2.2.2.2.2.2.1, .int .i64 s5.2.2.2.2.2.2.2.2.2.2.2.2.1, .int .i64 s5.2.2.2.2.2.2.2.2.2.2.2.2.2] :: hs) (fun s6 => law20_ViewPlays.k5 s5 s2 s6 = some o1) (fun s6 x14 hk5 => ?_) (fun J5 => ?_)
       ·unfold law20_ViewPlays.k5 at hk5
        refine T.cond rfl (fun hb2 => ?_) (fun hb2 => ?_)
        ·replace hk5 := inv_posB hb2 hk5
         refine T.seq ?_
         refine T.region ?_
         refine T.assign .list rfl (wants0 rfl) rfl rfl ?_
         refine T.nil ?_
         refine T.then_normal ?_
         refine T.ret ?_
         refine T.in_ret ?_
         refine T.then_ret ?_
         refine T.then_ret ?_
         obtain rfl := inv_some hk5
         obtain rfl := hx1 _ rfl
         refine T.in_ret ?_
         refine T.then_ret ?_
         obtain rfl := inv_some hr
         refine T.pick [] 13 rfl rfl (Nat.le_add_left _ _) rfl ?_
         refine T.ret1 rfl rfl (fun w hS => ⟨(), rfl, hS⟩)
        ·replace hk5 := inv_negB hb2 hk5
         refine T.skip ?_
         refine T.in_normal ?_
         refine T.then_normal ?_
         refine T.region ?_
         refine T.move .list rfl (wants0 rfl) rfl rfl ?_
         refine T.bin .list rfl (wants0 rfl) rfl rfl rfl rfl ?_
         refine T.assign .list rfl (wants0 rfl) rfl rfl ?_
         refine T.nil ?_
         refine T.then_normal ?_
         obtain rfl := inv_some hk5
         exact T.le (EnvLe.cons rfl (EnvLe.cons rfl (EnvLe.cons rfl (EnvLe.cons rfl EnvLe.nil)))) (T.pick [0, 1, 2, 3, 4, 5, 6, 7, 8, 9, 10, 11, 12] 13 rfl rfl (Nat.le_add_left _ _) rfl (hm1 (s5.1, s5.2.1, s5.2.2.1, s5.2.2.2.1, s5.2.2.2.2.1, s5.2.2.2.2.2.1, s5.2.2.2.2.2.2.1, s5.2.2.2.2.2.2.2.1, s5.2.2.2.2.2.2.2.2.1, s5.2.2.2.2.2.2.2.2.2.1, s5.2.2.2.2.2.2.2.2.2.2.1, s5.2.2.2.2.2.2.2.2.2.2.2.1, s5.2.2.2.2.2.2.2.2.2.2.2.2.1, s5.2.2.2.2.2.2.2.2.2.2.2.2.2, IntKind.i64.wrap (s2.2.2.2.2.2.2.2.2.2.2.2.2.2.2 + 1)) rfl (x10.1, x10.2)))
       ·refine T.region ?_
        refine T.move .list rfl (wants0 rfl) rfl rfl ?_
        refine T.bin .list rfl (wants0 rfl) rfl rfl rfl rfl ?_
        refine T.move .list rfl (wants0 rfl) rfl rfl ?_
        refine T.bool (b := (decide (r4.2.2 = 0))) (fun hb3 => ?_) (fun hb3 => ?_)
        ·replace hk4 := inv_posB hb3 hk4
         refine T.move .list rfl (wants1 rfl rfl rfl (not_t hb3)) rfl rfl ?_
         refine T.move .list rfl (wants1 rfl rfl rfl (not_t hb3)) rfl rfl ?_
         refine T.bin .list rfl (wants1 rfl rfl rfl (not_t hb3)) rfl rfl rfl rfl ?_
         refine T.pickF .list rfl (wants0 rfl) rfl rfl (not_t hb3) rfl ?_
         refine T.move .list rfl (wants0 rfl) rfl rfl ?_
         refine T.bool (b := (decide (r4.1 = r5.1))) (fun hb4 => ?_) (fun hb4 => ?_)
         ·replace hk4 := inv_posB hb4 hk4
          refine T.move .list rfl (wants1 rfl rfl rfl (not_t hb4)) rfl rfl ?_
          refine T.move .list rfl (wants1 rfl rfl rfl (not_t hb4)) rfl rfl ?_
          refine T.boolNe .list rfl (wants1 rfl rfl rfl (not_t hb4)) rfl rfl rfl (by kernel_rfl) ?_
          refine T.pickF .list rfl (wants0 rfl) rfl rfl (not_t hb4) rfl ?_
          refine T.move .list rfl (wants0 rfl) rfl rfl ?_
          refine T.bool (b := (decide (r4.2.1 = r5.2))) (fun hb5 => ?_) (fun hb5 => ?_)
          ·replace hk4 := inv_posB hb5 hk4
           refine T.move .list rfl (wants1 rfl rfl rfl (not_t hb5)) rfl rfl ?_
           refine T.bin .list rfl (wants1 rfl rfl rfl (not_t hb5)) rfl rfl rfl rfl ?_
           refine T.pickF .list rfl (wants0 rfl) rfl rfl (not_t hb5) rfl ?_
           refine T.move .list rfl (wants0 rfl) rfl rfl ?_
           refine T.bool (b := (decide (r6.2 = 0))) (fun hb6 => ?_) (fun hb6 => ?_)
           ·replace hk4 := inv_posB hb6 hk4
            refine T.move .list rfl (wants1 rfl rfl rfl (not_t hb6)) rfl rfl ?_
            refine T.move .list rfl (wants1 rfl rfl rfl (not_t hb6)) rfl rfl ?_
            refine T.nilCheck .list rfl (wants1 rfl rfl rfl (not_t hb6)) rfl rfl ?_
            refine T.field .list rfl (wants1 rfl rfl rfl (not_t hb6)) rfl rfl ?_
            refine T.load .list 11 rfl rfl (wants1 rfl rfl rfl (not_t hb6)) rfl rfl rfl ?_
            refine T.bin .list rfl (wants1 rfl rfl rfl (not_t hb6)) rfl rfl rfl rfl ?_
            refine T.pickF .list rfl (wants0 rfl) rfl rfl (not_t hb6) rfl ?_
            refine T.nil ?_
            refine T.then_normal ?_
            exact T.le (EnvLe.cons rfl (EnvLe.cons rfl (EnvLe.cons rfl (EnvLe.cons rfl (EnvLe.cons rfl EnvLe.nil))))) (T.pick [12, 0, 1, 2, 3, 4, 5, 6, 7, 8, 9, 10, 11] 13 rfl rfl (Nat.le_add_left _ _) rfl (J5 (!(decide (r6.1 = s5.2.2.2.2.2.2.2.2.2.2.2.2.1))) () hk4))
           ·replace hk4 := inv_negB hb6 hk4
            refine T.leave .list (wantsNot rfl rfl rfl (not_f hb6)) rfl ?_
            refine T.leave .list (wantsNot rfl rfl rfl (not_f hb6)) rfl ?_
            refine T.leave .list (wantsNot rfl rfl rfl (not_f hb6)) rfl ?_
            refine T.leave .list (wantsNot rfl rfl rfl (not_f hb6)) rfl ?_
            refine T.leave .list (wantsNot rfl rfl rfl (not_f hb6)) rfl ?_
            refine T.leave .list (wantsNot rfl rfl rfl (not_f hb6)) rfl ?_
            refine T.pickT .list rfl (wants0 rfl) rfl rfl (not_f hb6) rfl ?_
            refine T.nil ?_
            refine T.then_normal ?_
            exact T.le (EnvLe.cons rfl (EnvLe.cons rfl (EnvLe.cons rfl (EnvLe.cons rfl (EnvLe.cons rfl EnvLe.nil))))) (T.pick [12, 0, 1, 2, 3, 4, 5, 6, 7, 8, 9, 10, 11] 13 rfl rfl (Nat.le_add_left _ _) rfl (J5 true () hk4))
          ·replace hk4 := inv_negB hb5 hk4
           refine T.leave .list (wantsNot rfl rfl rfl (not_f hb5)) rfl ?_
           refine T.leave .list (wantsNot rfl rfl rfl (not_f hb5)) rfl ?_
           refine T.pickT .list rfl (wants0 rfl) rfl rfl (not_f hb5) rfl ?_
           refine T.move .list rfl (wants0 rfl) rfl rfl ?_
           refine T.leave .list (wantsNot rfl rfl rfl rfl) rfl ?_
           refine T.leave .list (wantsNot rfl rfl rfl rfl) rfl ?_
           refine T.leave .list (wantsNot rfl rfl rfl rfl) rfl ?_
           refine T.leave .list (wantsNot rfl rfl rfl rfl) rfl ?_
           refine T.leave .list (wantsNot rfl rfl rfl rfl) rfl ?_
           refine T.leave .list (wantsNot rfl rfl rfl rfl) rfl ?_
           refine T.pickT .list rfl (wants0 rfl) rfl rfl rfl rfl ?_
           refine T.nil ?_
           refine T.then_normal ?_
           exact T.le (EnvLe.cons rfl (EnvLe.cons rfl (EnvLe.cons rfl (EnvLe.cons rfl (EnvLe.cons rfl EnvLe.nil))))) (T.pick [12, 0, 1, 2, 3, 4, 5, 6, 7, 8, 9, 10, 11] 13 rfl rfl (Nat.le_add_left _ _) rfl (J5 true () hk4))
         ·replace hk4 := inv_negB hb4 hk4
          refine T.leave .list (wantsNot rfl rfl rfl (not_f hb4)) rfl ?_
          refine T.leave .list (wantsNot rfl rfl rfl (not_f hb4)) rfl ?_
          refine T.leave .list (wantsNot rfl rfl rfl (not_f hb4)) rfl ?_
          refine T.pickT .list rfl (wants0 rfl) rfl rfl (not_f hb4) rfl ?_
          refine T.move .list rfl (wants0 rfl) rfl rfl ?_
          refine T.leave .list (wantsNot rfl rfl rfl rfl) rfl ?_
          refine T.leave .list (wantsNot rfl rfl rfl rfl) rfl ?_
          refine T.pickT .list rfl (wants0 rfl) rfl rfl rfl rfl ?_
          refine T.move .list rfl (wants0 rfl) rfl rfl ?_
          refine T.leave .list (wantsNot rfl rfl rfl rfl) rfl ?_
          refine T.leave .list (wantsNot rfl rfl rfl rfl) rfl ?_
          refine T.leave .list (wantsNot rfl rfl rfl rfl) rfl ?_
          refine T.leave .list (wantsNot rfl rfl rfl rfl) rfl ?_
          refine T.leave .list (wantsNot rfl rfl rfl rfl) rfl ?_
          refine T.leave .list (wantsNot rfl rfl rfl rfl) rfl ?_
          refine T.pickT .list rfl (wants0 rfl) rfl rfl rfl rfl ?_
          refine T.nil ?_
          refine T.then_normal ?_
          exact T.le (EnvLe.cons rfl (EnvLe.cons rfl (EnvLe.cons rfl (EnvLe.cons rfl (EnvLe.cons rfl EnvLe.nil))))) (T.pick [12, 0, 1, 2, 3, 4, 5, 6, 7, 8, 9, 10, 11] 13 rfl rfl (Nat.le_add_left _ _) rfl (J5 true () hk4))
        ·replace hk4 := inv_negB hb3 hk4
         refine T.leave .list (wantsNot rfl rfl rfl (not_f hb3)) rfl ?_
         refine T.leave .list (wantsNot rfl rfl rfl (not_f hb3)) rfl ?_
         refine T.leave .list (wantsNot rfl rfl rfl (not_f hb3)) rfl ?_
         refine T.pickT .list rfl (wants0 rfl) rfl rfl (not_f hb3) rfl ?_
         refine T.move .list rfl (wants0 rfl) rfl rfl ?_
         refine T.leave .list (wantsNot rfl rfl rfl rfl) rfl ?_
         refine T.leave .list (wantsNot rfl rfl rfl rfl) rfl ?_
         refine T.leave .list (wantsNot rfl rfl rfl rfl) rfl ?_
         refine T.pickT .list rfl (wants0 rfl) rfl rfl rfl rfl ?_
         refine T.move .list rfl (wants0 rfl) rfl rfl ?_
         refine T.leave .list (wantsNot rfl rfl rfl rfl) rfl ?_
         refine T.leave .list (wantsNot rfl rfl rfl rfl) rfl ?_
         refine T.pickT .list rfl (wants0 rfl) rfl rfl rfl rfl ?_
         refine T.move .list rfl (wants0 rfl) rfl rfl ?_
         refine T.leave .list (wantsNot rfl rfl rfl rfl) rfl ?_
         refine T.leave .list (wantsNot rfl rfl rfl rfl) rfl ?_
         refine T.leave .list (wantsNot rfl rfl rfl rfl) rfl ?_
         refine T.leave .list (wantsNot rfl rfl rfl rfl) rfl ?_
         refine T.leave .list (wantsNot rfl rfl rfl rfl) rfl ?_
         refine T.leave .list (wantsNot rfl rfl rfl rfl) rfl ?_
         refine T.pickT .list rfl (wants0 rfl) rfl rfl rfl rfl ?_
         refine T.nil ?_
         refine T.then_normal ?_
         exact T.le (EnvLe.cons rfl (EnvLe.cons rfl (EnvLe.cons rfl (EnvLe.cons rfl (EnvLe.cons rfl EnvLe.nil))))) (T.pick [12, 0, 1, 2, 3, 4, 5, 6, 7, 8, 9, 10, 11] 13 rfl rfl (Nat.le_add_left _ _) rfl (J5 true () hk4))
      ·refine T.seq ?_
       refine T.region ?_
       refine T.field .list rfl (wants0 rfl) rfl rfl ?_
       refine T.load .list 13 rfl rfl (wants0 rfl) rfl rfl rfl ?_
       refine T.nil ?_
       refine T.then_normal ?_
       refine T.block ?_
       refine T.seq ?_
       refine T.region ?_
       refine T.bin .list rfl (wants0 rfl) rfl rfl rfl rfl ?_
       refine T.assign .list rfl (wants0 rfl) rfl rfl ?_
       refine T.nil ?_
       refine T.then_normal ?_
       refine T.cond rfl (fun hb7 => ?_) (fun hb7 => ?_)
       ·replace hk3 := inv_posB hb7 hk3
        refine T.seq ?_
        refine T.region ?_
        refine T.move .list rfl (wants0 rfl) rfl rfl ?_
        refine T.field .list rfl (wants0 rfl) rfl rfl ?_
        refine T.load .list 13 rfl rfl (wants0 rfl) rfl rfl rfl ?_
        refine T.field .list rfl (wants0 rfl) rfl rfl ?_
        refine T.load .list 13 rfl rfl (wants0 rfl) rfl rfl rfl ?_
        refine T.pick [1, 2, 3, 4, 5, 6, 7, 8, 9, 10, 11, 0, 12, 13] 14 rfl rfl (Nat.le_add_left _ _) (hs' := Cl x2.1 99 [.pointer (some ⟨x2.2.1, 0, none⟩), .slice x6.1 s2.1.length x6.2] :: Cl x2.2.1 89 [.pointer (some ⟨x2.2.2.1, 0, none⟩), .int .i64 r1p0.2.1.1, .int .i64 r1p0.2.1.2.1, .int .i64 r1p0.2.1.2.2.1, .int .i64 r1p0.2.1.2.2.2.1, .int .i64 r1p0.2.1.2.2.2.2.1, .int .i64 r1p0.2.1.2.2.2.2.2.1, .int .i64 r1p0.2.1.2.2.2.2.2.2.1, .int .i64 r1p0.2.1.2.2.2.2.2.2.2.1, .int .i64 r1p0.2.1.2.2.2.2.2.2.2.2.1, .int .i64 r1p0.2.1.2.2.2.2.2.2.2.2.2.1, .int .i64 r1p0.2.1.2.2.2.2.2.2.2.2.2.2.1, .int .i64 r1p0.2.1.2.2.2.2.2.2.2.2.2.2.2.1, .int .i64 r1p0.2.1.2.2.2.2.2.2.2.2.2.2.2.2.1, .int .i64 r1p0.2.1.2.2.2.2.2.2.2.2.2.2.2.2.2.1, .int .i64 r1p0.2.1.2.2.2.2.2.2.2.2.2.2.2.2.2.2.1, .int .i64 r1p0.2.1.2.2.2.2.2.2.2.2.2.2.2.2.2.2.2.1, .int .i64 r1p0.2.1.2.2.2.2.2.2.2.2.2.2.2.2.2.2.2.2] :: Cl x2.2.2.1 115 [.pointer (some ⟨x2.2.2.2.1, 0, none⟩), .nilIface, .int .i64 r1p0.2.2.1.1, .int .i64 r1p0.2.2.1.2.1, .nilIface, .int .i64 r1p0.2.2.1.2.2.1, .int .i64 r1p0.2.2.1.2.2.2, .map (some x2.2.2.2.2.2.2.2.2.1), .slice none 0 0, .slice none 0 0, .map (some x2.2.2.2.2.2.2.2.2.2.1)] :: Cl x2.2.2.2.1 134 [.int .i64 r1p0.2.2.2.1.1, .map (some x2.2.2.2.2.1), .pointer (some ⟨x2.2.2.2.2.2.1, 0, none⟩), .int .i64 r1p0.2.2.2.1.2.1, .int .u64 r1p0.2.2.2.1.2.2.1, .int .i64 r1p0.2.2.2.1.2.2.2] :: Mp E64 x2.2.2.2.2.1 r1p0.2.2.2.2.1 :: Cl x2.2.2.2.2.2.1 83 [.int .i64 r1p0.2.2.2.2.2.1.1, .map (some x2.2.2.2.2.2.2.1), .slice x2.2.2.2.2.2.2.2.1.1 r1p0.2.2.2.2.2.2.2.1.length x2.2.2.2.2.2.2.2.1.2, .bool r1p0.2.2.2.2.2.1.2.1, .int .i64 r1p0.2.2.2.2.2.1.2.2.1, .int .i64 r1p0.2.2.2.2.2.1.2.2.2.1, .int .u64 r1p0.2.2.2.2.2.1.2.2.2.2.1, .int .i64 r1p0.2.2.2.2.2.1.2.2.2.2.2.1, .int .i64 r1p0.2.2.2.2.2.1.2.2.2.2.2.2] :: Mp (Elt.slice E8) x2.2.2.2.2.2.2.1 r1p0.2.2.2.2.2.2.1 :: Bf (Elt.pair E64 (Elt.slice E8)) 158 x2.2.2.2.2.2.2.2.1.1 x2.2.2.2.2.2.2.2.1.2 r1p0.2.2.2.2.2.2.2.1 :: Mp E64 x2.2.2.2.2.2.2.2.2.1 r1p0.2.2.2.2.2.2.2.2.1 :: Mp E64 x2.2.2.2.2.2.2.2.2.2.1 r1p0.2.2.2.2.2.2.2.2.2.1 :: Bf (Elt.pair (Elt.pair E64 (Elt.pair (Elt.slice E8) (Elt.slice E8))) EBool) 102 x6.1 x6.2 s2.1 :: Ro (Elt.pair E64 (Elt.pair E64 E64)) A0 c0 l0 :: Cl x3 50 [.slice none 0 0, .int .i64 0, .int .i64 0, .int .i64 0, .slice none 0 0, .int .i64 0, .int .i64 0, .int .i64 0, .slice none 0 0, .int .i64 0, .int .i64 0, .int .i64 0, .slice none 0 0, .int .i64 0, .int .i64 0, .int .i64 0, .slice none 0 0, .int .i64 0, .int .i64 0, .int .i64 0, .slice none 0 0, .int .i64 0, .int .i64 0, .int .i64 0, .slice none 0 0, .int .i64 0, .int .i64 0, .int .i64 0, .slice none 0 0, .int .i64 0, .int .i64 0, .int .i64 0, .slice none 0 0, .int .i64 s2.2.1, .int .i64 s2.2.2.1, .int .i64 s2.2.2.2.1, .int .i64 s2.2.2.2.2.1, .int .i64 s2.2.2.2.2.2.1, .int .i64 s2.2.2.2.2.2.2.1, .int .i64 s2.2.2.2.2.2.2.2.1, .bool s2.2.2.2.2.2.2.2.2.1, .bool s2.2.2.2.2.2.2.2.2.2.1, .bool s2.2.2.2.2.2.2.2.2.2.2.1, .bool s2.2.2.2.2.2.2.2.2.2.2.2.1, .int .i64 s2.2.2.2.2.2.2.2.2.2.2.2.2.1, .int .i64 s2.2.2.2.2.2.2.2.2.2.2.2.2.2.1] :: Cl b1 30 [.int .i64 (((((l0).getD (s2.2.2.2.2.2.2.2.2.2.2.2.2.2.2 : Int).toNat default)).1)), .int .i64 (((((l0).getD (s2.2.2.2.2.2.2.2.2.2.2.2.2.2.2 : Int).toNat default)).2.1)), .int .i64 (((((l0).getD (s2.2.2.2.2.2.2.2.2.2.2.2.2.2.2 : Int).toNat default)).2.2))] :: hs) rfl ?_
        obtain ⟨r7, hg7, hk3⟩ := inv_bind hk3
        refine T.call .list (wants0 rfl) rfl (run_callF (vs := [_, _, _]) rfl Try.func7 rfl (by decide) rfl) (fun w hS => view_Note.c hS (o0a := (r1p0.2.1.1, r1p0.2.1.2.1, r1p0.2.1.2.2.1, r1p0.2.1.2.2.2.1, r1p0.2.1.2.2.2.2.1, r1p0.2.1.2.2.2.2.2.1, r1p0.2.1.2.2.2.2.2.2.1, r1p0.2.1.2.2.2.2.2.2.2.1, r1p0.2.1.2.2.2.2.2.2.2.2.1, r1p0.2.1.2.2.2.2.2.2.2.2.2.1, r1p0.2.1.2.2.2.2.2.2.2.2.2.2.1, r1p0.2.1.2.2.2.2.2.2.2.2.2.2.2.1, r1p0.2.1.2.2.2.2.2.2.2.2.2.2.2.2.1, r1p0.2.1.2.2.2.2.2.2.2.2.2.2.2.2.2.1, r1p0.2.1.2.2.2.2.2.2.2.2.2.2.2.2.2.2.1, r1p0.2.1.2.2.2.2.2.2.2.2.2.2.2.2.2.2.2.1, r1p0.2.1.2.2.2.2.2.2.2.2.2.2.2.2.2.2.2.2)) (o0aa := (r1p0.2.2.1.1, r1p0.2.2.1.2.1, r1p0.2.2.1.2.2.1, r1p0.2.2.1.2.2.2)) (o0aaa := (r1p0.2.2.2.1.1, r1p0.2.2.2.1.2.1, r1p0.2.2.2.1.2.2.1, r1p0.2.2.2.1.2.2.2)) (q0aaab := r1p0.2.2.2.2.1) (o0aaac := (r1p0.2.2.2.2.2.1.1, r1p0.2.2.2.2.2.1.2.1, r1p0.2.2.2.2.2.1.2.2.1, r1p0.2.2.2.2.2.1.2.2.2.1, r1p0.2.2.2.2.2.1.2.2.2.2.1, r1p0.2.2.2.2.2.1.2.2.2.2.2.1, r1p0.2.2.2.2.2.1.2.2.2.2.2.2)) (q0aaacb := r1p0.2.2.2.2.2.2.1) (q0aaacc := r1p0.2.2.2.2.2.2.2.1) (q0aah := r1p0.2.2.2.2.2.2.2.2.1) (q0aak := r1p0.2.2.2.2.2.2.2.2.2.1) (q0b := s2.1)  hg7) (fun x15 => ?_)
        refine T.assign .list rfl (wants0 rfl) rfl rfl ?_
        refine T.nil ?_
        refine T.then_normal ?_
        refine T.seqJ (fun (s7 : Bool) (x16 : Unit) => [(0, .slice A0 l0.length c0), (3, .pointer (some ⟨x2.1, 0, none⟩)), (5, .pointer (some ⟨x3, 0, none⟩)), (6, .int .i64 s2.2.2.2.2.2.2.2.2.2.2.2.2.2.2), (7, .pointer (some ⟨b1, 0, none⟩)), (9, .int .i64 r7.1), (102, .bool s7)]) (fun s7 x16 => Ro (Elt.pair E64 (Elt.pair E64 E64)) A0 c0 l0 :: Cl x2.1 99 [.pointer (some ⟨x2.2.1, 0, none⟩), .slice x15.1 r7.2.length x15.2] :: Cl x2.2.1 89 [.pointer (some ⟨x2.2.2.1, 0, none⟩), .int .i64 r1p0.2.1.1, .int .i64 r1p0.2.1.2.1, .int .i64 r1p0.2.1.2.2.1, .int .i64 r1p0.2.1.2.2.2.1, .int .i64 r1p0.2.1.2.2.2.2.1, .int .i64 r1p0.2.1.2.2.2.2.2.1, .int .i64 r1p0.2.1.2.2.2.2.2.2.1, .int .i64 r1p0.2.1.2.2.2.2.2.2.2.1, .int .i64 r1p0.2.1.2.2.2.2.2.2.2.2.1, .int .i64 r1p0.2.1.2.2.2.2.2.2.2.2.2.1, .int .i64 r1p0.2.1.2.2.2.2.2.2.2.2.2.2.1, .int .i64 r1p0.2.1.2.2.2.2.2.2.2.2.2.2.2.1, .int .i64 r1p0.2.1.2.2.2.2.2.2.2.2.2.2.2.2.1, .int .i64 r1p0.2.1.2.2.2.2.2.2.2.2.2.2.2.2.2.1, .int .i64 r1p0.2.1.2.2.2.2.2.2.2.2.2.2.2.2.2.2.1, .int .i64 r1p0.2.1.2.2.2.2.2.2.2.2.2.2.2.2.2.2.2.1, .int .i64 r1p0.2.1.2.2.2.2.2.2.2.2.2.2.2.2.2.2.2.2] :: Cl x2.2.2.1 115 [.pointer (some ⟨x2.2.2.2.1, 0, none⟩), .nilIface, .int .i64 r1p0.2.2.1.1, .int .i64 r1p0.2.2.1.2.1, .nilIface, .int .i64 r1p0.2.2.1.2.2.1, .int .i64 r1p0.2.2.1.2.2.2, .map (some x2.2.2.2.2.2.2.2.2.1), .slice none 0 0, .slice none 0 0, .map (some x2.2.2.2.2.2.2.2.2.2.1)] :: Cl x2.2.2.2.1 134 [.int .i64 r1p0.2.2.2.1.1, .map (some x2.2.2.2.2.1), .pointer (some ⟨x2.2.2.2.2.2.1, 0, none⟩), .int .i64 r1p0.2.2.2.1.2.1, .int .u64 r1p0.2.2.2.1.2.2.1, .int .i64 r1p0.2.2.2.1.2.2.2] :: Mp E64 x2.2.2.2.2.1 r1p0.2.2.2.2.1 :: Cl x2.2.2.2.2.2.1 83 [.int .i64 r1p0.2.2.2.2.2.1.1, .map (some x2.2.2.2.2.2.2.1), .slice x2.2.2.2.2.2.2.2.1.1 r1p0.2.2.2.2.2.2.2.1.length x2.2.2.2.2.2.2.2.1.2, .bool r1p0.2.2.2.2.2.1.2.1, .int .i64 r1p0.2.2.2.2.2.1.2.2.1, .int .i64 r1p0.2.2.2.2.2.1.2.2.2.1, .int .u64 r1p0.2.2.2.2.2.1.2.2.2.2.1, .int .i64 r1p0.2.2.2.2.2.1.2.2.2.2.2.1, .int .i64 r1p0.2.2.2.2.2.1.2.2.2.2.2.2] :: Mp (Elt.slice E8) x2.2.2.2.2.2.2.1 r1p0.2.2.2.2.2.2.1 :: Bf (Elt.pair E64 (Elt.slice E8)) 158 x2.2.2.2.2.2.2.2.1.1 x2.2.2.2.2.2.2.2.1.2 r1p0.2.2.2.2.2.2.2.1 :: Mp E64 x2.2.2.2.2.2.2.2.2.1 r1p0.2.2.2.2.2.2.2.2.1 :: Mp E64 x2.2.2.2.2.2.2.2.2.2.1 r1p0.2.2.2.2.2.2.2.2.2.1 :: Bf (Elt.pair (Elt.pair E64 (Elt.pair (Elt.slice E8) (Elt.slice E8))) EBool) 102 x15.1 x15.2 r7.2 :: Cl x3 50 [.slice none 0 0, .int .i64 0, .int .i64 0, .int .i64 0, .slice none 0 0, .int .i64 0, .int .i64 0, .int .i64 0, .slice none 0 0, .int .i64 0, .int .i64 0, .int .i64 0, .slice none 0 0, .int .i64 0, .int .i64 0, .int .i64 0, .slice none 0 0, .int .i64 0, .int .i64 0, .int .i64 0, .slice none 0 0, .int .i64 0, .int .i64 0, .int .i64 0, .slice none 0 0, .int .i64 0, .int .i64 0, .int .i64 0, .slice none 0 0, .int .i64 0, .int .i64 0, .int .i64 0, .slice none 0 0, .int .i64 s2.2.1, .int .i64 s2.2.2.1, .int .i64 s2.2.2.2.1, .int .i64 s2.2.2.2.2.1, .int .i64 s2.2.2.2.2.2.1, .int .i64 s2.2.2.2.2.2.2.1, .int .i64 s2.2.2.2.2.2.2.2.1, .bool s2.2.2.2.2.2.2.2.2.1, .bool s2.2.2.2.2.2.2.2.2.2.1, .bool s2.2.2.2.2.2.2.2.2.2.2.1, .bool s2.2.2.2.2.2.2.2.2.2.2.2.1, .int .i64 s2.2.2.2.2.2.2.2.2.2.2.2.2.1, .int .i64 s2.2.2.2.2.2.2.2.2.2.2.2.2.2.1] :: Cl b1 30 [.int .i64 (((((l0).getD (s2.2.2.2.2.2.2.2.2.2.2.2.2.2.2 : Int).toNat default)).1)), .int .i64 (((((l0).getD (s2.2.2.2.2.2.2.2.2.2.2.2.2.2.2 : Int).toNat default)).2.1)), .int .i64 (((((l0).getD (s2.2.2.2.2.2.2.2.2.2.2.2.2.2.2 : Int).toNat default)).2.2))] :: hs) (fun s7 => law20_ViewPlays.k6 r7 r1p0 s2 l0 s7 = some o1) (fun s7 x16 hk6 => ?_) (fun J6 => ?_)
        ·unfold law20_ViewPlays.k6 at hk6
         refine T.cond rfl (fun hb8 => ?_) (fun hb8 => ?_)
         ·replace hk6 := inv_posB hb8 hk6
          refine T.seq ?_
          refine T.region ?_
          refine T.move .list rfl (wants0 rfl) rfl rfl ?_
          refine T.bin .list rfl (wants0 rfl) rfl rfl rfl rfl ?_
          refine T.nil ?_
          refine T.then_normal ?_
          refine T.cond rfl (fun hb9 => ?_) (fun hb9 => ?_)
          ·replace hk6 := inv_posB hb9 hk6
           refine T.seq ?_
           refine T.region ?_
           refine T.assign .list rfl (wants0 rfl) rfl rfl ?_
           refine T.nil ?_
           refine T.then_normal ?_
           refine T.ret ?_
           refine T.in_ret ?_
           refine T.then_ret ?_
           refine T.in_ret ?_
           refine T.then_ret ?_
           refine T.then_ret ?_
           obtain rfl := inv_some hk6
           obtain rfl := hx1 _ rfl
           refine T.in_ret ?_
           refine T.then_ret ?_
           obtain rfl := inv_some hr
           refine T.pick [] 14 rfl rfl (Nat.le_add_left _ _) rfl ?_
           refine T.ret1 rfl rfl (fun w hS => ⟨(), rfl, hS⟩)
          ·replace hk6 := inv_negB hb9 hk6
           refine T.skip ?_
           refine T.in_normal ?_
           refine T.then_normal ?_
           exact T.le (EnvLe.cons rfl (EnvLe.cons rfl (EnvLe.cons rfl (EnvLe.cons rfl EnvLe.nil)))) (T.pick [0, 1, 2, 3, 4, 5, 6, 7, 8, 9, 10, 11, 12] 14 rfl rfl (Nat.le_add_left _ _) rfl (J4 (r7.2, s2.2.1, s2.2.2.1, s2.2.2.2.1, s2.2.2.2.2.1, s2.2.2.2.2.2.1, s2.2.2.2.2.2.2.1, s2.2.2.2.2.2.2.2.1, s2.2.2.2.2.2.2.2.2.1, s2.2.2.2.2.2.2.2.2.2.1, s2.2.2.2.2.2.2.2.2.2.2.1, s2.2.2.2.2.2.2.2.2.2.2.2.1, s2.2.2.2.2.2.2.2.2.2.2.2.2.1, s2.2.2.2.2.2.2.2.2.2.2.2.2.2.1) (x15.1, x15.2) hk6))
         ·replace hk6 := inv_negB hb8 hk6
          refine T.seq ?_
          refine T.region ?_
          refine T.move .list rfl (wants0 rfl) rfl rfl ?_
          refine T.field .list rfl (wants0 rfl) rfl rfl ?_
          refine T.load .list 13 rfl rfl (wants0 rfl) rfl rfl rfl ?_
          refine T.field .list rfl (wants0 rfl) rfl rfl ?_
          refine T.load .list 13 rfl rfl (wants0 rfl) rfl rfl rfl ?_
          refine T.pick [12, 0, 1, 2, 3, 4, 5, 6, 7, 8, 9, 10, 11, 13] 14 rfl rfl (Nat.le_add_left _ _) (hs' := Cl x3 50 [.slice none 0 0, .int .i64 0, .int .i64 0, .int .i64 0, .slice none 0 0, .int .i64 0, .int .i64 0, .int .i64 0, .slice none 0 0, .int .i64 0, .int .i64 0, .int .i64 0, .slice none 0 0, .int .i64 0, .int .i64 0, .int .i64 0, .slice none 0 0, .int .i64 0, .int .i64 0, .int .i64 0, .slice none 0 0, .int .i64 0, .int .i64 0, .int .i64 0, .slice none 0 0, .int .i64 0, .int .i64 0, .int .i64 0, .slice none 0 0, .int .i64 0, .int .i64 0, .int .i64 0, .slice none 0 0, .int .i64 s2.2.1, .int .i64 s2.2.2.1, .int .i64 s2.2.2.2.1, .int .i64 s2.2.2.2.2.1, .int .i64 s2.2.2.2.2.2.1, .int .i64 s2.2.2.2.2.2.2.1, .int .i64 s2.2.2.2.2.2.2.2.1, .bool s2.2.2.2.2.2.2.2.2.1, .bool s2.2.2.2.2.2.2.2.2.2.1, .bool s2.2.2.2.2.2.2.2.2.2.2.1, .bool s2.2.2.2.2.2.2.2.2.2.2.2.1, .int .i64 s2.2.2.2.2.2.2.2.2.2.2.2.2.1, .int .i64 s2.2.2.2.2.2.2.2.2.2.2.2.2.2.1] :: Ro (Elt.pair E64 (Elt.pair E64 E64)) A0 c0 l0 :: Cl x2.1 99 [.pointer (some ⟨x2.2.1, 0, none⟩), .slice x15.1 r7.2.length x15.2] :: Cl x2.2.1 89 [.pointer (some ⟨x2.2.2.1, 0, none⟩), .int .i64 r1p0.2.1.1, .int .i64 r1p0.2.1.2.1, .int .i64 r1p0.2.1.2.2.1, .int .i64 r1p0.2.1.2.2.2.1, .int .i64 r1p0.2.1.2.2.2.2.1, .int .i64 r1p0.2.1.2.2.2.2.2.1, .int .i64 r1p0.2.1.2.2.2.2.2.2.1, .int .i64 r1p0.2.1.2.2.2.2.2.2.2.1, .int .i64 r1p0.2.1.2.2.2.2.2.2.2.2.1, .int .i64 r1p0.2.1.2.2.2.2.2.2.2.2.2.1, .int .i64 r1p0.2.1.2.2.2.2.2.2.2.2.2.2.1, .int .i64 r1p0.2.1.2.2.2.2.2.2.2.2.2.2.2.1, .int .i64 r1p0.2.1.2.2.2.2.2.2.2.2.2.2.2.2.1, .int .i64 r1p0.2.1.2.2.2.2.2.2.2.2.2.2.2.2.2.1, .int .i64 r1p0.2.1.2.2.2.2.2.2.2.2.2.2.2.2.2.2.1, .int .i64 r1p0.2.1.2.2.2.2.2.2.2.2.2.2.2.2.2.2.2.1, .int .i64 r1p0.2.1.2.2.2.2.2.2.2.2.2.2.2.2.2.2.2.2] :: Cl x2.2.2.1 115 [.pointer (some ⟨x2.2.2.2.1, 0, none⟩), .nilIface, .int .i64 r1p0.2.2.1.1, .int .i64 r1p0.2.2.1.2.1, .nilIface, .int .i64 r1p0.2.2.1.2.2.1, .int .i64 r1p0.2.2.1.2.2.2, .map (some x2.2.2.2.2.2.2.2.2.1), .slice none 0 0, .slice none 0 0, .map (some x2.2.2.2.2.2.2.2.2.2.1)] :: Cl x2.2.2.2.1 134 [.int .i64 r1p0.2.2.2.1.1, .map (some x2.2.2.2.2.1), .pointer (some ⟨x2.2.2.2.2.2.1, 0, none⟩), .int .i64 r1p0.2.2.2.1.2.1, .int .u64 r1p0.2.2.2.1.2.2.1, .int .i64 r1p0.2.2.2.1.2.2.2] :: Mp E64 x2.2.2.2.2.1 r1p0.2.2.2.2.1 :: Cl x2.2.2.2.2.2.1 83 [.int .i64 r1p0.2.2.2.2.2.1.1, .map (some x2.2.2.2.2.2.2.1), .slice x2.2.2.2.2.2.2.2.1.1 r1p0.2.2.2.2.2.2.2.1.length x2.2.2.2.2.2.2.2.1.2, .bool r1p0.2.2.2.2.2.1.2.1, .int .i64 r1p0.2.2.2.2.2.1.2.2.1, .int .i64 r1p0.2.2.2.2.2.1.2.2.2.1, .int .u64 r1p0.2.2.2.2.2.1.2.2.2.2.1, .int .i64 r1p0.2.2.2.2.2.1.2.2.2.2.2.1, .int .i64 r1p0.2.2.2.2.2.1.2.2.2.2.2.2] :: Mp (Elt.slice E8) x2.2.2.2.2.2.2.1 r1p0.2.2.2.2.2.2.1 :: Bf (Elt.pair E64 (Elt.slice E8)) 158 x2.2.2.2.2.2.2.2.1.1 x2.2.2.2.2.2.2.2.1.2 r1p0.2.2.2.2.2.2.2.1 :: Mp E64 x2.2.2.2.2.2.2.2.2.1 r1p0.2.2.2.2.2.2.2.2.1 :: Mp E64 x2.2.2.2.2.2.2.2.2.2.1 r1p0.2.2.2.2.2.2.2.2.2.1 :: Bf (Elt.pair (Elt.pair E64 (Elt.pair (Elt.slice E8) (Elt.slice E8))) EBool) 102 x15.1 x15.2 r7.2 :: Cl b1 30 [.int .i64 (((((l0).getD (s2.2.2.2.2.2.2.2.2.2.2.2.2.2.2 : Int).toNat default)).1)), .int .i64 (((((l0).getD (s2.2.2.2.2.2.2.2.2.2.2.2.2.2.2 : Int).toNat default)).2.1)), .int .i64 (((((l0).getD (s2.2.2.2.2.2.2.2.2.2.2.2.2.2.2 : Int).toNat default)).2.2))] :: hs) rfl ?_
          obtain ⟨r8, hg8, hk6⟩ := inv_bind hk6
          refine T.call .list (wants0 rfl) rfl (run_callF (vs := [_, _, _]) rfl Try.func8 rfl (by decide) rfl) (fun w hS => ref21_Base_Note.c hS (o0 := (s2.2.1, s2.2.2.1, s2.2.2.2.1, s2.2.2.2.2.1, s2.2.2.2.2.2.1, s2.2.2.2.2.2.2.1, s2.2.2.2.2.2.2.2.1, s2.2.2.2.2.2.2.2.2.1, s2.2.2.2.2.2.2.2.2.2.1, s2.2.2.2.2.2.2.2.2.2.2.1, s2.2.2.2.2.2.2.2.2.2.2.2.1, s2.2.2.2.2.2.2.2.2.2.2.2.2.1, s2.2.2.2.2.2.2.2.2.2.2.2.2.2.1))  hg8) (fun x17 => ?_)
          refine T.nil ?_
          refine T.then_normal ?_
          refine T.seq ?_
          refine T.region ?_
          refine T.move .list rfl (wants0 rfl) rfl rfl ?_
          refine T.bin .list rfl (wants0 rfl) rfl rfl rfl rfl ?_
          refine T.nil ?_
          refine T.then_normal ?_
          refine T.cond rfl (fun hb10 => ?_) (fun hb10 => ?_)
          ·replace hk6 := inv_posB hb10 hk6
           refine T.seq ?_
           refine T.region ?_
           refine T.assign .list rfl (wants0 rfl) rfl rfl ?_
           refine T.nil ?_
           refine T.then_normal ?_
           refine T.ret ?_
           refine T.in_ret ?_
           refine T.then_ret ?_
           refine T.in_ret ?_
           refine T.then_ret ?_
           refine T.then_ret ?_
           obtain rfl := inv_some hk6
           obtain rfl := hx1 _ rfl
           refine T.in_ret ?_
           refine T.then_ret ?_
           obtain rfl := inv_some hr
           refine T.pick [] 14 rfl rfl (Nat.le_add_left _ _) rfl ?_
           refine T.ret1 rfl rfl (fun w hS => ⟨(), rfl, hS⟩)
          ·replace hk6 := inv_negB hb10 hk6
           refine T.skip ?_
           refine T.in_normal ?_
           refine T.then_normal ?_
           exact T.le (EnvLe.cons rfl (EnvLe.cons rfl (EnvLe.cons rfl (EnvLe.cons rfl EnvLe.nil)))) (T.pick [1, 2, 3, 4, 5, 6, 7, 8, 9, 10, 11, 12, 0] 14 rfl rfl (Nat.le_add_left _ _) rfl (J4 (r7.2, r8.1, r8.2.1, r8.2.2.1, r8.2.2.2.1, r8.2.2.2.2.1, r8.2.2.2.2.2.1, r8.2.2.2.2.2.2.1, r8.2.2.2.2.2.2.2.1, r8.2.2.2.2.2.2.2.2.1, r8.2.2.2.2.2.2.2.2.2.1, r8.2.2.2.2.2.2.2.2.2.2.1, r8.2.2.2.2.2.2.2.2.2.2.2.1, r8.2.2.2.2.2.2.2.2.2.2.2.2) (x15.1, x15.2) hk6))
        ·refine T.region ?_
         refine T.move .list rfl (wants0 rfl) rfl rfl ?_
         refine T.move .list rfl (wants0 rfl) rfl rfl ?_
         refine T.bool (b := s4) (fun hb11 => ?_) (fun hb11 => ?_)
         ·replace hk3 := inv_posB hb11 hk3
          refine T.leave .list (wantsNot rfl rfl rfl hb11) rfl ?_
          refine T.leave .list (wantsNot rfl rfl rfl hb11) rfl ?_
          refine T.leave .list (wantsNot rfl rfl rfl hb11) rfl ?_
          refine T.pickT .list rfl (wants0 rfl) rfl rfl hb11 rfl ?_
          refine T.move .list rfl (wants0 rfl) rfl rfl ?_
          refine T.leave .list (wantsNot rfl rfl rfl rfl) rfl ?_
          refine T.leave .list (wantsNot rfl rfl rfl rfl) rfl ?_
          refine T.leave .list (wantsNot rfl rfl rfl rfl) rfl ?_
          refine T.pickT .list rfl (wants0 rfl) rfl rfl rfl rfl ?_
          refine T.nil ?_
          refine T.then_normal ?_
          exact T.le (EnvLe.cons rfl (EnvLe.cons rfl (EnvLe.cons rfl (EnvLe.cons rfl (EnvLe.cons rfl (EnvLe.cons rfl (EnvLe.cons rfl EnvLe.nil))))))) (T.pick [11, 0, 1, 2, 3, 4, 5, 6, 7, 8, 9, 10, 12, 13] 14 rfl rfl (Nat.le_add_left _ _) rfl (J6 true () hk3))
         ·replace hk3 := inv_negB hb11 hk3
          refine T.field .list rfl (wants1 rfl rfl rfl hb11) rfl rfl ?_
          refine T.load .list 13 rfl rfl (wants1 rfl rfl rfl hb11) rfl rfl rfl ?_
          refine T.bin .list rfl (wants1 rfl rfl rfl hb11) rfl rfl rfl rfl ?_
          refine T.pickF .list rfl (wants0 rfl) rfl rfl hb11 rfl ?_
          refine T.move .list rfl (wants0 rfl) rfl rfl ?_
          refine T.bool (b := (decide (((((((l0).getD (s2.2.2.2.2.2.2.2.2.2.2.2.2.2.2 : Int).toNat default)).2.2))) < 0))) (fun hb12 => ?_) (fun hb12 => ?_)
          ·replace hk3 := inv_posB hb12 hk3
           refine T.leave .list (wantsNot rfl rfl rfl hb12) rfl ?_
           refine T.leave .list (wantsNot rfl rfl rfl hb12) rfl ?_
           refine T.leave .list (wantsNot rfl rfl rfl hb12) rfl ?_
           refine T.pickT .list rfl (wants0 rfl) rfl rfl hb12 rfl ?_
           refine T.nil ?_
           refine T.then_normal ?_
           exact T.le (EnvLe.cons rfl (EnvLe.cons rfl (EnvLe.cons rfl (EnvLe.cons rfl (EnvLe.cons rfl (EnvLe.cons rfl (EnvLe.cons rfl EnvLe.nil))))))) (T.pick [11, 0, 1, 2, 3, 4, 5, 6, 7, 8, 9, 10, 12, 13] 14 rfl rfl (Nat.le_add_left _ _) rfl (J6 true () hk3))
          ·replace hk3 := inv_negB hb12 hk3
           refine T.field .list rfl (wants1 rfl rfl rfl hb12) rfl rfl ?_
           refine T.load .list 13 rfl rfl (wants1 rfl rfl rfl hb12) rfl rfl rfl ?_
           refine T.bin .list rfl (wants1 rfl rfl rfl hb12) rfl rfl rfl rfl ?_
           refine T.pickF .list rfl (wants0 rfl) rfl rfl hb12 rfl ?_
           refine T.nil ?_
           refine T.then_normal ?_
           exact T.le (EnvLe.cons rfl (EnvLe.cons rfl (EnvLe.cons rfl (EnvLe.cons rfl (EnvLe.cons rfl (EnvLe.cons rfl (EnvLe.cons rfl EnvLe.nil))))))) (T.pick [11, 0, 1, 2, 3, 4, 5, 6, 7, 8, 9, 10, 12, 13] 14 rfl rfl (Nat.le_add_left _ _) rfl (J6 (decide ((2147483647 : Int) < (((((l0).getD (s2.2.2.2.2.2.2.2.2.2.2.2.2.2.2 : Int).toNat default)).2.2)))) () hk3))
       ·replace hk3 := inv_negB hb7 hk3
        refine T.seq ?_
        refine T.region ?_
        refine T.bin .list rfl (wants0 rfl) rfl rfl rfl rfl ?_
        refine T.assign .list rfl (wants0 rfl) rfl rfl ?_
        refine T.nil ?_
        refine T.then_normal ?_
        refine T.cond rfl (fun hb13 => ?_) (fun hb13 => ?_)
        ·replace hk3 := inv_posB hb13 hk3
         refine T.seq ?_
         refine T.region ?_
         refine T.move .list rfl (wants0 rfl) rfl rfl ?_
         refine T.field .list rfl (wants0 rfl) rfl rfl ?_
         refine T.load .list 13 rfl rfl (wants0 rfl) rfl rfl rfl ?_
         refine T.pick [1, 2, 3, 4, 5, 6, 7, 8, 9, 10, 11, 0, 12, 13] 14 rfl rfl (Nat.le_add_left _ _) (hs' := Cl x2.1 99 [.pointer (some ⟨x2.2.1, 0, none⟩), .slice x6.1 s2.1.length x6.2] :: Cl x2.2.1 89 [.pointer (some ⟨x2.2.2.1, 0, none⟩), .int .i64 r1p0.2.1.1, .int .i64 r1p0.2.1.2.1, .int .i64 r1p0.2.1.2.2.1, .int .i64 r1p0.2.1.2.2.2.1, .int .i64 r1p0.2.1.2.2.2.2.1, .int .i64 r1p0.2.1.2.2.2.2.2.1, .int .i64 r1p0.2.1.2.2.2.2.2.2.1, .int .i64 r1p0.2.1.2.2.2.2.2.2.2.1, .int .i64 r1p0.2.1.2.2.2.2.2.2.2.2.1, .int .i64 r1p0.2.1.2.2.2.2.2.2.2.2.2.1, .int .i64 r1p0.2.1.2.2.2.2.2.2.2.2.2.2.1, .int .i64 r1p0.2.1.2.2.2.2.2.2.2.2.2.2.2.1, .int .i64 r1p0.2.1.2.2.2.2.2.2.2.2.2.2.2.2.1, .int .i64 r1p0.2.1.2.2.2.2.2.2.2.2.2.2.2.2.2.1, .int .i64 r1p0.2.1.2.2.2.2.2.2.2.2.2.2.2.2.2.2.1, .int .i64 r1p0.2.1.2.2.2.2.2.2.2.2.2.2.2.2.2.2.2.1, .int .i64 r1p0.2.1.2.2.2.2.2.2.2.2.2.2.2.2.2.2.2.2] :: Cl x2.2.2.1 115 [.pointer (some ⟨x2.2.2.2.1, 0, none⟩), .nilIface, .int .i64 r1p0.2.2.1.1, .int .i64 r1p0.2.2.1.2.1, .nilIface, .int .i64 r1p0.2.2.1.2.2.1, .int .i64 r1p0.2.2.1.2.2.2, .map (some x2.2.2.2.2.2.2.2.2.1), .slice none 0 0, .slice none 0 0, .map (some x2.2.2.2.2.2.2.2.2.2.1)] :: Cl x2.2.2.2.1 134 [.int .i64 r1p0.2.2.2.1.1, .map (some x2.2.2.2.2.1), .pointer (some ⟨x2.2.2.2.2.2.1, 0, none⟩), .int .i64 r1p0.2.2.2.1.2.1, .int .u64 r1p0.2.2.2.1.2.2.1, .int .i64 r1p0.2.2.2.1.2.2.2] :: Mp E64 x2.2.2.2.2.1 r1p0.2.2.2.2.1 :: Cl x2.2.2.2.2.2.1 83 [.int .i64 r1p0.2.2.2.2.2.1.1, .map (some x2.2.2.2.2.2.2.1), .slice x2.2.2.2.2.2.2.2.1.1 r1p0.2.2.2.2.2.2.2.1.length x2.2.2.2.2.2.2.2.1.2, .bool r1p0.2.2.2.2.2.1.2.1, .int .i64 r1p0.2.2.2.2.2.1.2.2.1, .int .i64 r1p0.2.2.2.2.2.1.2.2.2.1, .int .u64 r1p0.2.2.2.2.2.1.2.2.2.2.1, .int .i64 r1p0.2.2.2.2.2.1.2.2.2.2.2.1, .int .i64 r1p0.2.2.2.2.2.1.2.2.2.2.2.2] :: Mp (Elt.slice E8) x2.2.2.2.2.2.2.1 r1p0.2.2.2.2.2.2.1 :: Bf (Elt.pair E64 (Elt.slice E8)) 158 x2.2.2.2.2.2.2.2.1.1 x2.2.2.2.2.2.2.2.1.2 r1p0.2.2.2.2.2.2.2.1 :: Mp E64 x2.2.2.2.2.2.2.2.2.1 r1p0.2.2.2.2.2.2.2.2.1 :: Mp E64 x2.2.2.2.2.2.2.2.2.2.1 r1p0.2.2.2.2.2.2.2.2.2.1 :: Bf (Elt.pair (Elt.pair E64 (Elt.pair (Elt.slice E8) (Elt.slice E8))) EBool) 102 x6.1 x6.2 s2.1 :: Ro (Elt.pair E64 (Elt.pair E64 E64)) A0 c0 l0 :: Cl x3 50 [.slice none 0 0, .int .i64 0, .int .i64 0, .int .i64 0, .slice none 0 0, .int .i64 0, .int .i64 0, .int .i64 0, .slice none 0 0, .int .i64 0, .int .i64 0, .int .i64 0, .slice none 0 0, .int .i64 0, .int .i64 0, .int .i64 0, .slice none 0 0, .int .i64 0, .int .i64 0, .int .i64 0, .slice none 0 0, .int .i64 0, .int .i64 0, .int .i64 0, .slice none 0 0, .int .i64 0, .int .i64 0, .int .i64 0, .slice none 0 0, .int .i64 0, .int .i64 0, .int .i64 0, .slice none 0 0, .int .i64 s2.2.1, .int .i64 s2.2.2.1, .int .i64 s2.2.2.2.1, .int .i64 s2.2.2.2.2.1, .int .i64 s2.2.2.2.2.2.1, .int .i64 s2.2.2.2.2.2.2.1, .int .i64 s2.2.2.2.2.2.2.2.1, .bool s2.2.2.2.2.2.2.2.2.1, .bool s2.2.2.2.2.2.2.2.2.2.1, .bool s2.2.2.2.2.2.2.2.2.2.2.1, .bool s2.2.2.2.2.2.2.2.2.2.2.2.1, .int .i64 s2.2.2.2.2.2.2.2.2.2.2.2.2.1, .int .i64 s2.2.2.2.2.2.2.2.2.2.2.2.2.2.1] :: Cl b1 30 [.int .i64 (((((l0).getD (s2.2.2.2.2.2.2.2.2.2.2.2.2.2.2 : Int).toNat default)).1)), .int .i64 (((((l0).getD (s2.2.2.2.2.2.2.2.2.2.2.2.2.2.2 : Int).toNat default)).2.1)), .int .i64 (((((l0).getD (s2.2.2.2.2.2.2.2.2.2.2.2.2.2.2 : Int).toNat default)).2.2))] :: hs) rfl ?_
         obtain ⟨r9, hg9, hk3⟩ := inv_bind hk3
         refine T.call .list (wants0 rfl) rfl (run_callF (vs := [_, _]) rfl Try.func9 rfl (by decide) rfl) (fun w hS => view_Get.c hS (o0a := (r1p0.2.1.1, r1p0.2.1.2.1, r1p0.2.1.2.2.1, r1p0.2.1.2.2.2.1, r1p0.2.1.2.2.2.2.1, r1p0.2.1.2.2.2.2.2.1, r1p0.2.1.2.2.2.2.2.2.1, r1p0.2.1.2.2.2.2.2.2.2.1, r1p0.2.1.2.2.2.2.2.2.2.2.1, r1p0.2.1.2.2.2.2.2.2.2.2.2.1, r1p0.2.1.2.2.2.2.2.2.2.2.2.2.1, r1p0.2.1.2.2.2.2.2.2.2.2.2.2.2.1, r1p0.2.1.2.2.2.2.2.2.2.2.2.2.2.2.1, r1p0.2.1.2.2.2.2.2.2.2.2.2.2.2.2.2.1, r1p0.2.1.2.2.2.2.2.2.2.2.2.2.2.2.2.2.1, r1p0.2.1.2.2.2.2.2.2.2.2.2.2.2.2.2.2.2.1, r1p0.2.1.2.2.2.2.2.2.2.2.2.2.2.2.2.2.2.2)) (o0aa := (r1p0.2.2.1.1, r1p0.2.2.1.2.1, r1p0.2.2.1.2.2.1, r1p0.2.2.1.2.2.2)) (o0aaa := (r1p0.2.2.2.1.1, r1p0.2.2.2.1.2.1, r1p0.2.2.2.1.2.2.1, r1p0.2.2.2.1.2.2.2)) (q0aaab := r1p0.2.2.2.2.1) (o0aaac := (r1p0.2.2.2.2.2.1.1, r1p0.2.2.2.2.2.1.2.1, r1p0.2.2.2.2.2.1.2.2.1, r1p0.2.2.2.2.2.1.2.2.2.1, r1p0.2.2.2.2.2.1.2.2.2.2.1, r1p0.2.2.2.2.2.1.2.2.2.2.2.1, r1p0.2.2.2.2.2.1.2.2.2.2.2.2)) (q0aaacb := r1p0.2.2.2.2.2.2.1) (q0aaacc := r1p0.2.2.2.2.2.2.2.1) (q0aah := r1p0.2.2.2.2.2.2.2.2.1) (q0aak := r1p0.2.2.2.2.2.2.2.2.2.1) (q0b := s2.1)  hg9) (fun x18 => ?_)
         refine T.move .list rfl (wants0 rfl) rfl rfl ?_
         refine T.extract .list rfl (wants0 rfl) rfl rfl rfl ?_
         refine T.extract .list rfl (wants0 rfl) rfl rfl rfl ?_
         refine T.extract .list rfl (wants0 rfl) rfl rfl rfl ?_
         refine T.assign .list rfl (wants0 rfl) rfl rfl ?_
         refine T.assign .list rfl (wants0 rfl) rfl rfl ?_
         refine T.assign .list rfl (wants0 rfl) rfl rfl ?_
         refine T.nil ?_
         refine T.then_normal ?_
         refine T.seqJ (fun (s8 : Bool) (x19 : Unit) => [(0, .slice A0 l0.length c0), (3, .pointer (some ⟨x2.1, 0, none⟩)), (5, .pointer (some ⟨x3, 0, none⟩)), (6, .int .i64 s2.2.2.2.2.2.2.2.2.2.2.2.2.2.2), (164, .bool s8)]) (fun s8 x19 => Ro (Elt.pair E64 (Elt.pair E64 E64)) A0 c0 l0 :: Cl x2.1 99 [.pointer (some ⟨x2.2.1, 0, none⟩), .slice x6.1 s2.1.length x6.2] :: Cl x2.2.1 89 [.pointer (some ⟨x2.2.2.1, 0, none⟩), .int .i64 r1p0.2.1.1, .int .i64 r1p0.2.1.2.1, .int .i64 r1p0.2.1.2.2.1, .int .i64 r1p0.2.1.2.2.2.1, .int .i64 r1p0.2.1.2.2.2.2.1, .int .i64 r1p0.2.1.2.2.2.2.2.1, .int .i64 r1p0.2.1.2.2.2.2.2.2.1, .int .i64 r1p0.2.1.2.2.2.2.2.2.2.1, .int .i64 r1p0.2.1.2.2.2.2.2.2.2.2.1, .int .i64 r1p0.2.1.2.2.2.2.2.2.2.2.2.1, .int .i64 r1p0.2.1.2.2.2.2.2.2.2.2.2.2.1, .int .i64 r1p0.2.1.2.2.2.2.2.2.2.2.2.2.2.1, .int .i64 r1p0.2.1.2.2.2.2.2.2.2.2.2.2.2.2.1, .int .i64 r1p0.2.1.2.2.2.2.2.2.2.2.2.2.2.2.2.1, .int .i64 r1p0.2.1.2.2.2.2.2.2.2.2.2.2.2.2.2.2.1, .int .i64 r1p0.2.1.2.2.2.2.2.2.2.2.2.2.2.2.2.2.2.1, .int .i64 r1p0.2.1.2.2.2.2.2.2.2.2.2.2.2.2.2.2.2.2] :: Cl x2.2.2.1 115 [.pointer (some ⟨x2.2.2.2.1, 0, none⟩), .nilIface, .int .i64 r1p0.2.2.1.1, .int .i64 r1p0.2.2.1.2.1, .nilIface, .int .i64 r1p0.2.2.1.2.2.1, .int .i64 r1p0.2.2.1.2.2.2, .map (some x2.2.2.2.2.2.2.2.2.1), .slice none 0 0, .slice none 0 0, .map (some x2.2.2.2.2.2.2.2.2.2.1)] :: Cl x2.2.2.2.1 134 [.int .i64 r1p0.2.2.2.1.1, .map (some x2.2.2.2.2.1), .pointer (some ⟨x2.2.2.2.2.2.1, 0, none⟩), .int .i64 r1p0.2.2.2.1.2.1, .int .u64 r1p0.2.2.2.1.2.2.1, .int .i64 r1p0.2.2.2.1.2.2.2] :: Mp E64 x2.2.2.2.2.1 r1p0.2.2.2.2.1 :: Cl x2.2.2.2.2.2.1 83 [.int .i64 r1p0.2.2.2.2.2.1.1, .map (some x2.2.2.2.2.2.2.1), .slice x2.2.2.2.2.2.2.2.1.1 r1p0.2.2.2.2.2.2.2.1.length x2.2.2.2.2.2.2.2.1.2, .bool r1p0.2.2.2.2.2.1.2.1, .int .i64 r1p0.2.2.2.2.2.1.2.2.1, .int .i64 r1p0.2.2.2.2.2.1.2.2.2.1, .int .u64 r1p0.2.2.2.2.2.1.2.2.2.2.1, .int .i64 r1p0.2.2.2.2.2.1.2.2.2.2.2.1, .int .i64 r1p0.2.2.2.2.2.1.2.2.2.2.2.2] :: Mp (Elt.slice E8) x2.2.2.2.2.2.2.1 r1p0.2.2.2.2.2.2.1 :: Bf (Elt.pair E64 (Elt.slice E8)) 158 x2.2.2.2.2.2.2.2.1.1 x2.2.2.2.2.2.2.2.1.2 r1p0.2.2.2.2.2.2.2.1 :: Mp E64 x2.2.2.2.2.2.2.2.2.1 r1p0.2.2.2.2.2.2.2.2.1 :: Mp E64 x2.2.2.2.2.2.2.2.2.2.1 r1p0.2.2.2.2.2.2.2.2.2.1 :: Bf (Elt.pair (Elt.pair E64 (Elt.pair (Elt.slice E8) (Elt.slice E8))) EBool) 102 x6.1 x6.2 s2.1 :: Cl x3 50 [.slice none 0 0, .int .i64 0, .int .i64 0, .int .i64 0, .slice none 0 0, .int .i64 0, .int .i64 0, .int .i64 0, .slice none 0 0, .int .i64 0, .int .i64 0, .int .i64 0, .slice none 0 0, .int .i64 0, .int .i64 0, .int .i64 0, .slice none 0 0, .int .i64 0, .int .i64 0, .int .i64 0, .slice none 0 0, .int .i64 0, .int .i64 0, .int .i64 0, .slice none 0 0, .int .i64 0, .int .i64 0, .int .i64 0, .slice none 0 0, .int .i64 0, .int .i64 0, .int .i64 0, .slice none 0 0, .int .i64 s2.2.1, .int .i64 s2.2.2.1, .int .i64 s2.2.2.2.1, .int .i64 s2.2.2.2.2.1, .int .i64 s2.2.2.2.2.2.1, .int .i64 s2.2.2.2.2.2.2.1, .int .i64 s2.2.2.2.2.2.2.2.1, .bool s2.2.2.2.2.2.2.2.2.1, .bool s2.2.2.2.2.2.2.2.2.2.1, .bool s2.2.2.2.2.2.2.2.2.2.2.1, .bool s2.2.2.2.2.2.2.2.2.2.2.2.1, .int .i64 s2.2.2.2.2.2.2.2.2.2.2.2.2.1, .int .i64 s2.2.2.2.2.2.2.2.2.2.2.2.2.2.1] :: hs) (fun s8 => law20_ViewPlays.k7 r1p0 s2 s8 = some o1) (fun s8 x19 hk7 => ?_) (fun J7 => ?_)
         ·unfold law20_ViewPlays.k7 at hk7
          refine T.cond rfl (fun hb14 => ?_) (fun hb14 => ?_)
          ·replace hk7 := inv_posB hb14 hk7
           refine T.seq ?_
           refine T.region ?_
           refine T.assign .list rfl (wants0 rfl) rfl rfl ?_
           refine T.nil ?_
           refine T.then_normal ?_
           refine T.ret ?_
           refine T.in_ret ?_
           refine T.then_ret ?_
           refine T.in_ret ?_
           refine T.then_ret ?_
           refine T.then_ret ?_
           obtain rfl := inv_some hk7
           obtain rfl := hx1 _ rfl
           refine T.in_ret ?_
           refine T.then_ret ?_
           obtain rfl := inv_some hr
           refine T.pick [] 13 rfl rfl (Nat.le_add_left _ _) rfl ?_
           refine T.ret1 rfl rfl (fun w hS => ⟨(), rfl, hS⟩)
          ·replace hk7 := inv_negB hb14 hk7
           refine T.skip ?_
           refine T.in_normal ?_
           refine T.then_normal ?_
           exact T.le (EnvLe.cons rfl (EnvLe.cons rfl (EnvLe.cons rfl (EnvLe.cons rfl EnvLe.nil)))) (T.pick [0, 1, 2, 3, 4, 5, 6, 7, 8, 9, 10, 11, 12] 13 rfl rfl (Nat.le_add_left _ _) rfl (J4 (s2.1, s2.2.1, s2.2.2.1, s2.2.2.2.1, s2.2.2.2.2.1, s2.2.2.2.2.2.1, s2.2.2.2.2.2.2.1, s2.2.2.2.2.2.2.2.1, s2.2.2.2.2.2.2.2.2.1, s2.2.2.2.2.2.2.2.2.2.1, s2.2.2.2.2.2.2.2.2.2.2.1, s2.2.2.2.2.2.2.2.2.2.2.2.1, s2.2.2.2.2.2.2.2.2.2.2.2.2.1, s2.2.2.2.2.2.2.2.2.2.2.2.2.2.1) (x6.1, x6.2) hk7))
         ·refine T.plan [(0, 0), (1, 0), (2, 0), (3, 0), (4, 0), (5, 0), (6, 0), (7, 0), (8, 0), (9, 0), (10, 0), (11, 0), (12, 0), (13, 0), (14, 0), (15, 0), (16, 0), (17, 0), (18, 0), (19, 0), (20, 0), (21, 0), (23, 0), (24, 0), (22, 1), (25, 0), (26, 1), (27, 0), (28, 0), (29, 0), (30, 0), (31, 0), (32, 0), (34, 0), (35, 0), (33, 1), (36, 0), (37, 1), (38, 0), (39, 0), (40, 0), (41, 0)] mixed (by kernel_rfl) (by kernel_rfl) rfl (fun d _ _ _ _ h => by cases d <;> exact h) ?_
          refine T.move (.plan rfl) rfl (wants0 rfl) rfl rfl ?_
          refine T.move (.plan rfl) rfl (wants0 rfl) rfl rfl ?_
          refine T.bool (b := s4) (fun hb15 => ?_) (fun hb15 => ?_)
          ·replace hk3 := inv_posB hb15 hk3
           refine T.move (.plan rfl) rfl (wants1 rfl rfl rfl hb15) rfl rfl ?_
           refine T.bin (.plan rfl) rfl (wants1 rfl rfl rfl hb15) rfl rfl rfl rfl ?_
           refine T.move (.plan rfl) rfl (wants1 rfl rfl rfl hb15) rfl rfl ?_
           refine T.bool (b := (decide (r9.2.2 = 1))) (fun hb16 => ?_) (fun hb16 => ?_)
           ·replace hk3 := inv_posB hb16 hk3
            refine T.move (.plan rfl) rfl (wants1 rfl rfl rfl (not_t hb16)) rfl rfl ?_
            refine T.pickF (.plan rfl) rfl (wants1 rfl rfl rfl hb15) rfl rfl (not_t hb16) rfl ?_
            refine T.move (.plan rfl) rfl (wants1 rfl rfl rfl hb15) rfl rfl ?_
            refine T.bool (b := r9.2.1) (fun hb17 => ?_) (fun hb17 => ?_)
            ·replace hk3 := inv_posB hb17 hk3
             refine T.leave (.plan rfl) (wantsNot rfl rfl rfl hb17) rfl ?_
             refine T.leave (.plan rfl) (wantsNot rfl rfl rfl hb17) rfl ?_
             refine T.pickT (.plan rfl) rfl (wants1 rfl rfl rfl hb15) rfl rfl hb17 rfl ?_
             refine T.pickT (.plan rfl) rfl (wants0 rfl) rfl rfl hb15 rfl ?_
             refine T.move (.plan rfl) rfl (wants0 rfl) rfl rfl ?_
             refine T.leave (.plan rfl) (wantsNot rfl rfl rfl rfl) rfl ?_
             refine T.leave (.plan rfl) (wantsNot rfl rfl rfl rfl) rfl ?_
             refine T.leave (.plan rfl) (wantsNot rfl rfl rfl rfl) rfl ?_
             refine T.leave (.plan rfl) (wantsUndef rfl rfl rfl) rfl ?_
             refine T.leave (.plan rfl) (wantsUndef rfl rfl rfl) rfl ?_
             refine T.leave (.plan rfl) (wantsUndef rfl rfl rfl) rfl ?_
             refine T.leave (.plan rfl) (wantsUndef rfl rfl rfl) rfl ?_
             refine T.leave (.plan rfl) (wantsUndef rfl rfl rfl) rfl ?_
             refine T.leave (.plan rfl) (wantsUndef rfl rfl rfl) rfl ?_
             refine T.leave (.plan rfl) (wantsUndef rfl rfl rfl) rfl ?_
             refine T.leave (.plan rfl) (wantsUndef rfl rfl rfl) rfl ?_
             refine T.leave (.plan rfl) (wantsUndef rfl rfl rfl) rfl ?_
             refine T.leave (.plan rfl) (wantsUndef rfl rfl rfl) rfl ?_
             refine T.leave (.plan rfl) (wantsUndef rfl rfl rfl) rfl ?_
             refine T.leave (.plan rfl) (wantsUndef rfl rfl rfl) rfl ?_
             refine T.leave (.plan rfl) (wantsUndef rfl rfl rfl) rfl ?_
             refine T.leave (.plan rfl) (wantsUndef rfl rfl rfl) rfl ?_
             refine T.leave (.plan rfl) (wantsUndef rfl rfl rfl) rfl ?_
             refine T.leave (.plan rfl) (wantsUndef rfl rfl rfl) rfl ?_
             refine T.leave (.plan rfl) (wantsUndef rfl rfl rfl) rfl ?_
             refine T.leave (.plan rfl) (wantsUndef rfl rfl rfl) rfl ?_
             refine T.leave (.plan rfl) (wantsUndef rfl rfl rfl) rfl ?_
             refine T.leave (.plan rfl) (wantsUndef rfl rfl rfl) rfl ?_
             refine T.leave (.plan rfl) (wantsUndef rfl rfl rfl) rfl ?_
             refine T.leave (.plan rfl) (wantsUndef rfl rfl rfl) rfl ?_
             refine T.leave (.plan rfl) (wantsUndef rfl rfl rfl) rfl ?_
             refine T.leave (.plan rfl) (wantsUndef rfl rfl rfl) rfl ?_
             refine T.leave (.plan rfl) (wantsNot rfl rfl rfl rfl) rfl ?_
             refine T.pickT (.plan rfl) rfl (wants0 rfl) rfl rfl rfl rfl ?_
             refine T.planEnd ?_
             refine T.then_normal ?_
             exact T.le (EnvLe.cons rfl (EnvLe.cons rfl (EnvLe.cons rfl (EnvLe.cons rfl (EnvLe.cons rfl EnvLe.nil))))) (T.pick [11, 0, 1, 2, 3, 4, 5, 6, 7, 8, 9, 10, 12] 14 rfl rfl (Nat.le_add_left _ _) rfl (J7 true () hk3))
            ·replace hk3 := inv_negB hb17 hk3
             refine T.move (.plan rfl) rfl (wants1 rfl rfl rfl hb17) rfl rfl ?_
             refine T.bin (.plan rfl) rfl (wants1 rfl rfl rfl hb17) rfl rfl rfl rfl ?_
             refine T.pickF (.plan rfl) rfl (wants1 rfl rfl rfl hb15) rfl rfl hb17 rfl ?_
             refine T.pickT (.plan rfl) rfl (wants0 rfl) rfl rfl hb15 rfl ?_
             refine T.move (.plan rfl) rfl (wants0 rfl) rfl rfl ?_
             refine T.bool (b := (decide (r9.1 = 0))) (fun hb18 => ?_) (fun hb18 => ?_)
             ·replace hk3 := inv_posB hb18 hk3
              refine T.move (.plan rfl) rfl (wants1 rfl rfl rfl (not_t hb18)) rfl rfl ?_
              refine T.not (.plan rfl) rfl (wants1 rfl rfl rfl (not_t hb18)) rfl rfl ?_
              refine T.move (.plan rfl) rfl (wants1 rfl rfl rfl (not_t hb18)) rfl rfl ?_
              refine T.leave (.plan rfl) (wantsNot rfl rfl rfl (not_t hb15)) rfl ?_
              refine T.leave (.plan rfl) (wantsNot rfl rfl rfl (not_t hb15)) rfl ?_
              refine T.leave (.plan rfl) (wantsNot rfl rfl rfl (not_t hb15)) rfl ?_
              refine T.leave (.plan rfl) (wantsUndef rfl rfl rfl) rfl ?_
              refine T.leave (.plan rfl) (wantsUndef rfl rfl rfl) rfl ?_
              refine T.leave (.plan rfl) (wantsUndef rfl rfl rfl) rfl ?_
              refine T.leave (.plan rfl) (wantsUndef rfl rfl rfl) rfl ?_
              refine T.leave (.plan rfl) (wantsUndef rfl rfl rfl) rfl ?_
              refine T.leave (.plan rfl) (wantsUndef rfl rfl rfl) rfl ?_
              refine T.leave (.plan rfl) (wantsUndef rfl rfl rfl) rfl ?_
              refine T.leave (.plan rfl) (wantsUndef rfl rfl rfl) rfl ?_
              refine T.leave (.plan rfl) (wantsUndef rfl rfl rfl) rfl ?_
              refine T.leave (.plan rfl) (wantsNot rfl rfl rfl (not_t hb15)) rfl ?_
              refine T.leave (.plan rfl) (wantsNot rfl rfl rfl (not_t hb15)) rfl ?_
              refine T.leave (.plan rfl) (wantsUndef rfl rfl rfl) rfl ?_
              refine T.leave (.plan rfl) (wantsUndef rfl rfl rfl) rfl ?_
              refine T.leave (.plan rfl) (wantsUndef rfl rfl rfl) rfl ?_
              refine T.leave (.plan rfl) (wantsUndef rfl rfl rfl) rfl ?_
              refine T.leave (.plan rfl) (wantsUndef rfl rfl rfl) rfl ?_
              refine T.leave (.plan rfl) (wantsUndef rfl rfl rfl) rfl ?_
              refine T.leave (.plan rfl) (wantsUndef rfl rfl rfl) rfl ?_
              refine T.leave (.plan rfl) (wantsUndef rfl rfl rfl) rfl ?_
              refine T.leave (.plan rfl) (wantsUndef rfl rfl rfl) rfl ?_
              refine T.leave (.plan rfl) (wantsNot rfl rfl rfl (not_t hb15)) rfl ?_
              refine T.pickF (.plan rfl) rfl (wants1 rfl rfl rfl (not_t hb18)) rfl rfl (not_t hb15) rfl ?_
              refine T.pickF (.plan rfl) rfl (wants0 rfl) rfl rfl (not_t hb18) rfl ?_
              refine T.planEnd ?_
              refine T.then_normal ?_
              exact T.le (EnvLe.cons rfl (EnvLe.cons rfl (EnvLe.cons rfl (EnvLe.cons rfl (EnvLe.cons rfl EnvLe.nil))))) (T.pick [11, 0, 1, 2, 3, 4, 5, 6, 7, 8, 9, 10, 12] 14 rfl rfl (Nat.le_add_left _ _) rfl (J7 false () hk3))
             ·replace hk3 := inv_negB hb18 hk3
              refine T.leave (.plan rfl) (wantsNot rfl rfl rfl (not_f hb18)) rfl ?_
              refine T.leave (.plan rfl) (wantsNot rfl rfl rfl (not_f hb18)) rfl ?_
              refine T.leave (.plan rfl) (wantsNot rfl rfl rfl (not_f hb18)) rfl ?_
              refine T.leave (.plan rfl) (wantsUndef rfl rfl rfl) rfl ?_
              refine T.leave (.plan rfl) (wantsUndef rfl rfl rfl) rfl ?_
              refine T.leave (.plan rfl) (wantsUndef rfl rfl rfl) rfl ?_
              refine T.leave (.plan rfl) (wantsUndef rfl rfl rfl) rfl ?_
              refine T.leave (.plan rfl) (wantsUndef rfl rfl rfl) rfl ?_
              refine T.leave (.plan rfl) (wantsUndef rfl rfl rfl) rfl ?_
              refine T.leave (.plan rfl) (wantsUndef rfl rfl rfl) rfl ?_
              refine T.leave (.plan rfl) (wantsUndef rfl rfl rfl) rfl ?_
              refine T.leave (.plan rfl) (wantsUndef rfl rfl rfl) rfl ?_
              refine T.leave (.plan rfl) (wantsUndef rfl rfl rfl) rfl ?_
              refine T.leave (.plan rfl) (wantsUndef rfl rfl rfl) rfl ?_
              refine T.leave (.plan rfl) (wantsUndef rfl rfl rfl) rfl ?_
              refine T.leave (.plan rfl) (wantsUndef rfl rfl rfl) rfl ?_
              refine T.leave (.plan rfl) (wantsUndef rfl rfl rfl) rfl ?_
              refine T.leave (.plan rfl) (wantsUndef rfl rfl rfl) rfl ?_
              refine T.leave (.plan rfl) (wantsUndef rfl rfl rfl) rfl ?_
              refine T.leave (.plan rfl) (wantsUndef rfl rfl rfl) rfl ?_
              refine T.leave (.plan rfl) (wantsUndef rfl rfl rfl) rfl ?_
              refine T.leave (.plan rfl) (wantsUndef rfl rfl rfl) rfl ?_
              refine T.leave (.plan rfl) (wantsUndef rfl rfl rfl) rfl ?_
              refine T.leave (.plan rfl) (wantsUndef rfl rfl rfl) rfl ?_
              refine T.leave (.plan rfl) (wantsUndef rfl rfl rfl) rfl ?_
              refine T.leave (.plan rfl) (wantsUndef rfl rfl rfl) rfl ?_
              refine T.leave (.plan rfl) (wantsUndef rfl rfl rfl) rfl ?_
              refine T.leave (.plan rfl) (wantsNot rfl rfl rfl (not_f hb18)) rfl ?_
              refine T.pickT (.plan rfl) rfl (wants0 rfl) rfl rfl (not_f hb18) rfl ?_
              refine T.planEnd ?_
              refine T.then_normal ?_
              exact T.le (EnvLe.cons rfl (EnvLe.cons rfl (EnvLe.cons rfl (EnvLe.cons rfl (EnvLe.cons rfl EnvLe.nil))))) (T.pick [11, 0, 1, 2, 3, 4, 5, 6, 7, 8, 9, 10, 12] 14 rfl rfl (Nat.le_add_left _ _) rfl (J7 true () hk3))
           ·replace hk3 := inv_negB hb16 hk3
            refine T.leave (.plan rfl) (wantsNot rfl rfl rfl (not_f hb16)) rfl ?_
            refine T.pickT (.plan rfl) rfl (wants1 rfl rfl rfl hb15) rfl rfl (not_f hb16) rfl ?_
            refine T.move (.plan rfl) rfl (wants1 rfl rfl rfl hb15) rfl rfl ?_
            refine T.leave (.plan rfl) (wantsNot rfl rfl rfl rfl) rfl ?_
            refine T.leave (.plan rfl) (wantsNot rfl rfl rfl rfl) rfl ?_
            refine T.pickT (.plan rfl) rfl (wants1 rfl rfl rfl hb15) rfl rfl rfl rfl ?_
            refine T.pickT (.plan rfl) rfl (wants0 rfl) rfl rfl hb15 rfl ?_
            refine T.move (.plan rfl) rfl (wants0 rfl) rfl rfl ?_
            refine T.leave (.plan rfl) (wantsNot rfl rfl rfl rfl) rfl ?_
            refine T.leave (.plan rfl) (wantsNot rfl rfl rfl rfl) rfl ?_
            refine T.leave (.plan rfl) (wantsNot rfl rfl rfl rfl) rfl ?_
            refine T.leave (.plan rfl) (wantsUndef rfl rfl rfl) rfl ?_
            refine T.leave (.plan rfl) (wantsUndef rfl rfl rfl) rfl ?_
            refine T.leave (.plan rfl) (wantsUndef rfl rfl rfl) rfl ?_
            refine T.leave (.plan rfl) (wantsUndef rfl rfl rfl) rfl ?_
            refine T.leave (.plan rfl) (wantsUndef rfl rfl rfl) rfl ?_
            refine T.leave (.plan rfl) (wantsUndef rfl rfl rfl) rfl ?_
            refine T.leave (.plan rfl) (wantsUndef rfl rfl rfl) rfl ?_
            refine T.leave (.plan rfl) (wantsUndef rfl rfl rfl) rfl ?_
            refine T.leave (.plan rfl) (wantsUndef rfl rfl rfl) rfl ?_
            refine T.leave (.plan rfl) (wantsUndef rfl rfl rfl) rfl ?_
            refine T.leave (.plan rfl) (wantsUndef rfl rfl rfl) rfl ?_
            refine T.leave (.plan rfl) (wantsUndef rfl rfl rfl) rfl ?_
            refine T.leave (.plan rfl) (wantsUndef rfl rfl rfl) rfl ?_
            refine T.leave (.plan rfl) (wantsUndef rfl rfl rfl) rfl ?_
            refine T.leave (.plan rfl) (wantsUndef rfl rfl rfl) rfl ?_
            refine T.leave (.plan rfl) (wantsUndef rfl rfl rfl) rfl ?_
            refine T.leave (.plan rfl) (wantsUndef rfl rfl rfl) rfl ?_
            refine T.leave (.plan rfl) (wantsUndef rfl rfl rfl) rfl ?_
            refine T.leave (.plan rfl) (wantsUndef rfl rfl rfl) rfl ?_
            refine T.leave (.plan rfl) (wantsUndef rfl rfl rfl) rfl ?_
            refine T.leave (.plan rfl) (wantsUndef rfl rfl rfl) rfl ?_
            refine T.leave (.plan rfl) (wantsUndef rfl rfl rfl) rfl ?_
            refine T.leave (.plan rfl) (wantsUndef rfl rfl rfl) rfl ?_
            refine T.leave (.plan rfl) (wantsUndef rfl rfl rfl) rfl ?_
            refine T.leave (.plan rfl) (wantsNot rfl rfl rfl rfl) rfl ?_
            refine T.pickT (.plan rfl) rfl (wants0 rfl) rfl rfl rfl rfl ?_
            refine T.planEnd ?_
            refine T.then_normal ?_
            exact T.le (EnvLe.cons rfl (EnvLe.cons rfl (EnvLe.cons rfl (EnvLe.cons rfl (EnvLe.cons rfl EnvLe.nil))))) (T.pick [11, 0, 1, 2, 3, 4, 5, 6, 7, 8, 9, 10, 12] 14 rfl rfl (Nat.le_add_left _ _) rfl (J7 true () hk3))
          ·replace hk3 := inv_negB hb15 hk3
           refine T.leave (.plan rfl) (wantsNot rfl rfl rfl hb15) rfl ?_
           refine T.leave (.plan rfl) (wantsNot rfl rfl rfl hb15) rfl ?_
           refine T.leave (.plan rfl) (wantsNot rfl rfl rfl hb15) rfl ?_
           refine T.leave (.plan rfl) (wantsUndef rfl rfl rfl) rfl ?_
           refine T.leave (.plan rfl) (wantsNot rfl rfl rfl hb15) rfl ?_
           refine T.leave (.plan rfl) (wantsNot rfl rfl rfl hb15) rfl ?_
           refine T.leave (.plan rfl) (wantsUndef rfl rfl rfl) rfl ?_
           refine T.leave (.plan rfl) (wantsUndef rfl rfl rfl) rfl ?_
           refine T.leave (.plan rfl) (wantsNot rfl rfl rfl hb15) rfl ?_
           refine T.pickF (.plan rfl) rfl (wants0 rfl) rfl rfl hb15 rfl ?_
           refine T.move (.plan rfl) rfl (wants0 rfl) rfl rfl ?_
           refine T.move (.plan rfl) rfl (wants1 rfl rfl rfl rfl) rfl rfl ?_
           refine T.not (.plan rfl) rfl (wants1 rfl rfl rfl rfl) rfl rfl ?_
           refine T.move (.plan rfl) rfl (wants1 rfl rfl rfl rfl) rfl rfl ?_
           refine T.move (.plan rfl) rfl (wants1 rfl rfl rfl (not_f hb15)) rfl rfl ?_
           refine T.bin (.plan rfl) rfl (wants1 rfl rfl rfl (not_f hb15)) rfl rfl rfl rfl ?_
           refine T.move (.plan rfl) rfl (wants1 rfl rfl rfl (not_f hb15)) rfl rfl ?_
           refine T.bool (b := (decide (r9.2.2 = 0))) (fun hb19 => ?_) (fun hb19 => ?_)
           ·replace hk3 := inv_posB hb19 hk3
            refine T.move (.plan rfl) rfl (wants1 rfl rfl rfl (not_t hb19)) rfl rfl ?_
            refine T.move (.plan rfl) rfl (wants1 rfl rfl rfl (not_t hb19)) rfl rfl ?_
            refine T.field (.plan rfl) rfl (wants1 rfl rfl rfl (not_t hb19)) rfl rfl ?_
            refine T.nilCheck (.plan rfl) rfl (wants1 rfl rfl rfl (not_t hb19)) rfl rfl ?_
            refine T.field (.plan rfl) rfl (wants1 rfl rfl rfl (not_t hb19)) rfl rfl ?_
            refine T.load (.plan rfl) 13 rfl rfl (wants1 rfl rfl rfl (not_t hb19)) rfl rfl rfl ?_
            refine T.bool (b := (decide ((((((l0).getD (s2.2.2.2.2.2.2.2.2.2.2.2.2.2.2 : Int).toNat default)).2.1)) = 0))) (fun hb20 => ?_) (fun hb20 => ?_)
            ·replace hk3 := inv_posB hb20 hk3
             obtain ⟨hc2, hk3⟩ := inv_chk hk3
             refine T.idxArrC (.plan rfl) rfl (wants1 rfl rfl rfl (not_t hb19)) rfl rfl rfl hc2.1 hc2.2 (of_decide_eq_true hb20) rfl ?_
             refine T.load (.plan rfl) 12 rfl rfl (wants1 rfl rfl rfl (not_t hb19)) rfl rfl rfl ?_
             refine T.boolNe (.plan rfl) rfl (wants1 rfl rfl rfl (not_t hb19)) rfl rfl rfl (by kernel_rfl) ?_
             refine T.pickF (.plan rfl) rfl (wants1 rfl rfl rfl (not_f hb15)) rfl rfl (not_t hb19) rfl ?_
             refine T.move (.plan rfl) rfl (wants1 rfl rfl rfl (not_f hb15)) rfl rfl ?_
             refine T.bool (b := (decide (r9.2.1 = s2.2.2.2.2.2.2.2.2.1))) (fun hb21 => ?_) (fun hb21 => ?_)
             ·replace hk3 := inv_posB hb21 hk3
              refine T.move (.plan rfl) rfl (wants1 rfl rfl rfl (not_t hb21)) rfl rfl ?_
              refine T.move (.plan rfl) rfl (wants1 rfl rfl rfl (not_t hb21)) rfl rfl ?_
              refine T.field (.plan rfl) rfl (wants1 rfl rfl rfl (not_t hb21)) rfl rfl ?_
              refine T.nilCheck (.plan rfl) rfl (wants1 rfl rfl rfl (not_t hb21)) rfl rfl ?_
              refine T.field (.plan rfl) rfl (wants1 rfl rfl rfl (not_t hb21)) rfl rfl ?_
              refine T.load (.plan rfl) 13 rfl rfl (wants1 rfl rfl rfl (not_t hb21)) rfl rfl rfl ?_
              obtain ⟨hc3, hk3⟩ := inv_chk hk3
              refine T.idxArrC (.plan rfl) rfl (wants1 rfl rfl rfl (not_t hb21)) rfl rfl rfl hc3.1 hc3.2 (of_decide_eq_true hb20) rfl ?_
              refine T.load (.plan rfl) 12 rfl rfl (wants1 rfl rfl rfl (not_t hb21)) rfl rfl rfl ?_
              refine T.bin (.plan rfl) rfl (wants1 rfl rfl rfl (not_t hb21)) rfl rfl rfl rfl ?_
              refine T.pickF (.plan rfl) rfl (wants1 rfl rfl rfl (not_f hb15)) rfl rfl (not_t hb21) rfl ?_
              refine T.pickT (.plan rfl) rfl (wants1 rfl rfl rfl rfl) rfl rfl (not_f hb15) rfl ?_
              refine T.pickF (.plan rfl) rfl (wants0 rfl) rfl rfl rfl rfl ?_
              refine T.planEnd ?_
              refine T.then_normal ?_
              exact T.le (EnvLe.cons rfl (EnvLe.cons rfl (EnvLe.cons rfl (EnvLe.cons rfl (EnvLe.cons rfl EnvLe.nil))))) (T.pick [11, 0, 1, 2, 3, 4, 5, 6, 7, 8, 9, 10, 12] 14 rfl rfl (Nat.le_add_left _ _) rfl (J7 (!(decide (r9.1 = s2.2.2.2.2.1))) () hk3))
             ·replace hk3 := inv_negB hb21 hk3
              refine T.leave (.plan rfl) (wantsNot rfl rfl rfl (not_f hb21)) rfl ?_
              refine T.leave (.plan rfl) (wantsNot rfl rfl rfl (not_f hb21)) rfl ?_
              refine T.leave (.plan rfl) (wantsNot rfl rfl rfl (not_f hb21)) rfl ?_
              refine T.leave (.plan rfl) (wantsNot rfl rfl rfl (not_f hb21)) rfl ?_
              refine T.leave (.plan rfl) (wantsNot rfl rfl rfl (not_f hb21)) rfl ?_
              refine T.leave (.plan rfl) (wantsNot rfl rfl rfl (not_f hb21)) rfl ?_
              refine T.leave (.plan rfl) (wantsNot rfl rfl rfl (not_f hb21)) rfl ?_
              refine T.leave (.plan rfl) (wantsNot rfl rfl rfl (not_f hb21)) rfl ?_
              refine T.leave (.plan rfl) (wantsNot rfl rfl rfl (not_f hb21)) rfl ?_
              refine T.pickT (.plan rfl) rfl (wants1 rfl rfl rfl (not_f hb15)) rfl rfl (not_f hb21) rfl ?_
              refine T.pickT (.plan rfl) rfl (wants1 rfl rfl rfl rfl) rfl rfl (not_f hb15) rfl ?_
              refine T.pickF (.plan rfl) rfl (wants0 rfl) rfl rfl rfl rfl ?_
              refine T.planEnd ?_
              refine T.then_normal ?_
              exact T.le (EnvLe.cons rfl (EnvLe.cons rfl (EnvLe.cons rfl (EnvLe.cons rfl (EnvLe.cons rfl EnvLe.nil))))) (T.pick [11, 0, 1, 2, 3, 4, 5, 6, 7, 8, 9, 10, 12] 14 rfl rfl (Nat.le_add_left _ _) rfl (J7 true () hk3))
            ·replace hk3 := inv_negB hb20 hk3
             refine T.bool (b := (decide ((((((l0).getD (s2.2.2.2.2.2.2.2.2.2.2.2.2.2.2 : Int).toNat default)).2.1)) = 1))) (fun hb22 => ?_) (fun hb22 => ?_)
             ·replace hk3 := inv_posB hb22 hk3
              obtain ⟨hc4, hk3⟩ := inv_chk hk3
              refine T.idxArrC (.plan rfl) rfl (wants1 rfl rfl rfl (not_t hb19)) rfl rfl rfl hc4.1 hc4.2 (of_decide_eq_true hb22) rfl ?_
              refine T.load (.plan rfl) 12 rfl rfl (wants1 rfl rfl rfl (not_t hb19)) rfl rfl rfl ?_
              refine T.boolNe (.plan rfl) rfl (wants1 rfl rfl rfl (not_t hb19)) rfl rfl rfl (by kernel_rfl) ?_
              refine T.pickF (.plan rfl) rfl (wants1 rfl rfl rfl (not_f hb15)) rfl rfl (not_t hb19) rfl ?_
              refine T.move (.plan rfl) rfl (wants1 rfl rfl rfl (not_f hb15)) rfl rfl ?_
              refine T.bool (b := (decide (r9.2.1 = s2.2.2.2.2.2.2.2.2.2.1))) (fun hb23 => ?_) (fun hb23 => ?_)
              ·replace hk3 := inv_posB hb23 hk3
               refine T.move (.plan rfl) rfl (wants1 rfl rfl rfl (not_t hb23)) rfl rfl ?_
               refine T.move (.plan rfl) rfl (wants1 rfl rfl rfl (not_t hb23)) rfl rfl ?_
               refine T.field (.plan rfl) rfl (wants1 rfl rfl rfl (not_t hb23)) rfl rfl ?_
               refine T.nilCheck (.plan rfl) rfl (wants1 rfl rfl rfl (not_t hb23)) rfl rfl ?_
               refine T.field (.plan rfl) rfl (wants1 rfl rfl rfl (not_t hb23)) rfl rfl ?_
               refine T.load (.plan rfl) 13 rfl rfl (wants1 rfl rfl rfl (not_t hb23)) rfl rfl rfl ?_
               obtain ⟨hc5, hk3⟩ := inv_chk hk3
               refine T.idxArrC (.plan rfl) rfl (wants1 rfl rfl rfl (not_t hb23)) rfl rfl rfl hc5.1 hc5.2 (of_decide_eq_true hb22) rfl ?_
               refine T.load (.plan rfl) 12 rfl rfl (wants1 rfl rfl rfl (not_t hb23)) rfl rfl rfl ?_
               refine T.bin (.plan rfl) rfl (wants1 rfl rfl rfl (not_t hb23)) rfl rfl rfl rfl ?_
               refine T.pickF (.plan rfl) rfl (wants1 rfl rfl rfl (not_f hb15)) rfl rfl (not_t hb23) rfl ?_
               refine T.pickT (.plan rfl) rfl (wants1 rfl rfl rfl rfl) rfl rfl (not_f hb15) rfl ?_
               refine T.pickF (.plan rfl) rfl (wants0 rfl) rfl rfl rfl rfl ?_
               refine T.planEnd ?_
               refine T.then_normal ?_
               exact T.le (EnvLe.cons rfl (EnvLe.cons rfl (EnvLe.cons rfl (EnvLe.cons rfl (EnvLe.cons rfl EnvLe.nil))))) (T.pick [11, 0, 1, 2, 3, 4, 5, 6, 7, 8, 9, 10, 12] 14 rfl rfl (Nat.le_add_left _ _) rfl (J7 (!(decide (r9.1 = s2.2.2.2.2.2.1))) () hk3))
              ·replace hk3 := inv_negB hb23 hk3
               refine T.leave (.plan rfl) (wantsNot rfl rfl rfl (not_f hb23)) rfl ?_
               refine T.leave (.plan rfl) (wantsNot rfl rfl rfl (not_f hb23)) rfl ?_
               refine T.leave (.plan rfl) (wantsNot rfl rfl rfl (not_f hb23)) rfl ?_
               refine T.leave (.plan rfl) (wantsNot rfl rfl rfl (not_f hb23)) rfl ?_
               refine T.leave (.plan rfl) (wantsNot rfl rfl rfl (not_f hb23)) rfl ?_
               refine T.leave (.plan rfl) (wantsNot rfl rfl rfl (not_f hb23)) rfl ?_
               refine T.leave (.plan rfl) (wantsNot rfl rfl rfl (not_f hb23)) rfl ?_
               refine T.leave (.plan rfl) (wantsNot rfl rfl rfl (not_f hb23)) rfl ?_
               refine T.leave (.plan rfl) (wantsNot rfl rfl rfl (not_f hb23)) rfl ?_
               refine T.pickT (.plan rfl) rfl (wants1 rfl rfl rfl (not_f hb15)) rfl rfl (not_f hb23) rfl ?_
               refine T.pickT (.plan rfl) rfl (wants1 rfl rfl rfl rfl) rfl rfl (not_f hb15) rfl ?_
               refine T.pickF (.plan rfl) rfl (wants0 rfl) rfl rfl rfl rfl ?_
               refine T.planEnd ?_
               refine T.then_normal ?_
               exact T.le (EnvLe.cons rfl (EnvLe.cons rfl (EnvLe.cons rfl (EnvLe.cons rfl (EnvLe.cons rfl EnvLe.nil))))) (T.pick [11, 0, 1, 2, 3, 4, 5, 6, 7, 8, 9, 10, 12] 14 rfl rfl (Nat.le_add_left _ _) rfl (J7 true () hk3))
             ·replace hk3 := inv_negB hb22 hk3
              refine T.bool (b := (decide ((((((l0).getD (s2.2.2.2.2.2.2.2.2.2.2.2.2.2.2 : Int).toNat default)).2.1)) = 2))) (fun hb24 => ?_) (fun hb24 => ?_)
              ·replace hk3 := inv_posB hb24 hk3
               obtain ⟨hc6, hk3⟩ := inv_chk hk3
               refine T.idxArrC (.plan rfl) rfl (wants1 rfl rfl rfl (not_t hb19)) rfl rfl rfl hc6.1 hc6.2 (of_decide_eq_true hb24) rfl ?_
               refine T.load (.plan rfl) 12 rfl rfl (wants1 rfl rfl rfl (not_t hb19)) rfl rfl rfl ?_
               refine T.boolNe (.plan rfl) rfl (wants1 rfl rfl rfl (not_t hb19)) rfl rfl rfl (by kernel_rfl) ?_
               refine T.pickF (.plan rfl) rfl (wants1 rfl rfl rfl (not_f hb15)) rfl rfl (not_t hb19) rfl ?_
               refine T.move (.plan rfl) rfl (wants1 rfl rfl rfl (not_f hb15)) rfl rfl ?_
               refine T.bool (b := (decide (r9.2.1 = s2.2.2.2.2.2.2.2.2.2.2.1))) (fun hb25 => ?_) (fun hb25 => ?_)
               ·replace hk3 := inv_posB hb25 hk3
                refine T.move (.plan rfl) rfl (wants1 rfl rfl rfl (not_t hb25)) rfl rfl ?_
                refine T.move (.plan rfl) rfl (wants1 rfl rfl rfl (not_t hb25)) rfl rfl ?_
                refine T.field (.plan rfl) rfl (wants1 rfl rfl rfl (not_t hb25)) rfl rfl ?_
                refine T.nilCheck (.plan rfl) rfl (wants1 rfl rfl rfl (not_t hb25)) rfl rfl ?_
                refine T.field (.plan rfl) rfl (wants1 rfl rfl rfl (not_t hb25)) rfl rfl ?_
                refine T.load (.plan rfl) 13 rfl rfl (wants1 rfl rfl rfl (not_t hb25)) rfl rfl rfl ?_
                obtain ⟨hc7, hk3⟩ := inv_chk hk3
                refine T.idxArrC (.plan rfl) rfl (wants1 rfl rfl rfl (not_t hb25)) rfl rfl rfl hc7.1 hc7.2 (of_decide_eq_true hb24) rfl ?_
                refine T.load (.plan rfl) 12 rfl rfl (wants1 rfl rfl rfl (not_t hb25)) rfl rfl rfl ?_
                refine T.bin (.plan rfl) rfl (wants1 rfl rfl rfl (not_t hb25)) rfl rfl rfl rfl ?_
                refine T.pickF (.plan rfl) rfl (wants1 rfl rfl rfl (not_f hb15)) rfl rfl (not_t hb25) rfl ?_
                refine T.pickT (.plan rfl) rfl (wants1 rfl rfl rfl rfl) rfl rfl (not_f hb15) rfl ?_
                refine T.pickF (.plan rfl) rfl (wants0 rfl) rfl rfl rfl rfl ?_
                refine T.planEnd ?_
                refine T.then_normal ?_
                exact T.le (EnvLe.cons rfl (EnvLe.cons rfl (EnvLe.cons rfl (EnvLe.cons rfl (EnvLe.cons rfl EnvLe.nil))))) (T.pick [11, 0, 1, 2, 3, 4, 5, 6, 7, 8, 9, 10, 12] 14 rfl rfl (Nat.le_add_left _ _) rfl (J7 (!(decide (r9.1 = s2.2.2.2.2.2.2.1))) () hk3))
               ·replace hk3 := inv_negB hb25 hk3
                refine T.leave (.plan rfl) (wantsNot rfl rfl rfl (not_f hb25)) rfl ?_
                refine T.leave (.plan rfl) (wantsNot rfl rfl rfl (not_f hb25)) rfl ?_
                refine T.leave (.plan rfl) (wantsNot rfl rfl rfl (not_f hb25)) rfl ?_
                refine T.leave (.plan rfl) (wantsNot rfl rfl rfl (not_f hb25)) rfl ?_
                refine T.leave (.plan rfl) (wantsNot rfl rfl rfl (not_f hb25)) rfl ?_
                refine T.leave (.plan rfl) (wantsNot rfl rfl rfl (not_f hb25)) rfl ?_
                refine T.leave (.plan rfl) (wantsNot rfl rfl rfl (not_f hb25)) rfl ?_
                refine T.leave (.plan rfl) (wantsNot rfl rfl rfl (not_f hb25)) rfl ?_
                refine T.leave (.plan rfl) (wantsNot rfl rfl rfl (not_f hb25)) rfl ?_
                refine T.pickT (.plan rfl) rfl (wants1 rfl rfl rfl (not_f hb15)) rfl rfl (not_f hb25) rfl ?_
                refine T.pickT (.plan rfl) rfl (wants1 rfl rfl rfl rfl) rfl rfl (not_f hb15) rfl ?_
                refine T.pickF (.plan rfl) rfl (wants0 rfl) rfl rfl rfl rfl ?_
                refine T.planEnd ?_
                refine T.then_normal ?_
                exact T.le (EnvLe.cons rfl (EnvLe.cons rfl (EnvLe.cons rfl (EnvLe.cons rfl (EnvLe.cons rfl EnvLe.nil))))) (T.pick [11, 0, 1, 2, 3, 4, 5, 6, 7, 8, 9, 10, 12] 14 rfl rfl (Nat.le_add_left _ _) rfl (J7 true () hk3))
              ·replace hk3 := inv_negB hb24 hk3
               refine T.bool (b := (decide ((((((l0).getD (s2.2.2.2.2.2.2.2.2.2.2.2.2.2.2 : Int).toNat default)).2.1)) = 3))) (fun hb26 => ?_) (fun hb26 => ?_)
               ·replace hk3 := inv_posB hb26 hk3
                obtain ⟨hc8, hk3⟩ := inv_chk hk3
                refine T.idxArrC (.plan rfl) rfl (wants1 rfl rfl rfl (not_t hb19)) rfl rfl rfl hc8.1 hc8.2 (of_decide_eq_true hb26) rfl ?_
                refine T.load (.plan rfl) 12 rfl rfl (wants1 rfl rfl rfl (not_t hb19)) rfl rfl rfl ?_
                refine T.boolNe (.plan rfl) rfl (wants1 rfl rfl rfl (not_t hb19)) rfl rfl rfl (by kernel_rfl) ?_
                refine T.pickF (.plan rfl) rfl (wants1 rfl rfl rfl (not_f hb15)) rfl rfl (not_t hb19) rfl ?_
                refine T.move (.plan rfl) rfl (wants1 rfl rfl rfl (not_f hb15)) rfl rfl ?_
                refine T.bool (b := (decide (r9.2.1 = s2.2.2.2.2.2.2.2.2.2.2.2.1))) (fun hb27 => ?_) (fun hb27 => ?_)
                ·replace hk3 := inv_posB hb27 hk3
                 refine T.move (.plan rfl) rfl (wants1 rfl rfl rfl (not_t hb27)) rfl rfl ?_
                 refine T.move (.plan rfl) rfl (wants1 rfl rfl rfl (not_t hb27)) rfl rfl ?_
                 refine T.field (.plan rfl) rfl (wants1 rfl rfl rfl (not_t hb27)) rfl rfl ?_
                 refine T.nilCheck (.plan rfl) rfl (wants1 rfl rfl rfl (not_t hb27)) rfl rfl ?_
                 refine T.field (.plan rfl) rfl (wants1 rfl rfl rfl (not_t hb27)) rfl rfl ?_
                 refine T.load (.plan rfl) 13 rfl rfl (wants1 rfl rfl rfl (not_t hb27)) rfl rfl rfl ?_
                 obtain ⟨hc9, hk3⟩ := inv_chk hk3
                 refine T.idxArrC (.plan rfl) rfl (wants1 rfl rfl rfl (not_t hb27)) rfl rfl rfl hc9.1 hc9.2 (of_decide_eq_true hb26) rfl ?_
                 refine T.load (.plan rfl) 12 rfl rfl (wants1 rfl rfl rfl (not_t hb27)) rfl rfl rfl ?_
                 refine T.bin (.plan rfl) rfl (wants1 rfl rfl rfl (not_t hb27)) rfl rfl rfl rfl ?_
                 refine T.pickF (.plan rfl) rfl (wants1 rfl rfl rfl (not_f hb15)) rfl rfl (not_t hb27) rfl ?_
                 refine T.pickT (.plan rfl) rfl (wants1 rfl rfl rfl rfl) rfl rfl (not_f hb15) rfl ?_
                 refine T.pickF (.plan rfl) rfl (wants0 rfl) rfl rfl rfl rfl ?_
                 refine T.planEnd ?_
                 refine T.then_normal ?_
                 exact T.le (EnvLe.cons rfl (EnvLe.cons rfl (EnvLe.cons rfl (EnvLe.cons rfl (EnvLe.cons rfl EnvLe.nil))))) (T.pick [11, 0, 1, 2, 3, 4, 5, 6, 7, 8, 9, 10, 12] 14 rfl rfl (Nat.le_add_left _ _) rfl (J7 (!(decide (r9.1 = s2.2.2.2.2.2.2.2.1))) () hk3))
                ·replace hk3 := inv_negB hb27 hk3
                 refine T.leave (.plan rfl) (wantsNot rfl rfl rfl (not_f hb27)) rfl ?_
                 refine T.leave (.plan rfl) (wantsNot rfl rfl rfl (not_f hb27)) rfl ?_
                 refine T.leave (.plan rfl) (wantsNot rfl rfl rfl (not_f hb27)) rfl ?_
                 refine T.leave (.plan rfl) (wantsNot rfl rfl rfl (not_f hb27)) rfl ?_
                 refine T.leave (.plan rfl) (wantsNot rfl rfl rfl (not_f hb27)) rfl ?_
                 refine T.leave (.plan rfl) (wantsNot rfl rfl rfl (not_f hb27)) rfl ?_
                 refine T.leave (.plan rfl) (wantsNot rfl rfl rfl (not_f hb27)) rfl ?_
                 refine T.leave (.plan rfl) (wantsNot rfl rfl rfl (not_f hb27)) rfl ?_
                 refine T.leave (.plan rfl) (wantsNot rfl rfl rfl (not_f hb27)) rfl ?_
                 refine T.pickT (.plan rfl) rfl (wants1 rfl rfl rfl (not_f hb15)) rfl rfl (not_f hb27) rfl ?_
                 refine T.pickT (.plan rfl) rfl (wants1 rfl rfl rfl rfl) rfl rfl (not_f hb15) rfl ?_
                 refine T.pickF (.plan rfl) rfl (wants0 rfl) rfl rfl rfl rfl ?_
                 refine T.planEnd ?_
                 refine T.then_normal ?_
                 exact T.le (EnvLe.cons rfl (EnvLe.cons rfl (EnvLe.cons rfl (EnvLe.cons rfl (EnvLe.cons rfl EnvLe.nil))))) (T.pick [11, 0, 1, 2, 3, 4, 5, 6, 7, 8, 9, 10, 12] 14 rfl rfl (Nat.le_add_left _ _) rfl (J7 true () hk3))
               ·replace hk3 := inv_negB hb26 hk3
                cases hk3
           ·replace hk3 := inv_negB hb19 hk3
            refine T.leave (.plan rfl) (wantsNot rfl rfl rfl (not_f hb19)) rfl ?_
            refine T.leave (.plan rfl) (wantsNot rfl rfl rfl (not_f hb19)) rfl ?_
            refine T.leave (.plan rfl) (wantsNot rfl rfl rfl (not_f hb19)) rfl ?_
            refine T.leave (.plan rfl) (wantsNot rfl rfl rfl (not_f hb19)) rfl ?_
            refine T.leave (.plan rfl) (wantsNot rfl rfl rfl (not_f hb19)) rfl ?_
            refine T.leave (.plan rfl) (wantsNot rfl rfl rfl (not_f hb19)) rfl ?_
            refine T.leave (.plan rfl) (wantsNot rfl rfl rfl (not_f hb19)) rfl ?_
            refine T.leave (.plan rfl) (wantsNot rfl rfl rfl (not_f hb19)) rfl ?_
            refine T.leave (.plan rfl) (wantsNot rfl rfl rfl (not_f hb19)) rfl ?_
            refine T.pickT (.plan rfl) rfl (wants1 rfl rfl rfl (not_f hb15)) rfl rfl (not_f hb19) rfl ?_
            refine T.move (.plan rfl) rfl (wants1 rfl rfl rfl (not_f hb15)) rfl rfl ?_
            refine T.leave (.plan rfl) (wantsNot rfl rfl rfl rfl) rfl ?_
            refine T.leave (.plan rfl) (wantsNot rfl rfl rfl rfl) rfl ?_
            refine T.leave (.plan rfl) (wantsNot rfl rfl rfl rfl) rfl ?_
            refine T.leave (.plan rfl) (wantsNot rfl rfl rfl rfl) rfl ?_
            refine T.leave (.plan rfl) (wantsNot rfl rfl rfl rfl) rfl ?_
            refine T.leave (.plan rfl) (wantsNot rfl rfl rfl rfl) rfl ?_
            refine T.leave (.plan rfl) (wantsNot rfl rfl rfl rfl) rfl ?_
            refine T.leave (.plan rfl) (wantsNot rfl rfl rfl rfl) rfl ?_
            refine T.leave (.plan rfl) (wantsNot rfl rfl rfl rfl) rfl ?_
            refine T.pickT (.plan rfl) rfl (wants1 rfl rfl rfl (not_f hb15)) rfl rfl rfl rfl ?_
            refine T.pickT (.plan rfl) rfl (wants1 rfl rfl rfl rfl) rfl rfl (not_f hb15) rfl ?_
            refine T.pickF (.plan rfl) rfl (wants0 rfl) rfl rfl rfl rfl ?_
            refine T.planEnd ?_
            refine T.then_normal ?_
            exact T.le (EnvLe.cons rfl (EnvLe.cons rfl (EnvLe.cons rfl (EnvLe.cons rfl (EnvLe.cons rfl EnvLe.nil))))) (T.pick [11, 0, 1, 2, 3, 4, 5, 6, 7, 8, 9, 10, 12] 14 rfl rfl (Nat.le_add_left _ _) rfl (J7 true () hk3))
        ·replace hk3 := inv_negB hb13 hk3
         refine T.seq ?_
         refine T.region ?_
         refine T.move .list rfl (wants0 rfl) rfl rfl ?_
         refine T.pick [1, 2, 3, 4, 5, 6, 7, 8, 9, 10, 11, 0, 12, 13] 14 rfl rfl (Nat.le_add_left _ _) (hs' := Cl x2.1 99 [.pointer (some ⟨x2.2.1, 0, none⟩), .slice x6.1 s2.1.length x6.2] :: Cl x2.2.1 89 [.pointer (some ⟨x2.2.2.1, 0, none⟩), .int .i64 r1p0.2.1.1, .int .i64 r1p0.2.1.2.1, .int .i64 r1p0.2.1.2.2.1, .int .i64 r1p0.2.1.2.2.2.1, .int .i64 r1p0.2.1.2.2.2.2.1, .int .i64 r1p0.2.1.2.2.2.2.2.1, .int .i64 r1p0.2.1.2.2.2.2.2.2.1, .int .i64 r1p0.2.1.2.2.2.2.2.2.2.1, .int .i64 r1p0.2.1.2.2.2.2.2.2.2.2.1, .int .i64 r1p0.2.1.2.2.2.2.2.2.2.2.2.1, .int .i64 r1p0.2.1.2.2.2.2.2.2.2.2.2.2.1, .int .i64 r1p0.2.1.2.2.2.2.2.2.2.2.2.2.2.1, .int .i64 r1p0.2.1.2.2.2.2.2.2.2.2.2.2.2.2.1, .int .i64 r1p0.2.1.2.2.2.2.2.2.2.2.2.2.2.2.2.1, .int .i64 r1p0.2.1.2.2.2.2.2.2.2.2.2.2.2.2.2.2.1, .int .i64 r1p0.2.1.2.2.2.2.2.2.2.2.2.2.2.2.2.2.2.1, .int .i64 r1p0.2.1.2.2.2.2.2.2.2.2.2.2.2.2.2.2.2.2] :: Cl x2.2.2.1 115 [.pointer (some ⟨x2.2.2.2.1, 0, none⟩), .nilIface, .int .i64 r1p0.2.2.1.1, .int .i64 r1p0.2.2.1.2.1, .nilIface, .int .i64 r1p0.2.2.1.2.2.1, .int .i64 r1p0.2.2.1.2.2.2, .map (some x2.2.2.2.2.2.2.2.2.1), .slice none 0 0, .slice none 0 0, .map (some x2.2.2.2.2.2.2.2.2.2.1)] :: Cl x2.2.2.2.1 134 [.int .i64 r1p0.2.2.2.1.1, .map (some x2.2.2.2.2.1), .pointer (some ⟨x2.2.2.2.2.2.1, 0, none⟩), .int .i64 r1p0.2.2.2.1.2.1, .int .u64 r1p0.2.2.2.1.2.2.1, .int .i64 r1p0.2.2.2.1.2.2.2] :: Mp E64 x2.2.2.2.2.1 r1p0.2.2.2.2.1 :: Cl x2.2.2.2.2.2.1 83 [.int .i64 r1p0.2.2.2.2.2.1.1, .map (some x2.2.2.2.2.2.2.1), .slice x2.2.2.2.2.2.2.2.1.1 r1p0.2.2.2.2.2.2.2.1.length x2.2.2.2.2.2.2.2.1.2, .bool r1p0.2.2.2.2.2.1.2.1, .int .i64 r1p0.2.2.2.2.2.1.2.2.1, .int .i64 r1p0.2.2.2.2.2.1.2.2.2.1, .int .u64 r1p0.2.2.2.2.2.1.2.2.2.2.1, .int .i64 r1p0.2.2.2.2.2.1.2.2.2.2.2.1, .int .i64 r1p0.2.2.2.2.2.1.2.2.2.2.2.2] :: Mp (Elt.slice E8) x2.2.2.2.2.2.2.1 r1p0.2.2.2.2.2.2.1 :: Bf (Elt.pair E64 (Elt.slice E8)) 158 x2.2.2.2.2.2.2.2.1.1 x2.2.2.2.2.2.2.2.1.2 r1p0.2.2.2.2.2.2.2.1 :: Mp E64 x2.2.2.2.2.2.2.2.2.1 r1p0.2.2.2.2.2.2.2.2.1 :: Mp E64 x2.2.2.2.2.2.2.2.2.2.1 r1p0.2.2.2.2.2.2.2.2.2.1 :: Bf (Elt.pair (Elt.pair E64 (Elt.pair (Elt.slice E8) (Elt.slice E8))) EBool) 102 x6.1 x6.2 s2.1 :: Ro (Elt.pair E64 (Elt.pair E64 E64)) A0 c0 l0 :: Cl x3 50 [.slice none 0 0, .int .i64 0, .int .i64 0, .int .i64 0, .slice none 0 0, .int .i64 0, .int .i64 0, .int .i64 0, .slice none 0 0, .int .i64 0, .int .i64 0, .int .i64 0, .slice none 0 0, .int .i64 0, .int .i64 0, .int .i64 0, .slice none 0 0, .int .i64 0, .int .i64 0, .int .i64 0, .slice none 0 0, .int .i64 0, .int .i64 0, .int .i64 0, .slice none 0 0, .int .i64 0, .int .i64 0, .int .i64 0, .slice none 0 0, .int .i64 0, .int .i64 0, .int .i64 0, .slice none 0 0, .int .i64 s2.2.1, .int .i64 s2.2.2.1, .int .i64 s2.2.2.2.1, .int .i64 s2.2.2.2.2.1, .int .i64 s2.2.2.2.2.2.1, .int .i64 s2.2.2.2.2.2.2.1, .int .i64 s2.2.2.2.2.2.2.2.1, .bool s2.2.2.2.2.2.2.2.2.1, .bool s2.2.2.2.2.2.2.2.2.2.1, .bool s2.2.2.2.2.2.2.2.2.2.2.1, .bool s2.2.2.2.2.2.2.2.2.2.2.2.1, .int .i64 s2.2.2.2.2.2.2.2.2.2.2.2.2.1, .int .i64 s2.2.2.2.2.2.2.2.2.2.2.2.2.2.1] :: Cl b1 30 [.int .i64 (((((l0).getD (s2.2.2.2.2.2.2.2.2.2.2.2.2.2.2 : Int).toNat default)).1)), .int .i64 (((((l0).getD (s2.2.2.2.2.2.2.2.2.2.2.2.2.2.2 : Int).toNat default)).2.1)), .int .i64 (((((l0).getD (s2.2.2.2.2.2.2.2.2.2.2.2.2.2.2 : Int).toNat default)).2.2))] :: hs) rfl ?_
         obtain ⟨r10, hg10, hk3⟩ := inv_bind hk3
         refine T.call .list (wants0 rfl) rfl (run_callF (vs := [_]) rfl Try.func10 rfl (by decide) rfl) (fun w hS => view_Version.c hS (o0a := (r1p0.2.1.1, r1p0.2.1.2.1, r1p0.2.1.2.2.1, r1p0.2.1.2.2.2.1, r1p0.2.1.2.2.2.2.1, r1p0.2.1.2.2.2.2.2.1, r1p0.2.1.2.2.2.2.2.2.1, r1p0.2.1.2.2.2.2.2.2.2.1, r1p0.2.1.2.2.2.2.2.2.2.2.1, r1p0.2.1.2.2.2.2.2.2.2.2.2.1, r1p0.2.1.2.2.2.2.2.2.2.2.2.2.1, r1p0.2.1.2.2.2.2.2.2.2.2.2.2.2.1, r1p0.2.1.2.2.2.2.2.2.2.2.2.2.2.2.1, r1p0.2.1.2.2.2.2.2.2.2.2.2.2.2.2.2.1, r1p0.2.1.2.2.2.2.2.2.2.2.2.2.2.2.2.2.1, r1p0.2.1.2.2.2.2.2.2.2.2.2.2.2.2.2.2.2.1, r1p0.2.1.2.2.2.2.2.2.2.2.2.2.2.2.2.2.2.2)) (o0aa := (r1p0.2.2.1.1, r1p0.2.2.1.2.1, r1p0.2.2.1.2.2.1, r1p0.2.2.1.2.2.2)) (o0aaa := (r1p0.2.2.2.1.1, r1p0.2.2.2.1.2.1, r1p0.2.2.2.1.2.2.1, r1p0.2.2.2.1.2.2.2)) (q0aaab := r1p0.2.2.2.2.1) (o0aaac := (r1p0.2.2.2.2.2.1.1, r1p0.2.2.2.2.2.1.2.1, r1p0.2.2.2.2.2.1.2.2.1, r1p0.2.2.2.2.2.1.2.2.2.1, r1p0.2.2.2.2.2.1.2.2.2.2.1, r1p0.2.2.2.2.2.1.2.2.2.2.2.1, r1p0.2.2.2.2.2.1.2.2.2.2.2.2)) (q0aaacb := r1p0.2.2.2.2.2.2.1) (q0aaacc := r1p0.2.2.2.2.2.2.2.1) (q0aah := r1p0.2.2.2.2.2.2.2.2.1) (q0aak := r1p0.2.2.2.2.2.2.2.2.2.1) (q0b := s2.1)  hg10) (fun x20 => ?_)
         refine T.move .list rfl (wants0 rfl) rfl rfl ?_
         refine T.extract .list rfl (wants0 rfl) rfl rfl rfl ?_
         refine T.extract .list rfl (wants0 rfl) rfl rfl rfl ?_
         refine T.assign .list rfl (wants0 rfl) rfl rfl ?_
         refine T.assign .list rfl (wants0 rfl) rfl rfl ?_
         refine T.nil ?_
         refine T.then_normal ?_
         refine T.seq ?_
         refine T.region ?_
         refine T.move .list rfl (wants0 rfl) rfl rfl ?_
         refine T.field .list rfl (wants0 rfl) rfl rfl ?_
         refine T.load .list 13 rfl rfl (wants0 rfl) rfl rfl rfl ?_
         refine T.pick [0, 1, 2, 3, 4, 5, 6, 7, 8, 9, 10, 11, 12, 13] 14 rfl rfl (Nat.le_add_left _ _) (hs' := Cl x2.1 99 [.pointer (some ⟨x2.2.1, 0, none⟩), .slice x6.1 s2.1.length x6.2] :: Cl x2.2.1 89 [.pointer (some ⟨x2.2.2.1, 0, none⟩), .int .i64 r1p0.2.1.1, .int .i64 r1p0.2.1.2.1, .int .i64 r1p0.2.1.2.2.1, .int .i64 r1p0.2.1.2.2.2.1, .int .i64 r1p0.2.1.2.2.2.2.1, .int .i64 r1p0.2.1.2.2.2.2.2.1, .int .i64 r1p0.2.1.2.2.2.2.2.2.1, .int .i64 r1p0.2.1.2.2.2.2.2.2.2.1, .int .i64 r1p0.2.1.2.2.2.2.2.2.2.2.1, .int .i64 r1p0.2.1.2.2.2.2.2.2.2.2.2.1, .int .i64 r1p0.2.1.2.2.2.2.2.2.2.2.2.2.1, .int .i64 r1p0.2.1.2.2.2.2.2.2.2.2.2.2.2.1, .int .i64 r1p0.2.1.2.2.2.2.2.2.2.2.2.2.2.2.1, .int .i64 r1p0.2.1.2.2.2.2.2.2.2.2.2.2.2.2.2.1, .int .i64 r1p0.2.1.2.2.2.2.2.2.2.2.2.2.2.2.2.2.1, .int .i64 r1p0.2.1.2.2.2.2.2.2.2.2.2.2.2.2.2.2.2.1, .int .i64 r1p0.2.1.2.2.2.2.2.2.2.2.2.2.2.2.2.2.2.2] :: Cl x2.2.2.1 115 [.pointer (some ⟨x2.2.2.2.1, 0, none⟩), .nilIface, .int .i64 r1p0.2.2.1.1, .int .i64 r1p0.2.2.1.2.1, .nilIface, .int .i64 r1p0.2.2.1.2.2.1, .int .i64 r1p0.2.2.1.2.2.2, .map (some x2.2.2.2.2.2.2.2.2.1), .slice none 0 0, .slice none 0 0, .map (some x2.2.2.2.2.2.2.2.2.2.1)] :: Cl x2.2.2.2.1 134 [.int .i64 r1p0.2.2.2.1.1, .map (some x2.2.2.2.2.1), .pointer (some ⟨x2.2.2.2.2.2.1, 0, none⟩), .int .i64 r1p0.2.2.2.1.2.1, .int .u64 r1p0.2.2.2.1.2.2.1, .int .i64 r1p0.2.2.2.1.2.2.2] :: Mp E64 x2.2.2.2.2.1 r1p0.2.2.2.2.1 :: Cl x2.2.2.2.2.2.1 83 [.int .i64 r1p0.2.2.2.2.2.1.1, .map (some x2.2.2.2.2.2.2.1), .slice x2.2.2.2.2.2.2.2.1.1 r1p0.2.2.2.2.2.2.2.1.length x2.2.2.2.2.2.2.2.1.2, .bool r1p0.2.2.2.2.2.1.2.1, .int .i64 r1p0.2.2.2.2.2.1.2.2.1, .int .i64 r1p0.2.2.2.2.2.1.2.2.2.1, .int .u64 r1p0.2.2.2.2.2.1.2.2.2.2.1, .int .i64 r1p0.2.2.2.2.2.1.2.2.2.2.2.1, .int .i64 r1p0.2.2.2.2.2.1.2.2.2.2.2.2] :: Mp (Elt.slice E8) x2.2.2.2.2.2.2.1 r1p0.2.2.2.2.2.2.1 :: Bf (Elt.pair E64 (Elt.slice E8)) 158 x2.2.2.2.2.2.2.2.1.1 x2.2.2.2.2.2.2.2.1.2 r1p0.2.2.2.2.2.2.2.1 :: Mp E64 x2.2.2.2.2.2.2.2.2.1 r1p0.2.2.2.2.2.2.2.2.1 :: Mp E64 x2.2.2.2.2.2.2.2.2.2.1 r1p0.2.2.2.2.2.2.2.2.2.1 :: Bf (Elt.pair (Elt.pair E64 (Elt.pair (Elt.slice E8) (Elt.slice E8))) EBool) 102 x6.1 x6.2 s2.1 :: Ro (Elt.pair E64 (Elt.pair E64 E64)) A0 c0 l0 :: Cl x3 50 [.slice none 0 0, .int .i64 0, .int .i64 0, .int .i64 0, .slice none 0 0, .int .i64 0, .int .i64 0, .int .i64 0, .slice none 0 0, .int .i64 0, .int .i64 0, .int .i64 0, .slice none 0 0, .int .i64 0, .int .i64 0, .int .i64 0, .slice none 0 0, .int .i64 0, .int .i64 0, .int .i64 0, .slice none 0 0, .int .i64 0, .int .i64 0, .int .i64 0, .slice none 0 0, .int .i64 0, .int .i64 0, .int .i64 0, .slice none 0 0, .int .i64 0, .int .i64 0, .int .i64 0, .slice none 0 0, .int .i64 s2.2.1, .int .i64 s2.2.2.1, .int .i64 s2.2.2.2.1, .int .i64 s2.2.2.2.2.1, .int .i64 s2.2.2.2.2.2.1, .int .i64 s2.2.2.2.2.2.2.1, .int .i64 s2.2.2.2.2.2.2.2.1, .bool s2.2.2.2.2.2.2.2.2.1, .bool s2.2.2.2.2.2.2.2.2.2.1, .bool s2.2.2.2.2.2.2.2.2.2.2.1, .bool s2.2.2.2.2.2.2.2.2.2.2.2.1, .int .i64 s2.2.2.2.2.2.2.2.2.2.2.2.2.1, .int .i64 s2.2.2.2.2.2.2.2.2.2.2.2.2.2.1] :: Cl b1 30 [.int .i64 (((((l0).getD (s2.2.2.2.2.2.2.2.2.2.2.2.2.2.2 : Int).toNat default)).1)), .int .i64 (((((l0).getD (s2.2.2.2.2.2.2.2.2.2.2.2.2.2.2 : Int).toNat default)).2.1)), .int .i64 (((((l0).getD (s2.2.2.2.2.2.2.2.2.2.2.2.2.2.2 : Int).toNat default)).2.2))] :: hs) rfl ?_
         obtain ⟨r11, hg11, hk3⟩ := inv_bind hk3
         refine T.call .list (wants0 rfl) rfl (run_callF (vs := [_, _]) rfl Try.func11 rfl (by decide) rfl) (fun w hS => view_Raise.c hS (o0a := (r1p0.2.1.1, r1p0.2.1.2.1, r1p0.2.1.2.2.1, r1p0.2.1.2.2.2.1, r1p0.2.1.2.2.2.2.1, r1p0.2.1.2.2.2.2.2.1, r1p0.2.1.2.2.2.2.2.2.1, r1p0.2.1.2.2.2.2.2.2.2.1, r1p0.2.1.2.2.2.2.2.2.2.2.1, r1p0.2.1.2.2.2.2.2.2.2.2.2.1, r1p0.2.1.2.2.2.2.2.2.2.2.2.2.1, r1p0.2.1.2.2.2.2.2.2.2.2.2.2.2.1, r1p0.2.1.2.2.2.2.2.2.2.2.2.2.2.2.1, r1p0.2.1.2.2.2.2.2.2.2.2.2.2.2.2.2.1, r1p0.2.1.2.2.2.2.2.2.2.2.2.2.2.2.2.2.1, r1p0.2.1.2.2.2.2.2.2.2.2.2.2.2.2.2.2.2.1, r1p0.2.1.2.2.2.2.2.2.2.2.2.2.2.2.2.2.2.2)) (o0aa := (r1p0.2.2.1.1, r1p0.2.2.1.2.1, r1p0.2.2.1.2.2.1, r1p0.2.2.1.2.2.2)) (o0aaa := (r1p0.2.2.2.1.1, r1p0.2.2.2.1.2.1, r1p0.2.2.2.1.2.2.1, r1p0.2.2.2.1.2.2.2)) (q0aaab := r1p0.2.2.2.2.1) (o0aaac := (r1p0.2.2.2.2.2.1.1, r1p0.2.2.2.2.2.1.2.1, r1p0.2.2.2.2.2.1.2.2.1, r1p0.2.2.2.2.2.1.2.2.2.1, r1p0.2.2.2.2.2.1.2.2.2.2.1, r1p0.2.2.2.2.2.1.2.2.2.2.2.1, r1p0.2.2.2.2.2.1.2.2.2.2.2.2)) (q0aaacb := r1p0.2.2.2.2.2.2.1) (q0aaacc := r1p0.2.2.2.2.2.2.2.1) (q0aah := r1p0.2.2.2.2.2.2.2.2.1) (q0aak := r1p0.2.2.2.2.2.2.2.2.2.1) (q0b := s2.1)  hg11) (fun x21 => ?_)
         refine T.move .list rfl (wants0 rfl) rfl rfl ?_
         refine T.extract .list rfl (wants0 rfl) rfl rfl rfl ?_
         refine T.extract .list rfl (wants0 rfl) rfl rfl rfl ?_
         refine T.assign .list rfl (wants0 rfl) rfl rfl ?_
         refine T.assign .list rfl (wants0 rfl) rfl rfl ?_
         refine T.nil ?_
         refine T.then_normal ?_
         refine T.seqJ (fun (s9 : Int × Int × Int × Int × Int × Int × Int × Bool × Bool × Bool × Bool × Int × Int × Bool) (x22 : Unit) => [(0, .slice A0 l0.length c0), (3, .pointer (some ⟨x2.1, 0, none⟩)), (5, .pointer (some ⟨x3, 0, none⟩)), (6, .int .i64 s2.2.2.2.2.2.2.2.2.2.2.2.2.2.2), (83, .bool s9.2.2.2.2.2.2.2.2.2.2.2.2.2)]) (fun s9 x22 => Ro (Elt.pair E64 (Elt.pair E64 E64)) A0 c0 l0 :: Cl x2.1 99 [.pointer (some ⟨x2.2.1, 0, none⟩), .slice x21.1 r11.2.2.length x21.2] :: Cl x2.2.1 89 [.pointer (some ⟨x2.2.2.1, 0, none⟩), .int .i64 r1p0.2.1.1, .int .i64 r1p0.2.1.2.1, .int .i64 r1p0.2.1.2.2.1, .int .i64 r1p0.2.1.2.2.2.1, .int .i64 r1p0.2.1.2.2.2.2.1, .int .i64 r1p0.2.1.2.2.2.2.2.1, .int .i64 r1p0.2.1.2.2.2.2.2.2.1, .int .i64 r1p0.2.1.2.2.2.2.2.2.2.1, .int .i64 r1p0.2.1.2.2.2.2.2.2.2.2.1, .int .i64 r1p0.2.1.2.2.2.2.2.2.2.2.2.1, .int .i64 r1p0.2.1.2.2.2.2.2.2.2.2.2.2.1, .int .i64 r1p0.2.1.2.2.2.2.2.2.2.2.2.2.2.1, .int .i64 r1p0.2.1.2.2.2.2.2.2.2.2.2.2.2.2.1, .int .i64 r1p0.2.1.2.2.2.2.2.2.2.2.2.2.2.2.2.1, .int .i64 r1p0.2.1.2.2.2.2.2.2.2.2.2.2.2.2.2.2.1, .int .i64 r1p0.2.1.2.2.2.2.2.2.2.2.2.2.2.2.2.2.2.1, .int .i64 r1p0.2.1.2.2.2.2.2.2.2.2.2.2.2.2.2.2.2.2] :: Cl x2.2.2.1 115 [.pointer (some ⟨x2.2.2.2.1, 0, none⟩), .nilIface, .int .i64 r1p0.2.2.1.1, .int .i64 r1p0.2.2.1.2.1, .nilIface, .int .i64 r1p0.2.2.1.2.2.1, .int .i64 r1p0.2.2.1.2.2.2, .map (some x2.2.2.2.2.2.2.2.2.1), .slice none 0 0, .slice none 0 0, .map (some x2.2.2.2.2.2.2.2.2.2.1)] :: Cl x2.2.2.2.1 134 [.int .i64 r1p0.2.2.2.1.1, .map (some x2.2.2.2.2.1), .pointer (some ⟨x2.2.2.2.2.2.1, 0, none⟩), .int .i64 r1p0.2.2.2.1.2.1, .int .u64 r1p0.2.2.2.1.2.2.1, .int .i64 r1p0.2.2.2.1.2.2.2] :: Mp E64 x2.2.2.2.2.1 r1p0.2.2.2.2.1 :: Cl x2.2.2.2.2.2.1 83 [.int .i64 r1p0.2.2.2.2.2.1.1, .map (some x2.2.2.2.2.2.2.1), .slice x2.2.2.2.2.2.2.2.1.1 r1p0.2.2.2.2.2.2.2.1.length x2.2.2.2.2.2.2.2.1.2, .bool r1p0.2.2.2.2.2.1.2.1, .int .i64 r1p0.2.2.2.2.2.1.2.2.1, .int .i64 r1p0.2.2.2.2.2.1.2.2.2.1, .int .u64 r1p0.2.2.2.2.2.1.2.2.2.2.1, .int .i64 r1p0.2.2.2.2.2.1.2.2.2.2.2.1, .int .i64 r1p0.2.2.2.2.2.1.2.2.2.2.2.2] :: Mp (Elt.slice E8) x2.2.2.2.2.2.2.1 r1p0.2.2.2.2.2.2.1 :: Bf (Elt.pair E64 (Elt.slice E8)) 158 x2.2.2.2.2.2.2.2.1.1 x2.2.2.2.2.2.2.2.1.2 r1p0.2.2.2.2.2.2.2.1 :: Mp E64 x2.2.2.2.2.2.2.2.2.1 r1p0.2.2.2.2.2.2.2.2.1 :: Mp E64 x2.2.2.2.2.2.2.2.2.2.1 r1p0.2.2.2.2.2.2.2.2.2.1 :: Bf (Elt.pair (Elt.pair E64 (Elt.pair (Elt.slice E8) (Elt.slice E8))) EBool) 102 x21.1 x21.2 r11.2.2 :: Cl x3 50 [.slice none 0 0, .int .i64 0, .int .i64 0, .int .i64 0, .slice none 0 0, .int .i64 0, .int .i64 0, .int .i64 0, .slice none 0 0, .int .i64 0, .int .i64 0, .int .i64 0, .slice none 0 0, .int .i64 0, .int .i64 0, .int .i64 0, .slice none 0 0, .int .i64 0, .int .i64 0, .int .i64 0, .slice none 0 0, .int .i64 0, .int .i64 0, .int .i64 0, .slice none 0 0, .int .i64 0, .int .i64 0, .int .i64 0, .slice none 0 0, .int .i64 0, .int .i64 0, .int .i64 0, .slice none 0 0, .int .i64 s9.1, .int .i64 s9.2.1, .int .i64 s9.2.2.1, .int .i64 s9.2.2.2.1, .int .i64 s9.2.2.2.2.1, .int .i64 s9.2.2.2.2.2.1, .int .i64 s9.2.2.2.2.2.2.1, .bool s9.2.2.2.2.2.2.2.1, .bool s9.2.2.2.2.2.2.2.2.1, .bool s9.2.2.2.2.2.2.2.2.2.1, .bool s9.2.2.2.2.2.2.2.2.2.2.1, .int .i64 s9.2.2.2.2.2.2.2.2.2.2.2.1, .int .i64 s9.2.2.2.2.2.2.2.2.2.2.2.2.1] :: hs) (fun s9 => law20_ViewPlays.k8 r1p0 s2 r11 s9 = some o1) (fun s9 x22 hk8 => ?_) (fun J8 => ?_)
         ·unfold law20_ViewPlays.k8 at hk8
          refine T.cond rfl (fun hb28 => ?_) (fun hb28 => ?_)
          ·replace hk8 := inv_posB hb28 hk8
           refine T.seq ?_
           refine T.region ?_
           refine T.assign .list rfl (wants0 rfl) rfl rfl ?_
           refine T.nil ?_
           refine T.then_normal ?_
           refine T.ret ?_
           refine T.in_ret ?_
           refine T.then_ret ?_
           refine T.in_ret ?_
           refine T.then_ret ?_
           refine T.then_ret ?_
           obtain rfl := inv_some hk8
           obtain rfl := hx1 _ rfl
           refine T.in_ret ?_
           refine T.then_ret ?_
           obtain rfl := inv_some hr
           refine T.pick [] 13 rfl rfl (Nat.le_add_left _ _) rfl ?_
           refine T.ret1 rfl rfl (fun w hS => ⟨(), rfl, hS⟩)
          ·replace hk8 := inv_negB hb28 hk8
           refine T.skip ?_
           refine T.in_normal ?_
           refine T.then_normal ?_
           exact T.le (EnvLe.cons rfl (EnvLe.cons rfl (EnvLe.cons rfl (EnvLe.cons rfl EnvLe.nil)))) (T.pick [0, 1, 2, 3, 4, 5, 6, 7, 8, 9, 10, 11, 12] 13 rfl rfl (Nat.le_add_left _ _) rfl (J4 (r11.2.2, s9.1, s9.2.1, s9.2.2.1, s9.2.2.2.1, s9.2.2.2.2.1, s9.2.2.2.2.2.1, s9.2.2.2.2.2.2.1, s9.2.2.2.2.2.2.2.1, s9.2.2.2.2.2.2.2.2.1, s9.2.2.2.2.2.2.2.2.2.1, s9.2.2.2.2.2.2.2.2.2.2.1, s9.2.2.2.2.2.2.2.2.2.2.2.1, s9.2.2.2.2.2.2.2.2.2.2.2.2.1) (x21.1, x21.2) hk8))
         ·refine T.region ?_
          refine T.move .list rfl (wants0 rfl) rfl rfl ?_
          refine T.bin .list rfl (wants0 rfl) rfl rfl rfl rfl ?_
          refine T.move .list rfl (wants0 rfl) rfl rfl ?_
          refine T.bool (b := (decide (r11.2.1 = 0))) (fun hb29 => ?_) (fun hb29 => ?_)
          ·replace hk3 := inv_posB hb29 hk3
           refine T.move .list rfl (wants1 rfl rfl rfl (not_t hb29)) rfl rfl ?_
           refine T.move .list rfl (wants1 rfl rfl rfl (not_t hb29)) rfl rfl ?_
           refine T.field .list rfl (wants1 rfl rfl rfl (not_t hb29)) rfl rfl ?_
           refine T.load .list 13 rfl rfl (wants1 rfl rfl rfl (not_t hb29)) rfl rfl rfl ?_
           refine T.pick [12, 0, 1, 2, 3, 4, 5, 6, 7, 8, 9, 10, 11, 13] 14 rfl rfl (Nat.le_add_left _ _) (hs' := Cl x3 50 [.slice none 0 0, .int .i64 0, .int .i64 0, .int .i64 0, .slice none 0 0, .int .i64 0, .int .i64 0, .int .i64 0, .slice none 0 0, .int .i64 0, .int .i64 0, .int .i64 0, .slice none 0 0, .int .i64 0, .int .i64 0, .int .i64 0, .slice none 0 0, .int .i64 0, .int .i64 0, .int .i64 0, .slice none 0 0, .int .i64 0, .int .i64 0, .int .i64 0, .slice none 0 0, .int .i64 0, .int .i64 0, .int .i64 0, .slice none 0 0, .int .i64 0, .int .i64 0, .int .i64 0, .slice none 0 0, .int .i64 s2.2.1, .int .i64 s2.2.2.1, .int .i64 s2.2.2.2.1, .int .i64 s2.2.2.2.2.1, .int .i64 s2.2.2.2.2.2.1, .int .i64 s2.2.2.2.2.2.2.1, .int .i64 s2.2.2.2.2.2.2.2.1, .bool s2.2.2.2.2.2.2.2.2.1, .bool s2.2.2.2.2.2.2.2.2.2.1, .bool s2.2.2.2.2.2.2.2.2.2.2.1, .bool s2.2.2.2.2.2.2.2.2.2.2.2.1, .int .i64 s2.2.2.2.2.2.2.2.2.2.2.2.2.1, .int .i64 s2.2.2.2.2.2.2.2.2.2.2.2.2.2.1] :: Cl x2.1 99 [.pointer (some ⟨x2.2.1, 0, none⟩), .slice x21.1 r11.2.2.length x21.2] :: Cl x2.2.1 89 [.pointer (some ⟨x2.2.2.1, 0, none⟩), .int .i64 r1p0.2.1.1, .int .i64 r1p0.2.1.2.1, .int .i64 r1p0.2.1.2.2.1, .int .i64 r1p0.2.1.2.2.2.1, .int .i64 r1p0.2.1.2.2.2.2.1, .int .i64 r1p0.2.1.2.2.2.2.2.1, .int .i64 r1p0.2.1.2.2.2.2.2.2.1, .int .i64 r1p0.2.1.2.2.2.2.2.2.2.1, .int .i64 r1p0.2.1.2.2.2.2.2.2.2.2.1, .int .i64 r1p0.2.1.2.2.2.2.2.2.2.2.2.1, .int .i64 r1p0.2.1.2.2.2.2.2.2.2.2.2.2.1, .int .i64 r1p0.2.1.2.2.2.2.2.2.2.2.2.2.2.1, .int .i64 r1p0.2.1.2.2.2.2.2.2.2.2.2.2.2.2.1, .int .i64 r1p0.2.1.2.2.2.2.2.2.2.2.2.2.2.2.2.1, .int .i64 r1p0.2.1.2.2.2.2.2.2.2.2.2.2.2.2.2.2.1, .int .i64 r1p0.2.1.2.2.2.2.2.2.2.2.2.2.2.2.2.2.2.1, .int .i64 r1p0.2.1.2.2.2.2.2.2.2.2.2.2.2.2.2.2.2.2] :: Cl x2.2.2.1 115 [.pointer (some ⟨x2.2.2.2.1, 0, none⟩), .nilIface, .int .i64 r1p0.2.2.1.1, .int .i64 r1p0.2.2.1.2.1, .nilIface, .int .i64 r1p0.2.2.1.2.2.1, .int .i64 r1p0.2.2.1.2.2.2, .map (some x2.2.2.2.2.2.2.2.2.1), .slice none 0 0, .slice none 0 0, .map (some x2.2.2.2.2.2.2.2.2.2.1)] :: Cl x2.2.2.2.1 134 [.int .i64 r1p0.2.2.2.1.1, .map (some x2.2.2.2.2.1), .pointer (some ⟨x2.2.2.2.2.2.1, 0, none⟩), .int .i64 r1p0.2.2.2.1.2.1, .int .u64 r1p0.2.2.2.1.2.2.1, .int .i64 r1p0.2.2.2.1.2.2.2] :: Mp E64 x2.2.2.2.2.1 r1p0.2.2.2.2.1 :: Cl x2.2.2.2.2.2.1 83 [.int .i64 r1p0.2.2.2.2.2.1.1, .map (some x2.2.2.2.2.2.2.1), .slice x2.2.2.2.2.2.2.2.1.1 r1p0.2.2.2.2.2.2.2.1.length x2.2.2.2.2.2.2.2.1.2, .bool r1p0.2.2.2.2.2.1.2.1, .int .i64 r1p0.2.2.2.2.2.1.2.2.1, .int .i64 r1p0.2.2.2.2.2.1.2.2.2.1, .int .u64 r1p0.2.2.2.2.2.1.2.2.2.2.1, .int .i64 r1p0.2.2.2.2.2.1.2.2.2.2.2.1, .int .i64 r1p0.2.2.2.2.2.1.2.2.2.2.2.2] :: Mp (Elt.slice E8) x2.2.2.2.2.2.2.1 r1p0.2.2.2.2.2.2.1 :: Bf (Elt.pair E64 (Elt.slice E8)) 158 x2.2.2.2.2.2.2.2.1.1 x2.2.2.2.2.2.2.2.1.2 r1p0.2.2.2.2.2.2.2.1 :: Mp E64 x2.2.2.2.2.2.2.2.2.1 r1p0.2.2.2.2.2.2.2.2.1 :: Mp E64 x2.2.2.2.2.2.2.2.2.2.1 r1p0.2.2.2.2.2.2.2.2.2.1 :: Bf (Elt.pair (Elt.pair E64 (Elt.pair (Elt.slice E8) (Elt.slice E8))) EBool) 102 x21.1 x21.2 r11.2.2 :: Ro (Elt.pair E64 (Elt.pair E64 E64)) A0 c0 l0 :: Cl b1 30 [.int .i64 (((((l0).getD (s2.2.2.2.2.2.2.2.2.2.2.2.2.2.2 : Int).toNat default)).1)), .int .i64 (((((l0).getD (s2.2.2.2.2.2.2.2.2.2.2.2.2.2.2 : Int).toNat default)).2.1)), .int .i64 (((((l0).getD (s2.2.2.2.2.2.2.2.2.2.2.2.2.2.2 : Int).toNat default)).2.2))] :: hs) rfl ?_
           obtain ⟨r12, hg12, hk3⟩ := inv_bind hk3
           refine T.call .list (wants1 rfl rfl rfl (not_t hb29)) rfl (run_callF (vs := [_, _]) rfl Try.func12 rfl (by decide) rfl) (fun w hS => ref21_Base_Raise.c hS (o0 := (s2.2.1, s2.2.2.1, s2.2.2.2.1, s2.2.2.2.2.1, s2.2.2.2.2.2.1, s2.2.2.2.2.2.2.1, s2.2.2.2.2.2.2.2.1, s2.2.2.2.2.2.2.2.2.1, s2.2.2.2.2.2.2.2.2.2.1, s2.2.2.2.2.2.2.2.2.2.2.1, s2.2.2.2.2.2.2.2.2.2.2.2.1, s2.2.2.2.2.2.2.2.2.2.2.2.2.1, s2.2.2.2.2.2.2.2.2.2.2.2.2.2.1))  hg12) (fun x23 => ?_)
           refine T.boolNe .list rfl (wants1 rfl rfl rfl (not_t hb29)) rfl rfl rfl (by kernel_rfl) ?_
           refine T.pickF .list rfl (wants0 rfl) rfl rfl (not_t hb29) rfl ?_
           refine T.move .list rfl (wants0 rfl) rfl rfl ?_
           refine T.bool (b := (decide (r11.1 = r12.1))) (fun hb30 => ?_) (fun hb30 => ?_)
           ·replace hk3 := inv_posB hb30 hk3
            refine T.move .list rfl (wants1 rfl rfl rfl (not_t hb30)) rfl rfl ?_
            refine T.move .list rfl (wants1 rfl rfl rfl (not_t hb30)) rfl rfl ?_
            refine T.bool (b := r11.1) (fun hb31 => ?_) (fun hb31 => ?_)
            ·replace hk3 := inv_posB hb31 hk3
             refine T.move .list rfl (wants1 rfl rfl rfl hb31) rfl rfl ?_
             refine T.bin .list rfl (wants1 rfl rfl rfl hb31) rfl rfl rfl rfl ?_
             refine T.pickT .list rfl (wants1 rfl rfl rfl (not_t hb30)) rfl rfl hb31 rfl ?_
             refine T.pickF .list rfl (wants0 rfl) rfl rfl (not_t hb30) rfl ?_
             refine T.nil ?_
             refine T.then_normal ?_
             exact T.le (EnvLe.cons rfl (EnvLe.cons rfl (EnvLe.cons rfl (EnvLe.cons rfl (EnvLe.cons rfl EnvLe.nil))))) (T.pick [12, 1, 2, 3, 4, 5, 6, 7, 8, 9, 10, 11, 0] 14 rfl rfl (Nat.le_add_left _ _) rfl (J8 (r12.2.1, r12.2.2.1, r12.2.2.2.1, r12.2.2.2.2.1, r12.2.2.2.2.2.1, r12.2.2.2.2.2.2.1, r12.2.2.2.2.2.2.2.1, r12.2.2.2.2.2.2.2.2.1, r12.2.2.2.2.2.2.2.2.2.1, r12.2.2.2.2.2.2.2.2.2.2.1, r12.2.2.2.2.2.2.2.2.2.2.2.1, r12.2.2.2.2.2.2.2.2.2.2.2.2.1, r12.2.2.2.2.2.2.2.2.2.2.2.2.2, (!(decide (r10.1 = 1)))) () hk3))
            ·replace hk3 := inv_negB hb31 hk3
             refine T.leave .list (wantsNot rfl rfl rfl hb31) rfl ?_
             refine T.leave .list (wantsNot rfl rfl rfl hb31) rfl ?_
             refine T.pickF .list rfl (wants1 rfl rfl rfl (not_t hb30)) rfl rfl hb31 rfl ?_
             refine T.pickF .list rfl (wants0 rfl) rfl rfl (not_t hb30) rfl ?_
             refine T.nil ?_
             refine T.then_normal ?_
             exact T.le (EnvLe.cons rfl (EnvLe.cons rfl (EnvLe.cons rfl (EnvLe.cons rfl (EnvLe.cons rfl EnvLe.nil))))) (T.pick [12, 1, 2, 3, 4, 5, 6, 7, 8, 9, 10, 11, 0] 14 rfl rfl (Nat.le_add_left _ _) rfl (J8 (r12.2.1, r12.2.2.1, r12.2.2.2.1, r12.2.2.2.2.1, r12.2.2.2.2.2.1, r12.2.2.2.2.2.2.1, r12.2.2.2.2.2.2.2.1, r12.2.2.2.2.2.2.2.2.1, r12.2.2.2.2.2.2.2.2.2.1, r12.2.2.2.2.2.2.2.2.2.2.1, r12.2.2.2.2.2.2.2.2.2.2.2.1, r12.2.2.2.2.2.2.2.2.2.2.2.2.1, r12.2.2.2.2.2.2.2.2.2.2.2.2.2, false) () hk3))
           ·replace hk3 := inv_negB hb30 hk3
            refine T.leave .list (wantsNot rfl rfl rfl (not_f hb30)) rfl ?_
            refine T.leave .list (wantsNot rfl rfl rfl (not_f hb30)) rfl ?_
            refine T.leave .list (wantsUndef rfl rfl rfl) rfl ?_
            refine T.leave .list (wantsUndef rfl rfl rfl) rfl ?_
            refine T.leave .list (wantsNot rfl rfl rfl (not_f hb30)) rfl ?_
            refine T.pickT .list rfl (wants0 rfl) rfl rfl (not_f hb30) rfl ?_
            refine T.nil ?_
            refine T.then_normal ?_
            exact T.le (EnvLe.cons rfl (EnvLe.cons rfl (EnvLe.cons rfl (EnvLe.cons rfl (EnvLe.cons rfl EnvLe.nil))))) (T.pick [12, 1, 2, 3, 4, 5, 6, 7, 8, 9, 10, 11, 0] 14 rfl rfl (Nat.le_add_left _ _) rfl (J8 (r12.2.1, r12.2.2.1, r12.2.2.2.1, r12.2.2.2.2.1, r12.2.2.2.2.2.1, r12.2.2.2.2.2.2.1, r12.2.2.2.2.2.2.2.1, r12.2.2.2.2.2.2.2.2.1, r12.2.2.2.2.2.2.2.2.2.1, r12.2.2.2.2.2.2.2.2.2.2.1, r12.2.2.2.2.2.2.2.2.2.2.2.1, r12.2.2.2.2.2.2.2.2.2.2.2.2.1, r12.2.2.2.2.2.2.2.2.2.2.2.2.2, true) () hk3))
          ·replace hk3 := inv_negB hb29 hk3
           refine T.leave .list (wantsNot rfl rfl rfl (not_f hb29)) rfl ?_
           refine T.leave .list (wantsNot rfl rfl rfl (not_f hb29)) rfl ?_
           refine T.leave .list (wantsNot rfl rfl rfl (not_f hb29)) rfl ?_
           refine T.leave .list (wantsNot rfl rfl rfl (not_f hb29)) rfl ?_
           refine T.leave .list (wantsNot rfl rfl rfl (not_f hb29)) rfl ?_
           refine T.leave .list (wantsNot rfl rfl rfl (not_f hb29)) rfl ?_
           refine T.pickT .list rfl (wants0 rfl) rfl rfl (not_f hb29) rfl ?_
           refine T.move .list rfl (wants0 rfl) rfl rfl ?_
           refine T.leave .list (wantsNot rfl rfl rfl rfl) rfl ?_
           refine T.leave .list (wantsNot rfl rfl rfl rfl) rfl ?_
           refine T.leave .list (wantsUndef rfl rfl rfl) rfl ?_
           refine T.leave .list (wantsUndef rfl rfl rfl) rfl ?_
           refine T.leave .list (wantsNot rfl rfl rfl rfl) rfl ?_
           refine T.pickT .list rfl (wants0 rfl) rfl rfl rfl rfl ?_
           refine T.nil ?_
           refine T.then_normal ?_
           exact T.le (EnvLe.cons rfl (EnvLe.cons rfl (EnvLe.cons rfl (EnvLe.cons rfl (EnvLe.cons rfl EnvLe.nil))))) (T.pick [11, 0, 1, 2, 3, 4, 5, 6, 7, 8, 9, 10, 12] 14 rfl rfl (Nat.le_add_left _ _) rfl (J8 (s2.2.1, s2.2.2.1, s2.2.2.2.1, s2.2.2.2.2.1, s2.2.2.2.2.2.1, s2.2.2.2.2.2.2.1, s2.2.2.2.2.2.2.2.1, s2.2.2.2.2.2.2.2.2.1, s2.2.2.2.2.2.2.2.2.2.1, s2.2.2.2.2.2.2.2.2.2.2.1, s2.2.2.2.2.2.2.2.2.2.2.2.1, s2.2.2.2.2.2.2.2.2.2.2.2.2.1, s2.2.2.2.2.2.2.2.2.2.2.2.2.2.1, true) () hk3))
     ·refine T.region ?_
      refine T.field .list rfl (wants0 rfl) rfl rfl ?_
      refine T.load .list 0 rfl rfl (wants0 rfl) rfl rfl rfl ?_
      refine T.bin .list rfl (wants0 rfl) rfl rfl rfl rfl ?_
      refine T.move .list rfl (wants0 rfl) rfl rfl ?_
      refine T.bool (b := (decide (((((((l0).getD (s2.2.2.2.2.2.2.2.2.2.2.2.2.2.2 : Int).toNat default)).2.1))) < 0))) (fun hb32 => ?_) (fun hb32 => ?_)
      ·replace hk2 := inv_posB hb32 hk2
       refine T.leave .list (wantsNot rfl rfl rfl hb32) rfl ?_
       refine T.leave .list (wantsNot rfl rfl rfl hb32) rfl ?_
       refine T.leave .list (wantsNot rfl rfl rfl hb32) rfl ?_
       refine T.pickT .list rfl (wants0 rfl) rfl rfl hb32 rfl ?_
       refine T.assign .list rfl (wants0 rfl) rfl rfl ?_
       refine T.nil ?_
       refine T.then_normal ?_
       exact T.le (EnvLe.cons rfl (EnvLe.cons rfl (EnvLe.cons rfl (EnvLe.cons rfl (EnvLe.cons rfl (EnvLe.cons rfl EnvLe.nil)))))) (T.pick [1, 2, 3, 4, 5, 6, 7, 8, 9, 10, 11, 12, 13, 0] 14 rfl rfl (Nat.le_add_left _ _) rfl (J3 true () hk2))
      ·replace hk2 := inv_negB hb32 hk2
       refine T.field .list rfl (wants1 rfl rfl rfl hb32) rfl rfl ?_
       refine T.load .list 0 rfl rfl (wants1 rfl rfl rfl hb32) rfl rfl rfl ?_
       refine T.bin .list rfl (wants1 rfl rfl rfl hb32) rfl rfl rfl rfl ?_
       refine T.pickF .list rfl (wants0 rfl) rfl rfl hb32 rfl ?_
       refine T.assign .list rfl (wants0 rfl) rfl rfl ?_
       refine T.nil ?_
       refine T.then_normal ?_
       exact T.le (EnvLe.cons rfl (EnvLe.cons rfl (EnvLe.cons rfl (EnvLe.cons rfl (EnvLe.cons rfl (EnvLe.cons rfl EnvLe.nil)))))) (T.pick [1, 2, 3, 4, 5, 6, 7, 8, 9, 10, 11, 12, 13, 0] 14 rfl rfl (Nat.le_add_left _ _) rfl (J3 (decide ((3 : Int) < (((((l0).getD (s2.2.2.2.2.2.2.2.2.2.2.2.2.2.2 : Int).toNat default)).2.1)))) () hk2))
    ·replace hk2 := inv_negB hb1 hk2
     refine T.exit ?_
     refine T.then_exit ?_
     refine T.then_exit ?_
     obtain rfl := inv_some hk2
     obtain rfl := hx1 _ rfl
     refine T.in_hit ?_
     refine T.then_normal ?_
     exact T.le EnvLe.nil (T.pick [] 13 rfl rfl (Nat.le_add_left _ _) rfl (J1 () () hr))
   ·refine T.region ?_
    refine T.move .list rfl (wants0 rfl) rfl rfl ?_
    refine T.move .list rfl (wants0 rfl) rfl rfl ?_
    refine T.lenSlice .list rfl (wants0 rfl) rfl rfl ?_
    refine T.bin .list rfl (wants0 rfl) rfl rfl rfl rfl ?_
    refine T.move .list rfl (wants0 rfl) rfl rfl ?_
    refine T.bool (b := (decide (s2.2.2.2.2.2.2.2.2.2.2.2.2.2.2 < ((l0.length : Int))))) (fun hb33 => ?_) (fun hb33 => ?_)
    ·replace he1 := inv_posB hb33 he1
     refine T.move .list rfl (wants1 rfl rfl rfl hb33) rfl rfl ?_
     refine T.bin .list rfl (wants1 rfl rfl rfl hb33) rfl rfl rfl rfl ?_
     refine T.pickT .list rfl (wants0 rfl) rfl rfl hb33 rfl ?_
     refine T.nil ?_
     refine T.then_normal ?_
     exact T.le (EnvLe.cons rfl (EnvLe.cons rfl (EnvLe.cons rfl (EnvLe.cons rfl (EnvLe.cons rfl EnvLe.nil))))) (T.pick [0, 1, 2, 3, 4, 5, 6, 7, 8, 9, 10, 11, 12] 13 rfl rfl (Nat.le_add_left _ _) rfl (J2 (decide (s2.2.2.2.2.2.2.2.2.2.2.2.2.2.2 < 60)) () he1))
    ·replace he1 := inv_negB hb33 he1
     refine T.leave .list (wantsNot rfl rfl rfl hb33) rfl ?_
     refine T.leave .list (wantsNot rfl rfl rfl hb33) rfl ?_
     refine T.pickF .list rfl (wants0 rfl) rfl rfl hb33 rfl ?_
     refine T.nil ?_
     refine T.then_normal ?_
     exact T.le (EnvLe.cons rfl (EnvLe.cons rfl (EnvLe.cons rfl (EnvLe.cons rfl (EnvLe.cons rfl EnvLe.nil))))) (T.pick [0, 1, 2, 3, 4, 5, 6, 7, 8, 9, 10, 11, 12] 13 rfl rfl (Nat.le_add_left _ _) rfl (J2 false () he1))
end Go.Proofs.Ythacklkmngfniaa
