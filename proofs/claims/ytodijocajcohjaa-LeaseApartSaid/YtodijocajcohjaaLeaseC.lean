/- LeaseC: what the functions compute, and that the program computes it; printed by a program of ours. -/
import Derived.Test.YtodijocajcohjaaLease
set_option linter.unusedVariables false
set_option linter.unusedSimpArgs false
namespace Go.Proofs.Ytodijocajcohjaa
open Go.RowKit
noncomputable def law19_LeaseClocks.impl (a0 : Int) (a1 : Int) (a2 : Int) (a3 : Int) (a4 : Int) : Option Bool :=
  (law19_told.impl ).bind fun r1 => (if r1 = true then (lease_Serves.impl a0 a1 a2 a3).bind fun r2 => (ref19_Serves.impl a0 a1 a2 a3).bind fun r3 => (if ((decide (r2 = r3))) = true then (lease_Ended.impl a0 a1 a2 a3).bind fun r4 => (ref19_Ended.impl a0 a1 a2 a3).bind fun r5 => (if ((decide (r4 = r5))) = true then (lease_Within.impl a4 a0 a3).bind fun r6 => (ref19_Within.impl a4 a0 a3).bind fun r7 => some (decide (r6 = r7)) else some false) else some false) else some false)
set_option maxRecDepth 100000 in
set_option maxHeartbeats 4000000 in
theorem law19_LeaseClocks.c {B : World} {hs : List MP} {w : World} {a0 : Int} {a1 : Int} {a2 : Int} {a3 : Int} {a4 : Int} (hS : St B (hs) w) {r : Bool} (hr : law19_LeaseClocks.impl a0 a1 a2 a3 a4 = some r) :
    Calls Try.prog 5 #[.int .i64 a0, .int .i64 a1, .int .i64 a2, .int .i64 a3, .int .i64 a4] w fun e w' => ∃ x : Unit, e = .returned (.bool r) ∧ St B (hs) w' := by
 unfold law19_LeaseClocks.impl at hr
 refine calls_T Try.func5 rfl rfl rfl hS ?_
 refine T.seq ?_
 refine T.region ?_
 refine T.assign .list rfl (wants0 rfl) rfl rfl ?_
 refine T.nil ?_
 refine T.then_normal ?_
 refine T.seq ?_
 refine T.region ?_
 obtain ⟨r1, hg1, hr⟩ := inv_bind hr
 refine T.call .list (wants0 rfl) rfl (run_callF (vs := []) rfl Try.func16 rfl (by decide) rfl) (fun w hS => law19_told.c hS  hg1) (fun x1 => ?_)
 refine T.move .list rfl (wants0 rfl) rfl rfl ?_
 refine T.bool (b := r1) (fun hb1 => ?_) (fun hb1 => ?_)
 ·replace hr := inv_posB hb1 hr
  refine T.move .list rfl (wants1 rfl rfl rfl hb1) rfl rfl ?_
  refine T.move .list rfl (wants1 rfl rfl rfl hb1) rfl rfl ?_
  refine T.move .list rfl (wants1 rfl rfl rfl hb1) rfl rfl ?_
  refine T.move .list rfl (wants1 rfl rfl rfl hb1) rfl rfl ?_
  obtain ⟨r2, hg2, hr⟩ := inv_bind hr
  refine T.call .list (wants1 rfl rfl rfl hb1) rfl (run_callF (vs := [_, _, _, _]) rfl Try.func17 rfl (by decide) rfl) (fun w hS => lease_Serves.c hS  hg2) (fun x2 => ?_)
  refine T.move .list rfl (wants1 rfl rfl rfl hb1) rfl rfl ?_
  refine T.move .list rfl (wants1 rfl rfl rfl hb1) rfl rfl ?_
  refine T.move .list rfl (wants1 rfl rfl rfl hb1) rfl rfl ?_
  refine T.move .list rfl (wants1 rfl rfl rfl hb1) rfl rfl ?_
  obtain ⟨r3, hg3, hr⟩ := inv_bind hr
  refine T.call .list (wants1 rfl rfl rfl hb1) rfl (run_callF (vs := [_, _, _, _]) rfl Try.func19 rfl (by decide) rfl) (fun w hS => ref19_Serves.c hS  hg3) (fun x3 => ?_)
  refine T.boolEq .list rfl (wants1 rfl rfl rfl hb1) rfl rfl rfl (by kernel_rfl) ?_
  refine T.pickT .list rfl (wants0 rfl) rfl rfl hb1 rfl ?_
  refine T.move .list rfl (wants0 rfl) rfl rfl ?_
  refine T.bool (b := (decide (r2 = r3))) (fun hb2 => ?_) (fun hb2 => ?_)
  ·replace hr := inv_posB hb2 hr
   refine T.move .list rfl (wants1 rfl rfl rfl hb2) rfl rfl ?_
   refine T.move .list rfl (wants1 rfl rfl rfl hb2) rfl rfl ?_
   refine T.move .list rfl (wants1 rfl rfl rfl hb2) rfl rfl ?_
   refine T.move .list rfl (wants1 rfl rfl rfl hb2) rfl rfl ?_
   obtain ⟨r4, hg4, hr⟩ := inv_bind hr
   refine T.call .list (wants1 rfl rfl rfl hb2) rfl (run_callF (vs := [_, _, _, _]) rfl Try.func18 rfl (by decide) rfl) (fun w hS => lease_Ended.c hS  hg4) (fun x4 => ?_)
   refine T.move .list rfl (wants1 rfl rfl rfl hb2) rfl rfl ?_
   refine T.move .list rfl (wants1 rfl rfl rfl hb2) rfl rfl ?_
   refine T.move .list rfl (wants1 rfl rfl rfl hb2) rfl rfl ?_
   refine T.move .list rfl (wants1 rfl rfl rfl hb2) rfl rfl ?_
   obtain ⟨r5, hg5, hr⟩ := inv_bind hr
   refine T.call .list (wants1 rfl rfl rfl hb2) rfl (run_callF (vs := [_, _, _, _]) rfl Try.func20 rfl (by decide) rfl) (fun w hS => ref19_Ended.c hS  hg5) (fun x5 => ?_)
   refine T.boolEq .list rfl (wants1 rfl rfl rfl hb2) rfl rfl rfl (by kernel_rfl) ?_
   refine T.pickT .list rfl (wants0 rfl) rfl rfl hb2 rfl ?_
   refine T.move .list rfl (wants0 rfl) rfl rfl ?_
   refine T.bool (b := (decide (r4 = r5))) (fun hb3 => ?_) (fun hb3 => ?_)
   ·replace hr := inv_posB hb3 hr
    refine T.move .list rfl (wants1 rfl rfl rfl hb3) rfl rfl ?_
    refine T.move .list rfl (wants1 rfl rfl rfl hb3) rfl rfl ?_
    refine T.move .list rfl (wants1 rfl rfl rfl hb3) rfl rfl ?_
    obtain ⟨r6, hg6, hr⟩ := inv_bind hr
    refine T.call .list (wants1 rfl rfl rfl hb3) rfl (run_callF (vs := [_, _, _]) rfl Try.func21 rfl (by decide) rfl) (fun w hS => lease_Within.c hS  hg6) (fun x6 => ?_)
    refine T.move .list rfl (wants1 rfl rfl rfl hb3) rfl rfl ?_
    refine T.move .list rfl (wants1 rfl rfl rfl hb3) rfl rfl ?_
    refine T.move .list rfl (wants1 rfl rfl rfl hb3) rfl rfl ?_
    obtain ⟨r7, hg7, hr⟩ := inv_bind hr
    refine T.call .list (wants1 rfl rfl rfl hb3) rfl (run_callF (vs := [_, _, _]) rfl Try.func22 rfl (by decide) rfl) (fun w hS => ref19_Within.c hS  hg7) (fun x7 => ?_)
    refine T.boolEq .list rfl (wants1 rfl rfl rfl hb3) rfl rfl rfl (by kernel_rfl) ?_
    refine T.pickT .list rfl (wants0 rfl) rfl rfl hb3 rfl ?_
    refine T.assign .list rfl (wants0 rfl) rfl rfl ?_
    refine T.nil ?_
    refine T.then_normal ?_
    refine T.ret ?_
    obtain rfl := inv_some hr
    refine T.pick [] 0 rfl rfl (Nat.le_add_left _ _) rfl ?_
    refine T.ret1 rfl rfl (fun w hS => ⟨(), rfl, hS⟩)
   ·replace hr := inv_negB hb3 hr
    refine T.leave .list (wantsNot rfl rfl rfl hb3) rfl ?_
    refine T.leave .list (wantsNot rfl rfl rfl hb3) rfl ?_
    refine T.leave .list (wantsNot rfl rfl rfl hb3) rfl ?_
    refine T.leave .list (wantsNot rfl rfl rfl hb3) rfl ?_
    refine T.leave .list (wantsNot rfl rfl rfl hb3) rfl ?_
    refine T.leave .list (wantsNot rfl rfl rfl hb3) rfl ?_
    refine T.leave .list (wantsNot rfl rfl rfl hb3) rfl ?_
    refine T.leave .list (wantsNot rfl rfl rfl hb3) rfl ?_
    refine T.leave .list (wantsNot rfl rfl rfl hb3) rfl ?_
    refine T.pickF .list rfl (wants0 rfl) rfl rfl hb3 rfl ?_
    refine T.assign .list rfl (wants0 rfl) rfl rfl ?_
    refine T.nil ?_
    refine T.then_normal ?_
    refine T.ret ?_
    obtain rfl := inv_some hr
    refine T.pick [] 0 rfl rfl (Nat.le_add_left _ _) rfl ?_
    refine T.ret1 rfl rfl (fun w hS => ⟨(), rfl, hS⟩)
  ·replace hr := inv_negB hb2 hr
   refine T.leave .list (wantsNot rfl rfl rfl hb2) rfl ?_
   refine T.leave .list (wantsNot rfl rfl rfl hb2) rfl ?_
   refine T.leave .list (wantsNot rfl rfl rfl hb2) rfl ?_
   refine T.leave .list (wantsNot rfl rfl rfl hb2) rfl ?_
   refine T.leave .list (wantsNot rfl rfl rfl hb2) rfl ?_
   refine T.leave .list (wantsNot rfl rfl rfl hb2) rfl ?_
   refine T.leave .list (wantsNot rfl rfl rfl hb2) rfl ?_
   refine T.leave .list (wantsNot rfl rfl rfl hb2) rfl ?_
   refine T.leave .list (wantsNot rfl rfl rfl hb2) rfl ?_
   refine T.leave .list (wantsNot rfl rfl rfl hb2) rfl ?_
   refine T.leave .list (wantsNot rfl rfl rfl hb2) rfl ?_
   refine T.pickF .list rfl (wants0 rfl) rfl rfl hb2 rfl ?_
   refine T.move .list rfl (wants0 rfl) rfl rfl ?_
   refine T.leave .list (wantsNot rfl rfl rfl rfl) rfl ?_
   refine T.leave .list (wantsNot rfl rfl rfl rfl) rfl ?_
   refine T.leave .list (wantsNot rfl rfl rfl rfl) rfl ?_
   refine T.leave .list (wantsNot rfl rfl rfl rfl) rfl ?_
   refine T.leave .list (wantsNot rfl rfl rfl rfl) rfl ?_
   refine T.leave .list (wantsNot rfl rfl rfl rfl) rfl ?_
   refine T.leave .list (wantsNot rfl rfl rfl rfl) rfl ?_
   refine T.leave .list (wantsNot rfl rfl rfl rfl) rfl ?_
   refine T.leave .list (wantsNot rfl rfl rfl rfl) rfl ?_
   refine T.pickF .list rfl (wants0 rfl) rfl rfl rfl rfl ?_
   refine T.assign .list rfl (wants0 rfl) rfl rfl ?_
   refine T.nil ?_
   refine T.then_normal ?_
   refine T.ret ?_
   obtain rfl := inv_some hr
   refine T.pick [] 0 rfl rfl (Nat.le_add_left _ _) rfl ?_
   refine T.ret1 rfl rfl (fun w hS => ⟨(), rfl, hS⟩)
 ·replace hr := inv_negB hb1 hr
  refine T.leave .list (wantsNot rfl rfl rfl hb1) rfl ?_
  refine T.leave .list (wantsNot rfl rfl rfl hb1) rfl ?_
  refine T.leave .list (wantsNot rfl rfl rfl hb1) rfl ?_
  refine T.leave .list (wantsNot rfl rfl rfl hb1) rfl ?_
  refine T.leave .list (wantsNot rfl rfl rfl hb1) rfl ?_
  refine T.leave .list (wantsNot rfl rfl rfl hb1) rfl ?_
  refine T.leave .list (wantsNot rfl rfl rfl hb1) rfl ?_
  refine T.leave .list (wantsNot rfl rfl rfl hb1) rfl ?_
  refine T.leave .list (wantsNot rfl rfl rfl hb1) rfl ?_
  refine T.leave .list (wantsNot rfl rfl rfl hb1) rfl ?_
  refine T.leave .list (wantsNot rfl rfl rfl hb1) rfl ?_
  refine T.pickF .list rfl (wants0 rfl) rfl rfl hb1 rfl ?_
  refine T.move .list rfl (wants0 rfl) rfl rfl ?_
  refine T.leave .list (wantsNot rfl rfl rfl rfl) rfl ?_
  refine T.leave .list (wantsNot rfl rfl rfl rfl) rfl ?_
  refine T.leave .list (wantsNot rfl rfl rfl rfl) rfl ?_
  refine T.leave .list (wantsNot rfl rfl rfl rfl) rfl ?_
  refine T.leave .list (wantsNot rfl rfl rfl rfl) rfl ?_
  refine T.leave .list (wantsNot rfl rfl rfl rfl) rfl ?_
  refine T.leave .list (wantsNot rfl rfl rfl rfl) rfl ?_
  refine T.leave .list (wantsNot rfl rfl rfl rfl) rfl ?_
  refine T.leave .list (wantsNot rfl rfl rfl rfl) rfl ?_
  refine T.leave .list (wantsNot rfl rfl rfl rfl) rfl ?_
  refine T.leave .list (wantsNot rfl rfl rfl rfl) rfl ?_
  refine T.pickF .list rfl (wants0 rfl) rfl rfl rfl rfl ?_
  refine T.move .list rfl (wants0 rfl) rfl rfl ?_
  refine T.leave .list (wantsNot rfl rfl rfl rfl) rfl ?_
  refine T.leave .list (wantsNot rfl rfl rfl rfl) rfl ?_
  refine T.leave .list (wantsNot rfl rfl rfl rfl) rfl ?_
  refine T.leave .list (wantsNot rfl rfl rfl rfl) rfl ?_
  refine T.leave .list (wantsNot rfl rfl rfl rfl) rfl ?_
  refine T.leave .list (wantsNot rfl rfl rfl rfl) rfl ?_
  refine T.leave .list (wantsNot rfl rfl rfl rfl) rfl ?_
  refine T.leave .list (wantsNot rfl rfl rfl rfl) rfl ?_
  refine T.leave .list (wantsNot rfl rfl rfl rfl) rfl ?_
  refine T.pickF .list rfl (wants0 rfl) rfl rfl rfl rfl ?_
  refine T.assign .list rfl (wants0 rfl) rfl rfl ?_
  refine T.nil ?_
  refine T.then_normal ?_
  refine T.ret ?_
  obtain rfl := inv_some hr
  refine T.pick [] 0 rfl rfl (Nat.le_add_left _ _) rfl ?_
  refine T.ret1 rfl rfl (fun w hS => ⟨(), rfl, hS⟩)
end Go.Proofs.Ytodijocajcohjaa
