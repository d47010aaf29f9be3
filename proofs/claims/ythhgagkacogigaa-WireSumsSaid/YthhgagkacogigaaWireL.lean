/- WireL: what the functions compute, and that the program computes it; printed by a program of ours. -/
import Derived.Test.YthhgagkacogigaaWire
set_option linter.unusedVariables false
set_option linter.unusedSimpArgs false
namespace Go.Proofs.Ythhgagkacogigaa
open Go.RowKit
noncomputable def law1_WireSums.impl (l0 : List UInt8) : Option Bool :=
  (law1_roomy.impl l0).bind fun r1 => (law1_told.impl ).bind fun r2 => (if r2 = true then (wire_Sum.impl r1.1).bind fun r3 => (ref1_Sum.impl l0).bind fun r4 => (if ((decide (r3 = r4))) = true then chk (0 ≤ (IntKind.i64.wrap (((l0.length : Int)) + 2)) ∧ (IntKind.i64.wrap (((l0.length : Int)) + 2)) ≤ (r1.2.length : Int)) (chk (l0.length + ([77, 78]).length ≤ 9223372036854775807) (some (decide ((subl r1.2 0 (IntKind.i64.wrap (((l0.length : Int)) + 2))) = (l0 ++ ([77, 78])))))) else some false) else some false)
set_option maxRecDepth 100000 in
set_option maxHeartbeats 1000000 in
theorem law1_WireSums.c {B : World} {hs : List MP} {w : World} {i0 c0 : Nat} {A0 : Option Addr} {l0 : List UInt8} (hS : St B (hs) w) (h0 : (hs)[i0]? = some (Ro E8 A0 c0 l0)) {r : Bool} (hr : law1_WireSums.impl l0 = some r) :
    Calls Try.prog 3 #[.slice A0 l0.length c0] w fun e w' => ∃ x : Unit, e = .returned (.bool r) ∧ St B (hs) w' := by
  unfold law1_WireSums.impl at hr
  refine calls_T Try.func3 rfl rfl rfl hS ?_
  refine T.front i0 h0 ?_
  refine T.seq ?_
  refine T.region ?_
  refine T.assign .list rfl (wants0 rfl) rfl rfl ?_
  refine T.nil ?_
  refine T.then_normal ?_
  refine T.seq ?_
  refine T.region ?_
  refine T.move .list rfl (wants0 rfl) rfl rfl ?_
  obtain ⟨r1, hg1, hr⟩ := inv_bind hr
  refine T.call .list (wants0 rfl) rfl (run_callF (vs := [_]) rfl Try.func8 rfl (by decide) rfl) (fun w hS => law1_roomy.c hS (i0 := 0) rfl hg1) (fun x1 => ?_)
  refine T.assign .list rfl (wants0 rfl) rfl rfl ?_
  refine T.nil ?_
  refine T.then_normal ?_
  refine T.seq ?_
  refine T.plan [(0, 2), (1, 0), (2, 0), (4, 0), (3, 2), (5, 2), (6, 0), (7, 0), (8, 0), (9, 0), (10, 0), (11, 0), (12, 0), (13, 0), (15, 0), (14, 1), (16, 1), (17, 0), (18, 0), (19, 0), (20, 0)] mixed (by kernel_rfl) (by kernel_rfl) rfl (fun d _ _ _ _ h => by cases d <;> exact h) ?_
  obtain ⟨r2, hg2, hr⟩ := inv_bind hr
  refine T.call (.plan rfl) (wants0 rfl) rfl (run_callF (vs := []) rfl Try.func9 rfl (by decide) rfl) (fun w hS => law1_told.c hS  hg2) (fun x2 => ?_)
  refine T.move (.plan rfl) rfl (wants0 rfl) rfl rfl ?_
  refine T.bool (b := r2) (fun hb1 => ?_) (fun hb1 => ?_)
  · replace hr := inv_posB hb1 hr
    refine T.move (.plan rfl) rfl (wants1 rfl rfl rfl hb1) rfl rfl ?_
    refine T.move (.plan rfl) rfl (wants1 rfl rfl rfl hb1) rfl rfl ?_
    obtain ⟨r3, hg3, hr⟩ := inv_bind hr
    refine T.call (.plan rfl) (wants1 rfl rfl rfl hb1) rfl (run_callF (vs := [_]) rfl Try.func10 rfl (by decide) rfl) (fun w hS => wire_Sum.c hS (i0 := 0) rfl hg3) (fun x3 => ?_)
    obtain ⟨r4, hg4, hr⟩ := inv_bind hr
    refine T.call (.plan rfl) (wants1 rfl rfl rfl hb1) rfl (run_callF (vs := [_]) rfl Try.func11 rfl (by decide) rfl) (fun w hS => ref1_Sum.c hS (i0 := 2) rfl hg4) (fun x4 => ?_)
    refine T.bin (.plan rfl) rfl (wants1 rfl rfl rfl hb1) rfl rfl rfl rfl ?_
    refine T.pickT (.plan rfl) rfl (wants0 rfl) rfl rfl hb1 rfl ?_
    refine T.move (.plan rfl) rfl (wants0 rfl) rfl rfl ?_
    refine T.bool (b := (decide (r3 = r4))) (fun hb2 => ?_) (fun hb2 => ?_)
    · replace hr := inv_posB hb2 hr
      refine T.move (.plan rfl) rfl (wants1 rfl rfl rfl hb2) rfl rfl ?_
      refine T.move (.plan rfl) rfl (wants1 rfl rfl rfl hb2) rfl rfl ?_
      refine T.lenSlice (.plan rfl) rfl (wants1 rfl rfl rfl hb2) rfl rfl ?_
      refine T.bin (.plan rfl) rfl (wants1 rfl rfl rfl hb2) rfl rfl rfl rfl ?_
      obtain ⟨hc1, hr⟩ := inv_chk hr
      refine T.cut0 (.plan rfl) 1 rfl rfl rfl (wants1 rfl rfl rfl hb2) rfl rfl (.inl rfl) (.inr ⟨_, _, rfl, rfl⟩) hc1.1 hc1.2 ?_
      refine T.move (.plan rfl) rfl (wants1 rfl rfl rfl hb2) rfl rfl ?_
      refine T.strRo (.plan rfl) 0 rfl rfl (wants1 rfl rfl rfl hb2) rfl rfl rfl ?_
      refine T.strRo (.plan rfl) 3 rfl rfl (wants1 rfl rfl rfl hb2) rfl rfl rfl ?_
      obtain ⟨hc2, hr⟩ := inv_chk hr
      refine T.strAdd (.plan rfl) rfl (wants1 rfl rfl rfl hb2) rfl (l := l0) (l' := ([77, 78])) rfl rfl hc2 ?_
      refine T.strEq (.plan rfl) rfl (wants1 rfl rfl rfl hb2) rfl (l := (subl r1.2 0 (IntKind.i64.wrap (((l0.length : Int)) + 2)))) (l' := (l0 ++ ([77, 78]))) rfl rfl ?_
      refine T.pickT (.plan rfl) rfl (wants0 rfl) rfl rfl hb2 rfl ?_
      refine T.assign (.plan rfl) rfl (wants0 rfl) rfl rfl ?_
      refine T.planEnd ?_
      refine T.then_normal ?_
      refine T.ret ?_
      obtain rfl := inv_some hr
      refine T.pick [] 4 rfl rfl (Nat.le_add_left _ _) rfl ?_
      refine T.ret1 rfl rfl (fun w hS => ⟨(), rfl, hS⟩)
    · replace hr := inv_negB hb2 hr
      refine T.leave (.plan rfl) (wantsNot rfl rfl rfl hb2) rfl ?_
      refine T.leave (.plan rfl) (wantsNot rfl rfl rfl hb2) rfl ?_
      refine T.leave (.plan rfl) (wantsNot rfl rfl rfl hb2) rfl ?_
      refine T.leave (.plan rfl) (wantsNot rfl rfl rfl hb2) rfl ?_
      refine T.leave (.plan rfl) (wantsNot rfl rfl rfl hb2) rfl ?_
      refine T.leave (.plan rfl) (wantsNot rfl rfl rfl hb2) rfl ?_
      refine T.leave (.plan rfl) (wantsNot rfl rfl rfl hb2) rfl ?_
      refine T.leave (.plan rfl) (wantsNot rfl rfl rfl hb2) rfl ?_
      refine T.leave (.plan rfl) (wantsNot rfl rfl rfl hb2) rfl ?_
      refine T.leave (.plan rfl) (wantsNot rfl rfl rfl hb2) rfl ?_
      refine T.pickF (.plan rfl) rfl (wants0 rfl) rfl rfl hb2 rfl ?_
      refine T.assign (.plan rfl) rfl (wants0 rfl) rfl rfl ?_
      refine T.planEnd ?_
      refine T.then_normal ?_
      refine T.ret ?_
      obtain rfl := inv_some hr
      refine T.pick [] 3 rfl rfl (Nat.le_add_left _ _) rfl ?_
      refine T.ret1 rfl rfl (fun w hS => ⟨(), rfl, hS⟩)
  · replace hr := inv_negB hb1 hr
    refine T.leave (.plan rfl) (wantsNot rfl rfl rfl hb1) rfl ?_
    refine T.leave (.plan rfl) (wantsNot rfl rfl rfl hb1) rfl ?_
    refine T.leave (.plan rfl) (wantsNot rfl rfl rfl hb1) rfl ?_
    refine T.leave (.plan rfl) (wantsNot rfl rfl rfl hb1) rfl ?_
    refine T.leave (.plan rfl) (wantsNot rfl rfl rfl hb1) rfl ?_
    refine T.pickF (.plan rfl) rfl (wants0 rfl) rfl rfl hb1 rfl ?_
    refine T.move (.plan rfl) rfl (wants0 rfl) rfl rfl ?_
    refine T.leave (.plan rfl) (wantsNot rfl rfl rfl rfl) rfl ?_
    refine T.leave (.plan rfl) (wantsNot rfl rfl rfl rfl) rfl ?_
    refine T.leave (.plan rfl) (wantsNot rfl rfl rfl rfl) rfl ?_
    refine T.leave (.plan rfl) (wantsNot rfl rfl rfl rfl) rfl ?_
    refine T.leave (.plan rfl) (wantsNot rfl rfl rfl rfl) rfl ?_
    refine T.leave (.plan rfl) (wantsNot rfl rfl rfl rfl) rfl ?_
    refine T.leave (.plan rfl) (wantsNot rfl rfl rfl rfl) rfl ?_
    refine T.leave (.plan rfl) (wantsNot rfl rfl rfl rfl) rfl ?_
    refine T.leave (.plan rfl) (wantsNot rfl rfl rfl rfl) rfl ?_
    refine T.leave (.plan rfl) (wantsNot rfl rfl rfl rfl) rfl ?_
    refine T.pickF (.plan rfl) rfl (wants0 rfl) rfl rfl rfl rfl ?_
    refine T.assign (.plan rfl) rfl (wants0 rfl) rfl rfl ?_
    refine T.planEnd ?_
    refine T.then_normal ?_
    refine T.ret ?_
    obtain rfl := inv_some hr
    refine T.pick [] 3 rfl rfl (Nat.le_add_left _ _) rfl ?_
    refine T.ret1 rfl rfl (fun w hS => ⟨(), rfl, hS⟩)

noncomputable def law1_WireForth.k2 (r2 : List UInt8) (a2 : Int) (a3 : Int) (s2 : List UInt8 × Bool) : Option Bool :=
  (if s2.2 = true then some false else (law1_told.impl ).bind fun r4 => (if r4 = true then (if ((decide ((((r2.length : Int))) = ((s2.1.length : Int))))) = true then (if ((decide ((Op.bytesLess r2 s2.1) = (decide (((bitsOf .and .i64 a2 9223372036854775807)) < (bitsOf .and .i64 a3 9223372036854775807)))))) = true then (if ((decide ((((r2.length : Int))) ≤ ((s2.1.length : Int))))) = true then some true else some (decide (((bitsOf .and .i64 a3 9223372036854775807)) < (bitsOf .and .i64 a2 9223372036854775807)))) else some false) else (if ((decide ((((r2.length : Int))) ≤ ((s2.1.length : Int))))) = true then some true else some (decide (((bitsOf .and .i64 a3 9223372036854775807)) < (bitsOf .and .i64 a2 9223372036854775807))))) else some false))
noncomputable def law1_WireForth.k1 (a2 : Int) (a3 : Int) (s1 : Bool) : Option Bool :=
  (if s1 = true then some false else (wire_Uint.impl (bitsOf .and .i64 a2 9223372036854775807)).bind fun r2 => (wire_Uint.impl (bitsOf .and .i64 a3 9223372036854775807)).bind fun r3 => (if ((decide ((((r2.length : Int))) = 0))) = true then law1_WireForth.k2 r2 a2 a3 (r3, true) else (if ((decide ((((r3.length : Int))) = 0))) = true then law1_WireForth.k2 r2 a2 a3 (r3, true) else (if ((decide (((bitsOf .and .i64 a2 9223372036854775807)) = (bitsOf .and .i64 a3 9223372036854775807)))) = true then law1_WireForth.k2 r2 a2 a3 (r3, false) else (if ((decide ((((r2.length : Int))) ≤ ((r3.length : Int))))) = true then chk (0 ≤ ((r2.length : Int)) ∧ ((r2.length : Int)) ≤ (r3.length : Int)) (law1_WireForth.k2 r2 a2 a3 (r3, (decide ((subl r3 0 ((r2.length : Int))) = r2)))) else law1_WireForth.k2 r2 a2 a3 (r3, false))))))
noncomputable def law1_WireForth.impl (l0 : List UInt8) (a1 : Int) (a2 : Int) (a3 : Int) : Option Bool :=
  (wire_ReadUint.impl l0 a1).bind fun r1 => (if ((decide (r1.2.2 = 0))) = true then (if ((decide (a1 < 0))) = true then law1_WireForth.k1 a2 a3 true else (if ((decide ((((l0.length : Int))) < r1.2.1))) = true then law1_WireForth.k1 a2 a3 true else (if ((decide (r1.2.1 ≤ a1))) = true then law1_WireForth.k1 a2 a3 true else (if ((decide (r1.1 < 0))) = true then law1_WireForth.k1 a2 a3 true else chk (0 ≤ a1 ∧ a1 ≤ r1.2.1 ∧ r1.2.1 ≤ (l0.length : Int)) ((wire_Uint.impl r1.1).bind fun r5 => law1_WireForth.k1 a2 a3 (!(decide (r5 = (subl l0 a1 r1.2.1))))))))) else law1_WireForth.k1 a2 a3 false)
set_option maxRecDepth 100000 in
set_option maxHeartbeats 1000000 in
theorem law1_WireForth.c {B : World} {hs : List MP} {w : World} {i0 c0 : Nat} {A0 : Option Addr} {l0 : List UInt8} {a1 : Int} {a2 : Int} {a3 : Int} (hS : St B (hs) w) (h0 : (hs)[i0]? = some (Ro E8 A0 c0 l0)) {r : Bool} (hr : law1_WireForth.impl l0 a1 a2 a3 = some r) :
    Calls Try.prog 5 #[.slice A0 l0.length c0, .int .i64 a1, .int .i64 a2, .int .i64 a3] w fun e w' => ∃ x : Unit, e = .returned (.bool r) ∧ St B (hs) w' := by
  unfold law1_WireForth.impl at hr
  refine calls_T Try.func5 rfl rfl rfl hS ?_
  refine T.front i0 h0 ?_
  refine T.seq ?_
  refine T.region ?_
  refine T.assign .list rfl (wants0 rfl) rfl rfl ?_
  refine T.nil ?_
  refine T.then_normal ?_
  refine T.seq ?_
  refine T.region ?_
  refine T.move .list rfl (wants0 rfl) rfl rfl ?_
  refine T.move .list rfl (wants0 rfl) rfl rfl ?_
  obtain ⟨r1, hg1, hr⟩ := inv_bind hr
  refine T.call .list (wants0 rfl) rfl (run_callF (vs := [_, _]) rfl Try.func12 rfl (by decide) rfl) (fun w hS => wire_ReadUint.c hS (i0 := 0) rfl hg1) (fun x1 => ?_)
  refine T.move .list rfl (wants0 rfl) rfl rfl ?_
  refine T.extract .list rfl (wants0 rfl) rfl rfl rfl ?_
  refine T.extract .list rfl (wants0 rfl) rfl rfl rfl ?_
  refine T.extract .list rfl (wants0 rfl) rfl rfl rfl ?_
  refine T.assign .list rfl (wants0 rfl) rfl rfl ?_
  refine T.assign .list rfl (wants0 rfl) rfl rfl ?_
  refine T.assign .list rfl (wants0 rfl) rfl rfl ?_
  refine T.nil ?_
  refine T.then_normal ?_
  refine T.seq ?_
  refine T.seqJ (fun (s1 : Bool) (x2 : Unit) => [(2, .int .i64 a2), (3, .int .i64 a3), (52, .bool s1)]) (fun s1 x2 => hs) (fun s1 => law1_WireForth.k1 a2 a3 s1 = some r) (fun s1 x2 hk1 => ?_) (fun J1 => ?_)
  · unfold law1_WireForth.k1 at hk1
    refine T.cond rfl (fun hb1 => ?_) (fun hb1 => ?_)
    · replace hk1 := inv_posB hb1 hk1
      refine T.seq ?_
      refine T.region ?_
      refine T.assign .list rfl (wants0 rfl) rfl rfl ?_
      refine T.nil ?_
      refine T.then_normal ?_
      refine T.ret ?_
      refine T.then_ret ?_
      obtain rfl := inv_some hk1
      refine T.pick [] 0 rfl rfl (Nat.le_add_left _ _) rfl ?_
      refine T.ret1 rfl rfl (fun w hS => ⟨(), rfl, hS⟩)
    · replace hk1 := inv_negB hb1 hk1
      refine T.skip ?_
      refine T.then_normal ?_
      refine T.seq ?_
      refine T.region ?_
      refine T.move .list rfl (wants0 rfl) rfl rfl ?_
      refine T.bin .list rfl (wants0 rfl) rfl rfl rfl rfl ?_
      refine T.move .list rfl (wants0 rfl) rfl rfl ?_
      refine T.bin .list rfl (wants0 rfl) rfl rfl rfl rfl ?_
      refine T.assign .list rfl (wants0 rfl) rfl rfl ?_
      refine T.assign .list rfl (wants0 rfl) rfl rfl ?_
      refine T.nil ?_
      refine T.then_normal ?_
      refine T.seq ?_
      refine T.region ?_
      refine T.move .list rfl (wants0 rfl) rfl rfl ?_
      obtain ⟨r2, hg2, hk1⟩ := inv_bind hk1
      refine T.call .list (wants0 rfl) rfl (run_callF (vs := [_]) rfl Try.func13 rfl (by decide) rfl) (fun w hS => wire_Uint.c hS  hg2) (fun x3 => ?_)
      refine T.move .list rfl (wants0 rfl) rfl rfl ?_
      obtain ⟨r3, hg3, hk1⟩ := inv_bind hk1
      refine T.call .list (wants0 rfl) rfl (run_callF (vs := [_]) rfl Try.func13 rfl (by decide) rfl) (fun w hS => wire_Uint.c hS  hg3) (fun x4 => ?_)
      refine T.assign .list rfl (wants0 rfl) rfl rfl ?_
      refine T.assign .list rfl (wants0 rfl) rfl rfl ?_
      refine T.nil ?_
      refine T.then_normal ?_
      refine T.seq ?_
      refine T.seqJ (fun (s2 : List UInt8 × Bool) (x5 : (Option Addr × Nat)) => [(2, .int .i64 (bitsOf .and .i64 a2 9223372036854775807)), (3, .int .i64 (bitsOf .and .i64 a3 9223372036854775807)), (12, .slice x3.1 r2.length x3.2), (13, .slice x5.1 s2.1.length x5.2), (90, .bool s2.2)]) (fun s2 x5 => Bf E8 5 x3.1 x3.2 r2 :: Ro E8 x5.1 x5.2 s2.1 :: hs) (fun s2 => law1_WireForth.k2 r2 a2 a3 s2 = some r) (fun s2 x5 hk2 => ?_) (fun J2 => ?_)
      · unfold law1_WireForth.k2 at hk2
        refine T.cond rfl (fun hb2 => ?_) (fun hb2 => ?_)
        · replace hk2 := inv_posB hb2 hk2
          refine T.seq ?_
          refine T.region ?_
          refine T.assign .list rfl (wants0 rfl) rfl rfl ?_
          refine T.nil ?_
          refine T.then_normal ?_
          refine T.ret ?_
          refine T.then_ret ?_
          obtain rfl := inv_some hk2
          refine T.pick [] 2 rfl rfl (Nat.le_add_left _ _) rfl ?_
          refine T.ret1 rfl rfl (fun w hS => ⟨(), rfl, hS⟩)
        · replace hk2 := inv_negB hb2 hk2
          refine T.skip ?_
          refine T.then_normal ?_
          refine T.seq ?_
          refine T.region ?_
          obtain ⟨r4, hg4, hk2⟩ := inv_bind hk2
          refine T.call .list (wants0 rfl) rfl (run_callF (vs := []) rfl Try.func9 rfl (by decide) rfl) (fun w hS => law1_told.c hS  hg4) (fun x6 => ?_)
          refine T.move .list rfl (wants0 rfl) rfl rfl ?_
          refine T.bool (b := r4) (fun hb3 => ?_) (fun hb3 => ?_)
          · replace hk2 := inv_posB hb3 hk2
            refine T.move .list rfl (wants1 rfl rfl rfl hb3) rfl rfl ?_
            refine T.lenSlice .list rfl (wants1 rfl rfl rfl hb3) rfl rfl ?_
            refine T.move .list rfl (wants1 rfl rfl rfl hb3) rfl rfl ?_
            refine T.lenSlice .list rfl (wants1 rfl rfl rfl hb3) rfl rfl ?_
            refine T.bin .list rfl (wants1 rfl rfl rfl hb3) rfl rfl rfl rfl ?_
            refine T.move .list rfl (wants1 rfl rfl rfl hb3) rfl rfl ?_
            refine T.bool (b := (decide ((((r2.length : Int))) = ((s2.1.length : Int))))) (fun hb4 => ?_) (fun hb4 => ?_)
            · replace hk2 := inv_posB hb4 hk2
              refine T.move .list rfl (wants1 rfl rfl rfl (not_t hb4)) rfl rfl ?_
              refine T.strBf .list 0 rfl rfl (wants1 rfl rfl rfl (not_t hb4)) rfl rfl rfl ?_
              refine T.move .list rfl (wants1 rfl rfl rfl (not_t hb4)) rfl rfl ?_
              refine T.strRo .list 1 rfl rfl (wants1 rfl rfl rfl (not_t hb4)) rfl rfl rfl ?_
              refine T.strLt .list rfl (wants1 rfl rfl rfl (not_t hb4)) rfl (l := r2) (l' := s2.1) rfl rfl ?_
              refine T.move .list rfl (wants1 rfl rfl rfl (not_t hb4)) rfl rfl ?_
              refine T.move .list rfl (wants1 rfl rfl rfl (not_t hb4)) rfl rfl ?_
              refine T.bin .list rfl (wants1 rfl rfl rfl (not_t hb4)) rfl rfl rfl rfl ?_
              refine T.boolEq .list rfl (wants1 rfl rfl rfl (not_t hb4)) rfl rfl rfl (by kernel_rfl) ?_
              refine T.pickF .list rfl (wants1 rfl rfl rfl hb3) rfl rfl (not_t hb4) rfl ?_
              refine T.pickT .list rfl (wants0 rfl) rfl rfl hb3 rfl ?_
              refine T.move .list rfl (wants0 rfl) rfl rfl ?_
              refine T.bool (b := (decide ((Op.bytesLess r2 s2.1) = (decide (((bitsOf .and .i64 a2 9223372036854775807)) < (bitsOf .and .i64 a3 9223372036854775807)))))) (fun hb5 => ?_) (fun hb5 => ?_)
              · replace hk2 := inv_posB hb5 hk2
                refine T.move .list rfl (wants1 rfl rfl rfl hb5) rfl rfl ?_
                refine T.lenSlice .list rfl (wants1 rfl rfl rfl hb5) rfl rfl ?_
                refine T.move .list rfl (wants1 rfl rfl rfl hb5) rfl rfl ?_
                refine T.lenSlice .list rfl (wants1 rfl rfl rfl hb5) rfl rfl ?_
                refine T.bin .list rfl (wants1 rfl rfl rfl hb5) rfl rfl rfl rfl ?_
                refine T.move .list rfl (wants1 rfl rfl rfl hb5) rfl rfl ?_
                refine T.bool (b := (decide ((((r2.length : Int))) ≤ ((s2.1.length : Int))))) (fun hb6 => ?_) (fun hb6 => ?_)
                · replace hk2 := inv_posB hb6 hk2
                  refine T.leave .list (wantsNot rfl rfl rfl hb6) rfl ?_
                  refine T.leave .list (wantsNot rfl rfl rfl hb6) rfl ?_
                  refine T.leave .list (wantsNot rfl rfl rfl hb6) rfl ?_
                  refine T.pickT .list rfl (wants1 rfl rfl rfl hb5) rfl rfl hb6 rfl ?_
                  refine T.pickT .list rfl (wants0 rfl) rfl rfl hb5 rfl ?_
                  refine T.assign .list rfl (wants0 rfl) rfl rfl ?_
                  refine T.nil ?_
                  refine T.then_normal ?_
                  refine T.ret ?_
                  obtain rfl := inv_some hk2
                  refine T.pick [] 2 rfl rfl (Nat.le_add_left _ _) rfl ?_
                  refine T.ret1 rfl rfl (fun w hS => ⟨(), rfl, hS⟩)
                · replace hk2 := inv_negB hb6 hk2
                  refine T.move .list rfl (wants1 rfl rfl rfl hb6) rfl rfl ?_
                  refine T.move .list rfl (wants1 rfl rfl rfl hb6) rfl rfl ?_
                  refine T.bin .list rfl (wants1 rfl rfl rfl hb6) rfl rfl rfl rfl ?_
                  refine T.pickF .list rfl (wants1 rfl rfl rfl hb5) rfl rfl hb6 rfl ?_
                  refine T.pickT .list rfl (wants0 rfl) rfl rfl hb5 rfl ?_
                  refine T.assign .list rfl (wants0 rfl) rfl rfl ?_
                  refine T.nil ?_
                  refine T.then_normal ?_
                  refine T.ret ?_
                  obtain rfl := inv_some hk2
                  refine T.pick [] 2 rfl rfl (Nat.le_add_left _ _) rfl ?_
                  refine T.ret1 rfl rfl (fun w hS => ⟨(), rfl, hS⟩)
              · replace hk2 := inv_negB hb5 hk2
                refine T.leave .list (wantsNot rfl rfl rfl hb5) rfl ?_
                refine T.leave .list (wantsNot rfl rfl rfl hb5) rfl ?_
                refine T.leave .list (wantsNot rfl rfl rfl hb5) rfl ?_
                refine T.leave .list (wantsNot rfl rfl rfl hb5) rfl ?_
                refine T.leave .list (wantsNot rfl rfl rfl hb5) rfl ?_
                refine T.leave .list (wantsNot rfl rfl rfl hb5) rfl ?_
                refine T.leave .list (wantsUndef rfl rfl rfl) rfl ?_
                refine T.leave .list (wantsUndef rfl rfl rfl) rfl ?_
                refine T.leave .list (wantsUndef rfl rfl rfl) rfl ?_
                refine T.leave .list (wantsNot rfl rfl rfl hb5) rfl ?_
                refine T.pickF .list rfl (wants0 rfl) rfl rfl hb5 rfl ?_
                refine T.assign .list rfl (wants0 rfl) rfl rfl ?_
                refine T.nil ?_
                refine T.then_normal ?_
                refine T.ret ?_
                obtain rfl := inv_some hk2
                refine T.pick [] 2 rfl rfl (Nat.le_add_left _ _) rfl ?_
                refine T.ret1 rfl rfl (fun w hS => ⟨(), rfl, hS⟩)
            · replace hk2 := inv_negB hb4 hk2
              refine T.leave .list (wantsNot rfl rfl rfl (not_f hb4)) rfl ?_
              refine T.leave .list (wantsNot rfl rfl rfl (not_f hb4)) rfl ?_
              refine T.leave .list (wantsNot rfl rfl rfl (not_f hb4)) rfl ?_
              refine T.leave .list (wantsNot rfl rfl rfl (not_f hb4)) rfl ?_
              refine T.leave .list (wantsNot rfl rfl rfl (not_f hb4)) rfl ?_
              refine T.leave .list (wantsNot rfl rfl rfl (not_f hb4)) rfl ?_
              refine T.leave .list (wantsNot rfl rfl rfl (not_f hb4)) rfl ?_
              refine T.leave .list (wantsNot rfl rfl rfl (not_f hb4)) rfl ?_
              refine T.leave .list (wantsNot rfl rfl rfl (not_f hb4)) rfl ?_
              refine T.pickT .list rfl (wants1 rfl rfl rfl hb3) rfl rfl (not_f hb4) rfl ?_
              refine T.pickT .list rfl (wants0 rfl) rfl rfl hb3 rfl ?_
              refine T.move .list rfl (wants0 rfl) rfl rfl ?_
              refine T.move .list rfl (wants1 rfl rfl rfl rfl) rfl rfl ?_
              refine T.lenSlice .list rfl (wants1 rfl rfl rfl rfl) rfl rfl ?_
              refine T.move .list rfl (wants1 rfl rfl rfl rfl) rfl rfl ?_
              refine T.lenSlice .list rfl (wants1 rfl rfl rfl rfl) rfl rfl ?_
              refine T.bin .list rfl (wants1 rfl rfl rfl rfl) rfl rfl rfl rfl ?_
              refine T.move .list rfl (wants1 rfl rfl rfl rfl) rfl rfl ?_
              refine T.bool (b := (decide ((((r2.length : Int))) ≤ ((s2.1.length : Int))))) (fun hb7 => ?_) (fun hb7 => ?_)
              · replace hk2 := inv_posB hb7 hk2
                refine T.leave .list (wantsNot rfl rfl rfl hb7) rfl ?_
                refine T.leave .list (wantsNot rfl rfl rfl hb7) rfl ?_
                refine T.leave .list (wantsNot rfl rfl rfl hb7) rfl ?_
                refine T.pickT .list rfl (wants1 rfl rfl rfl rfl) rfl rfl hb7 rfl ?_
                refine T.pickT .list rfl (wants0 rfl) rfl rfl rfl rfl ?_
                refine T.assign .list rfl (wants0 rfl) rfl rfl ?_
                refine T.nil ?_
                refine T.then_normal ?_
                refine T.ret ?_
                obtain rfl := inv_some hk2
                refine T.pick [] 2 rfl rfl (Nat.le_add_left _ _) rfl ?_
                refine T.ret1 rfl rfl (fun w hS => ⟨(), rfl, hS⟩)
              · replace hk2 := inv_negB hb7 hk2
                refine T.move .list rfl (wants1 rfl rfl rfl hb7) rfl rfl ?_
                refine T.move .list rfl (wants1 rfl rfl rfl hb7) rfl rfl ?_
                refine T.bin .list rfl (wants1 rfl rfl rfl hb7) rfl rfl rfl rfl ?_
                refine T.pickF .list rfl (wants1 rfl rfl rfl rfl) rfl rfl hb7 rfl ?_
                refine T.pickT .list rfl (wants0 rfl) rfl rfl rfl rfl ?_
                refine T.assign .list rfl (wants0 rfl) rfl rfl ?_
                refine T.nil ?_
                refine T.then_normal ?_
                refine T.ret ?_
                obtain rfl := inv_some hk2
                refine T.pick [] 2 rfl rfl (Nat.le_add_left _ _) rfl ?_
                refine T.ret1 rfl rfl (fun w hS => ⟨(), rfl, hS⟩)
          · replace hk2 := inv_negB hb3 hk2
            refine T.leave .list (wantsNot rfl rfl rfl hb3) rfl ?_
            refine T.leave .list (wantsNot rfl rfl rfl hb3) rfl ?_
            refine T.leave .list (wantsNot rfl rfl rfl hb3) rfl ?_
            refine T.leave .list (wantsNot rfl rfl rfl hb3) rfl ?_
            refine T.leave .list (wantsNot rfl rfl rfl hb3) rfl ?_
            refine T.leave .list (wantsNot rfl rfl rfl hb3) rfl ?_
            refine T.leave .list (wantsUndef rfl rfl rfl) rfl ?_
            refine T.leave .list (wantsUndef rfl rfl rfl) rfl ?_
            refine T.leave .list (wantsUndef rfl rfl rfl) rfl ?_
            refine T.leave .list (wantsUndef rfl rfl rfl) rfl ?_
            refine T.leave .list (wantsUndef rfl rfl rfl) rfl ?_
            refine T.leave .list (wantsUndef rfl rfl rfl) rfl ?_
            refine T.leave .list (wantsUndef rfl rfl rfl) rfl ?_
            refine T.leave .list (wantsUndef rfl rfl rfl) rfl ?_
            refine T.leave .list (wantsUndef rfl rfl rfl) rfl ?_
            refine T.leave .list (wantsNot rfl rfl rfl hb3) rfl ?_
            refine T.pickF .list rfl (wants0 rfl) rfl rfl hb3 rfl ?_
            refine T.move .list rfl (wants0 rfl) rfl rfl ?_
            refine T.leave .list (wantsNot rfl rfl rfl rfl) rfl ?_
            refine T.leave .list (wantsNot rfl rfl rfl rfl) rfl ?_
            refine T.leave .list (wantsNot rfl rfl rfl rfl) rfl ?_
            refine T.leave .list (wantsNot rfl rfl rfl rfl) rfl ?_
            refine T.leave .list (wantsNot rfl rfl rfl rfl) rfl ?_
            refine T.leave .list (wantsNot rfl rfl rfl rfl) rfl ?_
            refine T.leave .list (wantsUndef rfl rfl rfl) rfl ?_
            refine T.leave .list (wantsUndef rfl rfl rfl) rfl ?_
            refine T.leave .list (wantsUndef rfl rfl rfl) rfl ?_
            refine T.leave .list (wantsNot rfl rfl rfl rfl) rfl ?_
            refine T.pickF .list rfl (wants0 rfl) rfl rfl rfl rfl ?_
            refine T.assign .list rfl (wants0 rfl) rfl rfl ?_
            refine T.nil ?_
            refine T.then_normal ?_
            refine T.ret ?_
            obtain rfl := inv_some hk2
            refine T.pick [] 2 rfl rfl (Nat.le_add_left _ _) rfl ?_
            refine T.ret1 rfl rfl (fun w hS => ⟨(), rfl, hS⟩)
      · refine T.plan [(0, 0), (1, 0), (2, 0), (3, 0), (4, 0), (5, 0), (6, 0), (7, 0), (8, 0), (9, 0), (10, 0), (11, 0), (12, 0), (13, 0), (14, 0), (15, 0), (16, 0), (17, 0), (18, 0), (19, 0), (20, 0), (21, 0), (22, 0), (23, 0), (25, 0), (24, 1), (26, 1), (27, 0), (28, 0), (29, 0)] mixed (by kernel_rfl) (by kernel_rfl) rfl (fun d _ _ _ _ h => by cases d <;> exact h) ?_
        refine T.move (.plan rfl) rfl (wants0 rfl) rfl rfl ?_
        refine T.lenSlice (.plan rfl) rfl (wants0 rfl) rfl rfl ?_
        refine T.bin (.plan rfl) rfl (wants0 rfl) rfl rfl rfl rfl ?_
        refine T.move (.plan rfl) rfl (wants0 rfl) rfl rfl ?_
        refine T.bool (b := (decide ((((r2.length : Int))) = 0))) (fun hb8 => ?_) (fun hb8 => ?_)
        · replace hk1 := inv_posB hb8 hk1
          refine T.leave (.plan rfl) (wantsNot rfl rfl rfl hb8) rfl ?_
          refine T.leave (.plan rfl) (wantsNot rfl rfl rfl hb8) rfl ?_
          refine T.leave (.plan rfl) (wantsNot rfl rfl rfl hb8) rfl ?_
          refine T.pickT (.plan rfl) rfl (wants0 rfl) rfl rfl hb8 rfl ?_
          refine T.move (.plan rfl) rfl (wants0 rfl) rfl rfl ?_
          refine T.leave (.plan rfl) (wantsNot rfl rfl rfl rfl) rfl ?_
          refine T.leave (.plan rfl) (wantsNot rfl rfl rfl rfl) rfl ?_
          refine T.leave (.plan rfl) (wantsNot rfl rfl rfl rfl) rfl ?_
          refine T.leave (.plan rfl) (wantsNot rfl rfl rfl rfl) rfl ?_
          refine T.leave (.plan rfl) (wantsUndef rfl rfl rfl) rfl ?_
          refine T.leave (.plan rfl) (wantsUndef rfl rfl rfl) rfl ?_
          refine T.leave (.plan rfl) (wantsUndef rfl rfl rfl) rfl ?_
          refine T.leave (.plan rfl) (wantsUndef rfl rfl rfl) rfl ?_
          refine T.leave (.plan rfl) (wantsUndef rfl rfl rfl) rfl ?_
          refine T.leave (.plan rfl) (wantsNot rfl rfl rfl rfl) rfl ?_
          refine T.leave (.plan rfl) (wantsNot rfl rfl rfl rfl) rfl ?_
          refine T.leave (.plan rfl) (wantsUndef rfl rfl rfl) rfl ?_
          refine T.leave (.plan rfl) (wantsUndef rfl rfl rfl) rfl ?_
          refine T.leave (.plan rfl) (wantsUndef rfl rfl rfl) rfl ?_
          refine T.leave (.plan rfl) (wantsUndef rfl rfl rfl) rfl ?_
          refine T.leave (.plan rfl) (wantsUndef rfl rfl rfl) rfl ?_
          refine T.leave (.plan rfl) (wantsUndef rfl rfl rfl) rfl ?_
          refine T.leave (.plan rfl) (wantsUndef rfl rfl rfl) rfl ?_
          refine T.leave (.plan rfl) (wantsUndef rfl rfl rfl) rfl ?_
          refine T.leave (.plan rfl) (wantsNot rfl rfl rfl rfl) rfl ?_
          refine T.pickT (.plan rfl) rfl (wants0 rfl) rfl rfl rfl rfl ?_
          refine T.planEnd ?_
          refine T.then_normal ?_
          refine T.freeze 0 rfl rfl rfl ?_
          exact T.le (EnvLe.cons rfl (EnvLe.cons rfl (EnvLe.cons rfl (EnvLe.cons rfl (EnvLe.cons rfl EnvLe.nil))))) (T.pick [1, 0] 2 rfl rfl (Nat.le_add_left _ _) rfl (J2 (r3, true) (x4.1, x4.2) hk1))
        · replace hk1 := inv_negB hb8 hk1
          refine T.move (.plan rfl) rfl (wants1 rfl rfl rfl hb8) rfl rfl ?_
          refine T.lenSlice (.plan rfl) rfl (wants1 rfl rfl rfl hb8) rfl rfl ?_
          refine T.bin (.plan rfl) rfl (wants1 rfl rfl rfl hb8) rfl rfl rfl rfl ?_
          refine T.pickF (.plan rfl) rfl (wants0 rfl) rfl rfl hb8 rfl ?_
          refine T.move (.plan rfl) rfl (wants0 rfl) rfl rfl ?_
          refine T.bool (b := (decide ((((r3.length : Int))) = 0))) (fun hb9 => ?_) (fun hb9 => ?_)
          · replace hk1 := inv_posB hb9 hk1
            refine T.leave (.plan rfl) (wantsNot rfl rfl rfl hb9) rfl ?_
            refine T.leave (.plan rfl) (wantsNot rfl rfl rfl hb9) rfl ?_
            refine T.leave (.plan rfl) (wantsNot rfl rfl rfl hb9) rfl ?_
            refine T.leave (.plan rfl) (wantsNot rfl rfl rfl hb9) rfl ?_
            refine T.leave (.plan rfl) (wantsUndef rfl rfl rfl) rfl ?_
            refine T.leave (.plan rfl) (wantsUndef rfl rfl rfl) rfl ?_
            refine T.leave (.plan rfl) (wantsUndef rfl rfl rfl) rfl ?_
            refine T.leave (.plan rfl) (wantsUndef rfl rfl rfl) rfl ?_
            refine T.leave (.plan rfl) (wantsUndef rfl rfl rfl) rfl ?_
            refine T.leave (.plan rfl) (wantsNot rfl rfl rfl hb9) rfl ?_
            refine T.leave (.plan rfl) (wantsNot rfl rfl rfl hb9) rfl ?_
            refine T.leave (.plan rfl) (wantsUndef rfl rfl rfl) rfl ?_
            refine T.leave (.plan rfl) (wantsUndef rfl rfl rfl) rfl ?_
            refine T.leave (.plan rfl) (wantsUndef rfl rfl rfl) rfl ?_
            refine T.leave (.plan rfl) (wantsUndef rfl rfl rfl) rfl ?_
            refine T.leave (.plan rfl) (wantsUndef rfl rfl rfl) rfl ?_
            refine T.leave (.plan rfl) (wantsUndef rfl rfl rfl) rfl ?_
            refine T.leave (.plan rfl) (wantsUndef rfl rfl rfl) rfl ?_
            refine T.leave (.plan rfl) (wantsUndef rfl rfl rfl) rfl ?_
            refine T.leave (.plan rfl) (wantsNot rfl rfl rfl hb9) rfl ?_
            refine T.pickT (.plan rfl) rfl (wants0 rfl) rfl rfl hb9 rfl ?_
            refine T.planEnd ?_
            refine T.then_normal ?_
            refine T.freeze 0 rfl rfl rfl ?_
            exact T.le (EnvLe.cons rfl (EnvLe.cons rfl (EnvLe.cons rfl (EnvLe.cons rfl (EnvLe.cons rfl EnvLe.nil))))) (T.pick [1, 0] 2 rfl rfl (Nat.le_add_left _ _) rfl (J2 (r3, true) (x4.1, x4.2) hk1))
          · replace hk1 := inv_negB hb9 hk1
            refine T.move (.plan rfl) rfl (wants1 rfl rfl rfl hb9) rfl rfl ?_
            refine T.move (.plan rfl) rfl (wants1 rfl rfl rfl hb9) rfl rfl ?_
            refine T.bin (.plan rfl) rfl (wants1 rfl rfl rfl hb9) rfl rfl rfl rfl ?_
            refine T.move (.plan rfl) rfl (wants1 rfl rfl rfl hb9) rfl rfl ?_
            refine T.bool (b := (decide (((bitsOf .and .i64 a2 9223372036854775807)) = (bitsOf .and .i64 a3 9223372036854775807)))) (fun hb10 => ?_) (fun hb10 => ?_)
            · replace hk1 := inv_posB hb10 hk1
              refine T.leave (.plan rfl) (wantsNot rfl rfl rfl (not_t hb10)) rfl ?_
              refine T.leave (.plan rfl) (wantsNot rfl rfl rfl (not_t hb10)) rfl ?_
              refine T.leave (.plan rfl) (wantsNot rfl rfl rfl (not_t hb10)) rfl ?_
              refine T.leave (.plan rfl) (wantsNot rfl rfl rfl (not_t hb10)) rfl ?_
              refine T.leave (.plan rfl) (wantsNot rfl rfl rfl (not_t hb10)) rfl ?_
              refine T.pickF (.plan rfl) rfl (wants1 rfl rfl rfl hb9) rfl rfl (not_t hb10) rfl ?_
              refine T.move (.plan rfl) rfl (wants1 rfl rfl rfl hb9) rfl rfl ?_
              refine T.leave (.plan rfl) (wantsNot rfl rfl rfl rfl) rfl ?_
              refine T.leave (.plan rfl) (wantsNot rfl rfl rfl rfl) rfl ?_
              refine T.leave (.plan rfl) (wantsNot rfl rfl rfl rfl) rfl ?_
              refine T.leave (.plan rfl) (wantsNot rfl rfl rfl rfl) rfl ?_
              refine T.leave (.plan rfl) (wantsNot rfl rfl rfl rfl) rfl ?_
              refine T.leave (.plan rfl) (wantsNot rfl rfl rfl rfl) rfl ?_
              refine T.leave (.plan rfl) (wantsNot rfl rfl rfl rfl) rfl ?_
              refine T.leave (.plan rfl) (wantsNot rfl rfl rfl rfl) rfl ?_
              refine T.pickF (.plan rfl) rfl (wants1 rfl rfl rfl hb9) rfl rfl rfl rfl ?_
              refine T.pickF (.plan rfl) rfl (wants0 rfl) rfl rfl hb9 rfl ?_
              refine T.planEnd ?_
              refine T.then_normal ?_
              refine T.freeze 0 rfl rfl rfl ?_
              exact T.le (EnvLe.cons rfl (EnvLe.cons rfl (EnvLe.cons rfl (EnvLe.cons rfl (EnvLe.cons rfl EnvLe.nil))))) (T.pick [1, 0] 2 rfl rfl (Nat.le_add_left _ _) rfl (J2 (r3, false) (x4.1, x4.2) hk1))
            · replace hk1 := inv_negB hb10 hk1
              refine T.move (.plan rfl) rfl (wants1 rfl rfl rfl (not_f hb10)) rfl rfl ?_
              refine T.lenSlice (.plan rfl) rfl (wants1 rfl rfl rfl (not_f hb10)) rfl rfl ?_
              refine T.move (.plan rfl) rfl (wants1 rfl rfl rfl (not_f hb10)) rfl rfl ?_
              refine T.lenSlice (.plan rfl) rfl (wants1 rfl rfl rfl (not_f hb10)) rfl rfl ?_
              refine T.bin (.plan rfl) rfl (wants1 rfl rfl rfl (not_f hb10)) rfl rfl rfl rfl ?_
              refine T.pickT (.plan rfl) rfl (wants1 rfl rfl rfl hb9) rfl rfl (not_f hb10) rfl ?_
              refine T.move (.plan rfl) rfl (wants1 rfl rfl rfl hb9) rfl rfl ?_
              refine T.bool (b := (decide ((((r2.length : Int))) ≤ ((r3.length : Int))))) (fun hb11 => ?_) (fun hb11 => ?_)
              · replace hk1 := inv_posB hb11 hk1
                refine T.move (.plan rfl) rfl (wants1 rfl rfl rfl hb11) rfl rfl ?_
                refine T.move (.plan rfl) rfl (wants1 rfl rfl rfl hb11) rfl rfl ?_
                refine T.lenSlice (.plan rfl) rfl (wants1 rfl rfl rfl hb11) rfl rfl ?_
                refine T.freeze 0 rfl rfl rfl ?_
                obtain ⟨hc1, hk1⟩ := inv_chk hk1
                refine T.cut0 (.plan rfl) 0 rfl rfl rfl (wants1 rfl rfl rfl hb11) rfl rfl (.inl rfl) (.inr ⟨_, _, rfl, rfl⟩) hc1.1 hc1.2 ?_
                refine T.move (.plan rfl) rfl (wants1 rfl rfl rfl hb11) rfl rfl ?_
                refine T.strRo (.plan rfl) 0 rfl rfl (wants1 rfl rfl rfl hb11) rfl rfl rfl ?_
                refine T.strBf (.plan rfl) 2 rfl rfl (wants1 rfl rfl rfl hb11) rfl rfl rfl ?_
                refine T.strEq (.plan rfl) rfl (wants1 rfl rfl rfl hb11) rfl (l := (subl r3 0 ((r2.length : Int)))) (l' := r2) rfl rfl ?_
                refine T.pickT (.plan rfl) rfl (wants1 rfl rfl rfl hb9) rfl rfl hb11 rfl ?_
                refine T.pickF (.plan rfl) rfl (wants0 rfl) rfl rfl hb9 rfl ?_
                refine T.planEnd ?_
                refine T.then_normal ?_
                exact T.le (EnvLe.cons rfl (EnvLe.cons rfl (EnvLe.cons rfl (EnvLe.cons rfl (EnvLe.cons rfl EnvLe.nil))))) (T.pick [2, 1] 3 rfl rfl (Nat.le_add_left _ _) rfl (J2 (r3, (decide ((subl r3 0 ((r2.length : Int))) = r2))) (x4.1, x4.2) hk1))
              · replace hk1 := inv_negB hb11 hk1
                refine T.leave (.plan rfl) (wantsNot rfl rfl rfl hb11) rfl ?_
                refine T.leave (.plan rfl) (wantsNot rfl rfl rfl hb11) rfl ?_
                refine T.leave (.plan rfl) (wantsNot rfl rfl rfl hb11) rfl ?_
                refine T.leave (.plan rfl) (wantsNot rfl rfl rfl hb11) rfl ?_
                refine T.leave (.plan rfl) (wantsNot rfl rfl rfl hb11) rfl ?_
                refine T.leave (.plan rfl) (wantsNot rfl rfl rfl hb11) rfl ?_
                refine T.leave (.plan rfl) (wantsNot rfl rfl rfl hb11) rfl ?_
                refine T.leave (.plan rfl) (wantsNot rfl rfl rfl hb11) rfl ?_
                refine T.pickF (.plan rfl) rfl (wants1 rfl rfl rfl hb9) rfl rfl hb11 rfl ?_
                refine T.pickF (.plan rfl) rfl (wants0 rfl) rfl rfl hb9 rfl ?_
                refine T.planEnd ?_
                refine T.then_normal ?_
                refine T.freeze 0 rfl rfl rfl ?_
                exact T.le (EnvLe.cons rfl (EnvLe.cons rfl (EnvLe.cons rfl (EnvLe.cons rfl (EnvLe.cons rfl EnvLe.nil))))) (T.pick [1, 0] 2 rfl rfl (Nat.le_add_left _ _) rfl (J2 (r3, false) (x4.1, x4.2) hk1))
  · refine T.dStart mixed ?_
    refine T.move (.dPure (i := 0) rfl (by kernel_rfl) (fun d _ _ _ _ h => by cases d <;> exact h)) rfl (wants0 rfl) rfl rfl ?_
    refine T.bin (.dPure (i := 1) rfl (by kernel_rfl) (fun d _ _ _ _ h => by cases d <;> exact h)) rfl (wants0 rfl) rfl rfl rfl rfl ?_
    refine T.move (.dPure (i := 2) rfl (by kernel_rfl) (fun d _ _ _ _ h => by cases d <;> exact h)) rfl (wants0 rfl) rfl rfl ?_
    refine T.bool (b := (decide (r1.2.2 = 0))) (fun hb12 => ?_) (fun hb12 => ?_)
    · replace hr := inv_posB hb12 hr
      refine T.move (.dPure (i := 3) rfl (by kernel_rfl) (fun d _ _ _ _ h => by cases d <;> exact h)) rfl (wants1 rfl rfl rfl hb12) rfl rfl ?_
      refine T.bin (.dPure (i := 4) rfl (by kernel_rfl) (fun d _ _ _ _ h => by cases d <;> exact h)) rfl (wants1 rfl rfl rfl hb12) rfl rfl rfl rfl ?_
      refine T.move (.dPure (i := 5) rfl (by kernel_rfl) (fun d _ _ _ _ h => by cases d <;> exact h)) rfl (wants1 rfl rfl rfl hb12) rfl rfl ?_
      refine T.bool (b := (decide (a1 < 0))) (fun hb13 => ?_) (fun hb13 => ?_)
      · replace hr := inv_posB hb13 hr
        refine T.leave (.dPure (i := 6) rfl (by kernel_rfl) (fun d _ _ _ _ h => by cases d <;> exact h)) (wantsNot rfl rfl rfl hb13) rfl ?_
        refine T.leave (.dPure (i := 7) rfl (by kernel_rfl) (fun d _ _ _ _ h => by cases d <;> exact h)) (wantsNot rfl rfl rfl hb13) rfl ?_
        refine T.leave (.dPure (i := 8) rfl (by kernel_rfl) (fun d _ _ _ _ h => by cases d <;> exact h)) (wantsNot rfl rfl rfl hb13) rfl ?_
        refine T.leave (.dPure (i := 9) rfl (by kernel_rfl) (fun d _ _ _ _ h => by cases d <;> exact h)) (wantsNot rfl rfl rfl hb13) rfl ?_
        refine T.pickT (.dPure (i := 10) rfl (by kernel_rfl) (fun d _ _ _ _ h => by cases d <;> exact h)) rfl (wants1 rfl rfl rfl hb12) rfl rfl hb13 rfl ?_
        refine T.move (.dPure (i := 11) rfl (by kernel_rfl) (fun d _ _ _ _ h => by cases d <;> exact h)) rfl (wants1 rfl rfl rfl hb12) rfl rfl ?_
        refine T.leave (.dPure (i := 12) rfl (by kernel_rfl) (fun d _ _ _ _ h => by cases d <;> exact h)) (wantsNot rfl rfl rfl rfl) rfl ?_
        refine T.leave (.dPure (i := 13) rfl (by kernel_rfl) (fun d _ _ _ _ h => by cases d <;> exact h)) (wantsNot rfl rfl rfl rfl) rfl ?_
        refine T.leave (.dPure (i := 14) rfl (by kernel_rfl) (fun d _ _ _ _ h => by cases d <;> exact h)) (wantsNot rfl rfl rfl rfl) rfl ?_
        refine T.pickT (.dPure (i := 15) rfl (by kernel_rfl) (fun d _ _ _ _ h => by cases d <;> exact h)) rfl (wants1 rfl rfl rfl hb12) rfl rfl rfl rfl ?_
        refine T.move (.dPure (i := 16) rfl (by kernel_rfl) (fun d _ _ _ _ h => by cases d <;> exact h)) rfl (wants1 rfl rfl rfl hb12) rfl rfl ?_
        refine T.leave (.dPure (i := 17) rfl (by kernel_rfl) (fun d _ _ _ _ h => by cases d <;> exact h)) (wantsNot rfl rfl rfl rfl) rfl ?_
        refine T.leave (.dPure (i := 18) rfl (by kernel_rfl) (fun d _ _ _ _ h => by cases d <;> exact h)) (wantsNot rfl rfl rfl rfl) rfl ?_
        refine T.pickT (.dPure (i := 19) rfl (by kernel_rfl) (fun d _ _ _ _ h => by cases d <;> exact h)) rfl (wants1 rfl rfl rfl hb12) rfl rfl rfl rfl ?_
        refine T.move (.dPure (i := 20) rfl (by kernel_rfl) (fun d _ _ _ _ h => by cases d <;> exact h)) rfl (wants1 rfl rfl rfl hb12) rfl rfl ?_
        refine T.leave (.dPure (i := 21) rfl (by kernel_rfl) (fun d _ _ _ _ h => by cases d <;> exact h)) (wantsNot rfl rfl rfl rfl) rfl ?_
        refine T.leave (.dPure (i := 22) rfl (by kernel_rfl) (fun d _ _ _ _ h => by cases d <;> exact h)) (wantsNot rfl rfl rfl rfl) rfl ?_
        refine T.leave (.dPure (i := 23) rfl (by kernel_rfl) (fun d _ _ _ _ h => by cases d <;> exact h)) (wantsNot rfl rfl rfl rfl) rfl ?_
        refine T.leave (.dPure (i := 24) rfl (by kernel_rfl) (fun d _ _ _ _ h => by cases d <;> exact h)) (wantsNot rfl rfl rfl rfl) rfl ?_
        refine T.leave (.dPure (i := 25) rfl (by kernel_rfl) (fun d _ _ _ _ h => by cases d <;> exact h)) (wantsNot rfl rfl rfl rfl) rfl ?_
        refine T.leave (.dPure (i := 26) rfl (by kernel_rfl) (fun d _ _ _ _ h => by cases d <;> exact h)) (wantsNot rfl rfl rfl rfl) rfl ?_
        refine T.leave (.dPure (i := 27) rfl (by kernel_rfl) (fun d _ _ _ _ h => by cases d <;> exact h)) (wantsNot rfl rfl rfl rfl) rfl ?_
        refine T.leave (.dPure (i := 28) rfl (by kernel_rfl) (fun d _ _ _ _ h => by cases d <;> exact h)) (wantsNot rfl rfl rfl rfl) rfl ?_
        refine T.leave (.dPure (i := 29) rfl (by kernel_rfl) (fun d _ _ _ _ h => by cases d <;> exact h)) (wantsNot rfl rfl rfl rfl) rfl ?_
        refine T.pickT (.dPure (i := 30) rfl (by kernel_rfl) (fun d _ _ _ _ h => by cases d <;> exact h)) rfl (wants1 rfl rfl rfl hb12) rfl rfl rfl rfl ?_
        refine T.pickT (.dPure (i := 31) rfl (by kernel_rfl) (fun d _ _ _ _ h => by cases d <;> exact h)) rfl (wants0 rfl) rfl rfl hb12 rfl ?_
        refine T.dDone (by kernel_rfl) ?_
        refine T.then_normal ?_
        exact T.le (EnvLe.cons rfl (EnvLe.cons rfl (EnvLe.cons rfl EnvLe.nil))) (T.pick [] 1 rfl rfl (Nat.le_add_left _ _) rfl (J1 true () hr))
      · replace hr := inv_negB hb13 hr
        refine T.move (.dPure (i := 6) rfl (by kernel_rfl) (fun d _ _ _ _ h => by cases d <;> exact h)) rfl (wants1 rfl rfl rfl hb13) rfl rfl ?_
        refine T.move (.dPure (i := 7) rfl (by kernel_rfl) (fun d _ _ _ _ h => by cases d <;> exact h)) rfl (wants1 rfl rfl rfl hb13) rfl rfl ?_
        refine T.lenSlice (.dPure (i := 8) rfl (by kernel_rfl) (fun d _ _ _ _ h => by cases d <;> exact h)) rfl (wants1 rfl rfl rfl hb13) rfl rfl ?_
        refine T.bin (.dPure (i := 9) rfl (by kernel_rfl) (fun d _ _ _ _ h => by cases d <;> exact h)) rfl (wants1 rfl rfl rfl hb13) rfl rfl rfl rfl ?_
        refine T.pickF (.dPure (i := 10) rfl (by kernel_rfl) (fun d _ _ _ _ h => by cases d <;> exact h)) rfl (wants1 rfl rfl rfl hb12) rfl rfl hb13 rfl ?_
        refine T.move (.dPure (i := 11) rfl (by kernel_rfl) (fun d _ _ _ _ h => by cases d <;> exact h)) rfl (wants1 rfl rfl rfl hb12) rfl rfl ?_
        refine T.bool (b := (decide ((((l0.length : Int))) < r1.2.1))) (fun hb14 => ?_) (fun hb14 => ?_)
        · replace hr := inv_posB hb14 hr
          refine T.leave (.dPure (i := 12) rfl (by kernel_rfl) (fun d _ _ _ _ h => by cases d <;> exact h)) (wantsNot rfl rfl rfl hb14) rfl ?_
          refine T.leave (.dPure (i := 13) rfl (by kernel_rfl) (fun d _ _ _ _ h => by cases d <;> exact h)) (wantsNot rfl rfl rfl hb14) rfl ?_
          refine T.leave (.dPure (i := 14) rfl (by kernel_rfl) (fun d _ _ _ _ h => by cases d <;> exact h)) (wantsNot rfl rfl rfl hb14) rfl ?_
          refine T.pickT (.dPure (i := 15) rfl (by kernel_rfl) (fun d _ _ _ _ h => by cases d <;> exact h)) rfl (wants1 rfl rfl rfl hb12) rfl rfl hb14 rfl ?_
          refine T.move (.dPure (i := 16) rfl (by kernel_rfl) (fun d _ _ _ _ h => by cases d <;> exact h)) rfl (wants1 rfl rfl rfl hb12) rfl rfl ?_
          refine T.leave (.dPure (i := 17) rfl (by kernel_rfl) (fun d _ _ _ _ h => by cases d <;> exact h)) (wantsNot rfl rfl rfl rfl) rfl ?_
          refine T.leave (.dPure (i := 18) rfl (by kernel_rfl) (fun d _ _ _ _ h => by cases d <;> exact h)) (wantsNot rfl rfl rfl rfl) rfl ?_
          refine T.pickT (.dPure (i := 19) rfl (by kernel_rfl) (fun d _ _ _ _ h => by cases d <;> exact h)) rfl (wants1 rfl rfl rfl hb12) rfl rfl rfl rfl ?_
          refine T.move (.dPure (i := 20) rfl (by kernel_rfl) (fun d _ _ _ _ h => by cases d <;> exact h)) rfl (wants1 rfl rfl rfl hb12) rfl rfl ?_
          refine T.leave (.dPure (i := 21) rfl (by kernel_rfl) (fun d _ _ _ _ h => by cases d <;> exact h)) (wantsNot rfl rfl rfl rfl) rfl ?_
          refine T.leave (.dPure (i := 22) rfl (by kernel_rfl) (fun d _ _ _ _ h => by cases d <;> exact h)) (wantsNot rfl rfl rfl rfl) rfl ?_
          refine T.leave (.dPure (i := 23) rfl (by kernel_rfl) (fun d _ _ _ _ h => by cases d <;> exact h)) (wantsNot rfl rfl rfl rfl) rfl ?_
          refine T.leave (.dPure (i := 24) rfl (by kernel_rfl) (fun d _ _ _ _ h => by cases d <;> exact h)) (wantsNot rfl rfl rfl rfl) rfl ?_
          refine T.leave (.dPure (i := 25) rfl (by kernel_rfl) (fun d _ _ _ _ h => by cases d <;> exact h)) (wantsNot rfl rfl rfl rfl) rfl ?_
          refine T.leave (.dPure (i := 26) rfl (by kernel_rfl) (fun d _ _ _ _ h => by cases d <;> exact h)) (wantsNot rfl rfl rfl rfl) rfl ?_
          refine T.leave (.dPure (i := 27) rfl (by kernel_rfl) (fun d _ _ _ _ h => by cases d <;> exact h)) (wantsNot rfl rfl rfl rfl) rfl ?_
          refine T.leave (.dPure (i := 28) rfl (by kernel_rfl) (fun d _ _ _ _ h => by cases d <;> exact h)) (wantsNot rfl rfl rfl rfl) rfl ?_
          refine T.leave (.dPure (i := 29) rfl (by kernel_rfl) (fun d _ _ _ _ h => by cases d <;> exact h)) (wantsNot rfl rfl rfl rfl) rfl ?_
          refine T.pickT (.dPure (i := 30) rfl (by kernel_rfl) (fun d _ _ _ _ h => by cases d <;> exact h)) rfl (wants1 rfl rfl rfl hb12) rfl rfl rfl rfl ?_
          refine T.pickT (.dPure (i := 31) rfl (by kernel_rfl) (fun d _ _ _ _ h => by cases d <;> exact h)) rfl (wants0 rfl) rfl rfl hb12 rfl ?_
          refine T.dDone (by kernel_rfl) ?_
          refine T.then_normal ?_
          exact T.le (EnvLe.cons rfl (EnvLe.cons rfl (EnvLe.cons rfl EnvLe.nil))) (T.pick [] 1 rfl rfl (Nat.le_add_left _ _) rfl (J1 true () hr))
        · replace hr := inv_negB hb14 hr
          refine T.move (.dPure (i := 12) rfl (by kernel_rfl) (fun d _ _ _ _ h => by cases d <;> exact h)) rfl (wants1 rfl rfl rfl hb14) rfl rfl ?_
          refine T.move (.dPure (i := 13) rfl (by kernel_rfl) (fun d _ _ _ _ h => by cases d <;> exact h)) rfl (wants1 rfl rfl rfl hb14) rfl rfl ?_
          refine T.bin (.dPure (i := 14) rfl (by kernel_rfl) (fun d _ _ _ _ h => by cases d <;> exact h)) rfl (wants1 rfl rfl rfl hb14) rfl rfl rfl rfl ?_
          refine T.pickF (.dPure (i := 15) rfl (by kernel_rfl) (fun d _ _ _ _ h => by cases d <;> exact h)) rfl (wants1 rfl rfl rfl hb12) rfl rfl hb14 rfl ?_
          refine T.move (.dPure (i := 16) rfl (by kernel_rfl) (fun d _ _ _ _ h => by cases d <;> exact h)) rfl (wants1 rfl rfl rfl hb12) rfl rfl ?_
          refine T.bool (b := (decide (r1.2.1 ≤ a1))) (fun hb15 => ?_) (fun hb15 => ?_)
          · replace hr := inv_posB hb15 hr
            refine T.leave (.dPure (i := 17) rfl (by kernel_rfl) (fun d _ _ _ _ h => by cases d <;> exact h)) (wantsNot rfl rfl rfl hb15) rfl ?_
            refine T.leave (.dPure (i := 18) rfl (by kernel_rfl) (fun d _ _ _ _ h => by cases d <;> exact h)) (wantsNot rfl rfl rfl hb15) rfl ?_
            refine T.pickT (.dPure (i := 19) rfl (by kernel_rfl) (fun d _ _ _ _ h => by cases d <;> exact h)) rfl (wants1 rfl rfl rfl hb12) rfl rfl hb15 rfl ?_
            refine T.move (.dPure (i := 20) rfl (by kernel_rfl) (fun d _ _ _ _ h => by cases d <;> exact h)) rfl (wants1 rfl rfl rfl hb12) rfl rfl ?_
            refine T.leave (.dPure (i := 21) rfl (by kernel_rfl) (fun d _ _ _ _ h => by cases d <;> exact h)) (wantsNot rfl rfl rfl rfl) rfl ?_
            refine T.leave (.dPure (i := 22) rfl (by kernel_rfl) (fun d _ _ _ _ h => by cases d <;> exact h)) (wantsNot rfl rfl rfl rfl) rfl ?_
            refine T.leave (.dPure (i := 23) rfl (by kernel_rfl) (fun d _ _ _ _ h => by cases d <;> exact h)) (wantsNot rfl rfl rfl rfl) rfl ?_
            refine T.leave (.dPure (i := 24) rfl (by kernel_rfl) (fun d _ _ _ _ h => by cases d <;> exact h)) (wantsNot rfl rfl rfl rfl) rfl ?_
            refine T.leave (.dPure (i := 25) rfl (by kernel_rfl) (fun d _ _ _ _ h => by cases d <;> exact h)) (wantsNot rfl rfl rfl rfl) rfl ?_
            refine T.leave (.dPure (i := 26) rfl (by kernel_rfl) (fun d _ _ _ _ h => by cases d <;> exact h)) (wantsNot rfl rfl rfl rfl) rfl ?_
            refine T.leave (.dPure (i := 27) rfl (by kernel_rfl) (fun d _ _ _ _ h => by cases d <;> exact h)) (wantsNot rfl rfl rfl rfl) rfl ?_
            refine T.leave (.dPure (i := 28) rfl (by kernel_rfl) (fun d _ _ _ _ h => by cases d <;> exact h)) (wantsNot rfl rfl rfl rfl) rfl ?_
            refine T.leave (.dPure (i := 29) rfl (by kernel_rfl) (fun d _ _ _ _ h => by cases d <;> exact h)) (wantsNot rfl rfl rfl rfl) rfl ?_
            refine T.pickT (.dPure (i := 30) rfl (by kernel_rfl) (fun d _ _ _ _ h => by cases d <;> exact h)) rfl (wants1 rfl rfl rfl hb12) rfl rfl rfl rfl ?_
            refine T.pickT (.dPure (i := 31) rfl (by kernel_rfl) (fun d _ _ _ _ h => by cases d <;> exact h)) rfl (wants0 rfl) rfl rfl hb12 rfl ?_
            refine T.dDone (by kernel_rfl) ?_
            refine T.then_normal ?_
            exact T.le (EnvLe.cons rfl (EnvLe.cons rfl (EnvLe.cons rfl EnvLe.nil))) (T.pick [] 1 rfl rfl (Nat.le_add_left _ _) rfl (J1 true () hr))
          · replace hr := inv_negB hb15 hr
            refine T.move (.dPure (i := 17) rfl (by kernel_rfl) (fun d _ _ _ _ h => by cases d <;> exact h)) rfl (wants1 rfl rfl rfl hb15) rfl rfl ?_
            refine T.bin (.dPure (i := 18) rfl (by kernel_rfl) (fun d _ _ _ _ h => by cases d <;> exact h)) rfl (wants1 rfl rfl rfl hb15) rfl rfl rfl rfl ?_
            refine T.pickF (.dPure (i := 19) rfl (by kernel_rfl) (fun d _ _ _ _ h => by cases d <;> exact h)) rfl (wants1 rfl rfl rfl hb12) rfl rfl hb15 rfl ?_
            refine T.move (.dPure (i := 20) rfl (by kernel_rfl) (fun d _ _ _ _ h => by cases d <;> exact h)) rfl (wants1 rfl rfl rfl hb12) rfl rfl ?_
            refine T.bool (b := (decide (r1.1 < 0))) (fun hb16 => ?_) (fun hb16 => ?_)
            · replace hr := inv_posB hb16 hr
              refine T.leave (.dPure (i := 21) rfl (by kernel_rfl) (fun d _ _ _ _ h => by cases d <;> exact h)) (wantsNot rfl rfl rfl hb16) rfl ?_
              refine T.leave (.dPure (i := 22) rfl (by kernel_rfl) (fun d _ _ _ _ h => by cases d <;> exact h)) (wantsNot rfl rfl rfl hb16) rfl ?_
              refine T.leave (.dPure (i := 23) rfl (by kernel_rfl) (fun d _ _ _ _ h => by cases d <;> exact h)) (wantsNot rfl rfl rfl hb16) rfl ?_
              refine T.leave (.dPure (i := 24) rfl (by kernel_rfl) (fun d _ _ _ _ h => by cases d <;> exact h)) (wantsNot rfl rfl rfl hb16) rfl ?_
              refine T.leave (.dPure (i := 25) rfl (by kernel_rfl) (fun d _ _ _ _ h => by cases d <;> exact h)) (wantsNot rfl rfl rfl hb16) rfl ?_
              refine T.leave (.dPure (i := 26) rfl (by kernel_rfl) (fun d _ _ _ _ h => by cases d <;> exact h)) (wantsNot rfl rfl rfl hb16) rfl ?_
              refine T.leave (.dPure (i := 27) rfl (by kernel_rfl) (fun d _ _ _ _ h => by cases d <;> exact h)) (wantsNot rfl rfl rfl hb16) rfl ?_
              refine T.leave (.dPure (i := 28) rfl (by kernel_rfl) (fun d _ _ _ _ h => by cases d <;> exact h)) (wantsNot rfl rfl rfl hb16) rfl ?_
              refine T.leave (.dPure (i := 29) rfl (by kernel_rfl) (fun d _ _ _ _ h => by cases d <;> exact h)) (wantsNot rfl rfl rfl hb16) rfl ?_
              refine T.pickT (.dPure (i := 30) rfl (by kernel_rfl) (fun d _ _ _ _ h => by cases d <;> exact h)) rfl (wants1 rfl rfl rfl hb12) rfl rfl hb16 rfl ?_
              refine T.pickT (.dPure (i := 31) rfl (by kernel_rfl) (fun d _ _ _ _ h => by cases d <;> exact h)) rfl (wants0 rfl) rfl rfl hb12 rfl ?_
              refine T.dDone (by kernel_rfl) ?_
              refine T.then_normal ?_
              exact T.le (EnvLe.cons rfl (EnvLe.cons rfl (EnvLe.cons rfl EnvLe.nil))) (T.pick [] 1 rfl rfl (Nat.le_add_left _ _) rfl (J1 true () hr))
            · replace hr := inv_negB hb16 hr
              refine T.move (.dPure (i := 21) rfl (by kernel_rfl) (fun d _ _ _ _ h => by cases d <;> exact h)) rfl (wants1 rfl rfl rfl hb16) rfl rfl ?_
              refine T.move (.dPure (i := 24) rfl (by kernel_rfl) (fun d _ _ _ _ h => by cases d <;> exact h)) rfl (wants1 rfl rfl rfl hb16) rfl rfl ?_
              refine T.move (.dPure (i := 25) rfl (by kernel_rfl) (fun d _ _ _ _ h => by cases d <;> exact h)) rfl (wants1 rfl rfl rfl hb16) rfl rfl ?_
              refine T.move (.dPure (i := 26) rfl (by kernel_rfl) (fun d _ _ _ _ h => by cases d <;> exact h)) rfl (wants1 rfl rfl rfl hb16) rfl rfl ?_
              obtain ⟨hc2, hr⟩ := inv_chk hr
              refine T.cut (.dPure (i := 27) rfl (by kernel_rfl) (fun d _ _ _ _ h => by cases d <;> exact h)) 0 rfl rfl rfl (wants1 rfl rfl rfl hb16) rfl rfl (.inr ⟨_, _, rfl, rfl⟩) (.inr ⟨_, _, rfl, rfl⟩) hc2.1 hc2.2.1 hc2.2.2 ?_
              refine T.keep (fun z1 hk3 => ?_)
              refine T.dAdd 32 (fun w => PH.le z1 (PH.of w)) (Kp.le 0 rfl) ?_
              refine T.valS 0 (i := 28) (str (subl l0 a1 r1.2.1)) rfl rfl (by kernel_rfl) (by kernel_rfl) (fun d _ _ _ _ h => by cases d <;> exact h) (wants1 rfl rfl rfl hb16) rfl (run_strRo (hk3 0 rfl).1 rfl rfl rfl) ?_
              obtain ⟨r5, hg5, hr⟩ := inv_bind hr
              refine T.dOnly (i := 22) (by kernel_rfl) ?_
              refine T.call (.dOne rfl (by kernel_rfl)) (wants1 rfl rfl rfl hb16) rfl (run_callF (vs := [_]) rfl Try.func13 rfl (by decide) rfl) (fun w hS => wire_Uint.c hS  hg5) (fun x7 => ?_)
              refine T.dNext (phi_cons (.inr (Kp.le 1 rfl)) phi_nil) ?_
              refine T.freeze 0 rfl rfl rfl ?_
              refine T.keep (fun z2 hk4 => ?_)
              refine T.dAdd 32 (fun w => PH.le z2 (PH.of w)) (Kp.le 0 rfl) ?_
              refine T.valS 0 (i := 23) (str r5) rfl rfl (by kernel_rfl) (by kernel_rfl) (fun d _ _ _ _ h => by cases d <;> exact h) (wants1 rfl rfl rfl hb16) rfl (run_strRo (hk4 0 rfl).1 rfl rfl rfl) ?_
              refine T.strNe (.dPure (i := 29) rfl (by kernel_rfl) (fun d _ _ _ _ h => by cases d <;> exact h)) rfl (wants1 rfl rfl rfl hb16) rfl (l := r5) (l' := (subl l0 a1 r1.2.1)) rfl rfl ?_
              refine T.pickF (.dPure (i := 30) rfl (by kernel_rfl) (fun d _ _ _ _ h => by cases d <;> exact h)) rfl (wants1 rfl rfl rfl hb12) rfl rfl hb16 rfl ?_
              refine T.pickT (.dPure (i := 31) rfl (by kernel_rfl) (fun d _ _ _ _ h => by cases d <;> exact h)) rfl (wants0 rfl) rfl rfl hb12 rfl ?_
              refine T.dDone (by kernel_rfl) ?_
              refine T.then_normal ?_
              exact T.le (EnvLe.cons rfl (EnvLe.cons rfl (EnvLe.cons rfl EnvLe.nil))) (T.pick [] 5 rfl rfl (Nat.le_add_left _ _) rfl (J1 (!(decide (r5 = (subl l0 a1 r1.2.1)))) () hr))
    · replace hr := inv_negB hb12 hr
      refine T.leave (.dPure (i := 3) rfl (by kernel_rfl) (fun d _ _ _ _ h => by cases d <;> exact h)) (wantsNot rfl rfl rfl hb12) rfl ?_
      refine T.leave (.dPure (i := 4) rfl (by kernel_rfl) (fun d _ _ _ _ h => by cases d <;> exact h)) (wantsNot rfl rfl rfl hb12) rfl ?_
      refine T.leave (.dPure (i := 5) rfl (by kernel_rfl) (fun d _ _ _ _ h => by cases d <;> exact h)) (wantsNot rfl rfl rfl hb12) rfl ?_
      refine T.leave (.dPure (i := 6) rfl (by kernel_rfl) (fun d _ _ _ _ h => by cases d <;> exact h)) (wantsUndef rfl rfl rfl) rfl ?_
      refine T.leave (.dPure (i := 7) rfl (by kernel_rfl) (fun d _ _ _ _ h => by cases d <;> exact h)) (wantsUndef rfl rfl rfl) rfl ?_
      refine T.leave (.dPure (i := 8) rfl (by kernel_rfl) (fun d _ _ _ _ h => by cases d <;> exact h)) (wantsUndef rfl rfl rfl) rfl ?_
      refine T.leave (.dPure (i := 9) rfl (by kernel_rfl) (fun d _ _ _ _ h => by cases d <;> exact h)) (wantsUndef rfl rfl rfl) rfl ?_
      refine T.leave (.dPure (i := 10) rfl (by kernel_rfl) (fun d _ _ _ _ h => by cases d <;> exact h)) (wantsNot rfl rfl rfl hb12) rfl ?_
      refine T.leave (.dPure (i := 11) rfl (by kernel_rfl) (fun d _ _ _ _ h => by cases d <;> exact h)) (wantsNot rfl rfl rfl hb12) rfl ?_
      refine T.leave (.dPure (i := 12) rfl (by kernel_rfl) (fun d _ _ _ _ h => by cases d <;> exact h)) (wantsUndef rfl rfl rfl) rfl ?_
      refine T.leave (.dPure (i := 13) rfl (by kernel_rfl) (fun d _ _ _ _ h => by cases d <;> exact h)) (wantsUndef rfl rfl rfl) rfl ?_
      refine T.leave (.dPure (i := 14) rfl (by kernel_rfl) (fun d _ _ _ _ h => by cases d <;> exact h)) (wantsUndef rfl rfl rfl) rfl ?_
      refine T.leave (.dPure (i := 15) rfl (by kernel_rfl) (fun d _ _ _ _ h => by cases d <;> exact h)) (wantsNot rfl rfl rfl hb12) rfl ?_
      refine T.leave (.dPure (i := 16) rfl (by kernel_rfl) (fun d _ _ _ _ h => by cases d <;> exact h)) (wantsNot rfl rfl rfl hb12) rfl ?_
      refine T.leave (.dPure (i := 17) rfl (by kernel_rfl) (fun d _ _ _ _ h => by cases d <;> exact h)) (wantsUndef rfl rfl rfl) rfl ?_
      refine T.leave (.dPure (i := 18) rfl (by kernel_rfl) (fun d _ _ _ _ h => by cases d <;> exact h)) (wantsUndef rfl rfl rfl) rfl ?_
      refine T.leave (.dPure (i := 19) rfl (by kernel_rfl) (fun d _ _ _ _ h => by cases d <;> exact h)) (wantsNot rfl rfl rfl hb12) rfl ?_
      refine T.leave (.dPure (i := 20) rfl (by kernel_rfl) (fun d _ _ _ _ h => by cases d <;> exact h)) (wantsNot rfl rfl rfl hb12) rfl ?_
      refine T.leave (.dPure (i := 21) rfl (by kernel_rfl) (fun d _ _ _ _ h => by cases d <;> exact h)) (wantsUndef rfl rfl rfl) rfl ?_
      refine T.leave (.dPure (i := 22) rfl (by kernel_rfl) (fun d _ _ _ _ h => by cases d <;> exact h)) (wantsUndef rfl rfl rfl) rfl ?_
      refine T.leave (.dPure (i := 23) rfl (by kernel_rfl) (fun d _ _ _ _ h => by cases d <;> exact h)) (wantsUndef rfl rfl rfl) rfl ?_
      refine T.leave (.dPure (i := 24) rfl (by kernel_rfl) (fun d _ _ _ _ h => by cases d <;> exact h)) (wantsUndef rfl rfl rfl) rfl ?_
      refine T.leave (.dPure (i := 25) rfl (by kernel_rfl) (fun d _ _ _ _ h => by cases d <;> exact h)) (wantsUndef rfl rfl rfl) rfl ?_
      refine T.leave (.dPure (i := 26) rfl (by kernel_rfl) (fun d _ _ _ _ h => by cases d <;> exact h)) (wantsUndef rfl rfl rfl) rfl ?_
      refine T.leave (.dPure (i := 27) rfl (by kernel_rfl) (fun d _ _ _ _ h => by cases d <;> exact h)) (wantsUndef rfl rfl rfl) rfl ?_
      refine T.leave (.dPure (i := 28) rfl (by kernel_rfl) (fun d _ _ _ _ h => by cases d <;> exact h)) (wantsUndef rfl rfl rfl) rfl ?_
      refine T.leave (.dPure (i := 29) rfl (by kernel_rfl) (fun d _ _ _ _ h => by cases d <;> exact h)) (wantsUndef rfl rfl rfl) rfl ?_
      refine T.leave (.dPure (i := 30) rfl (by kernel_rfl) (fun d _ _ _ _ h => by cases d <;> exact h)) (wantsNot rfl rfl rfl hb12) rfl ?_
      refine T.pickF (.dPure (i := 31) rfl (by kernel_rfl) (fun d _ _ _ _ h => by cases d <;> exact h)) rfl (wants0 rfl) rfl rfl hb12 rfl ?_
      refine T.dDone (by kernel_rfl) ?_
      refine T.then_normal ?_
      exact T.le (EnvLe.cons rfl (EnvLe.cons rfl (EnvLe.cons rfl EnvLe.nil))) (T.pick [] 1 rfl rfl (Nat.le_add_left _ _) rfl (J1 false () hr))

noncomputable def law1_WireBack.impl (a0 : Int) (l1 : List UInt8) (l2 : List UInt8) (l3 : List UInt8) : Option Bool :=
  chk (((([] : List UInt8)).length + l2.length) * 1 ≤ 140737488355328) ((wire_Uint.impl (bitsOf .and .i64 a0 9223372036854775807)).bind fun r1 => chk (((((([] : List UInt8)) ++ l2)).length + r1.length) * 1 ≤ 140737488355328) ((wire_Bytes.impl l1).bind fun r2 => chk (((((((([] : List UInt8)) ++ l2)) ++ r1)).length + r2.length) * 1 ≤ 140737488355328) (chk (((((((((([] : List UInt8)) ++ l2)) ++ r1)) ++ r2)).length + l3.length) * 1 ≤ 140737488355328) ((wire_ReadUint.impl (((((((((([] : List UInt8)) ++ l2)) ++ r1)) ++ r2)) ++ l3)) ((l2.length : Int))).bind fun r3 => (wire_ReadBytes.impl (((((((((([] : List UInt8)) ++ l2)) ++ r1)) ++ r2)) ++ l3)) (((((((([] : List UInt8)) ++ l2)) ++ r1)).length : Int)) ((l1.length : Int))).bind fun r4 => (wire_ReadBytes.impl (((((((((([] : List UInt8)) ++ l2)) ++ r1)) ++ r2)) ++ l3)) (((((((([] : List UInt8)) ++ l2)) ++ r1)).length : Int)) (IntKind.i64.wrap (((l1.length : Int)) - 1))).bind fun r5 => (law1_told.impl ).bind fun r6 => (if r6 = true then (if ((decide (r3.1 = (bitsOf .and .i64 a0 9223372036854775807)))) = true then (if ((decide (r3.2.1 = (((((((([] : List UInt8)) ++ l2)) ++ r1)).length : Int))))) = true then (if ((decide (r3.2.2 = 0))) = true then (if ((decide (r4.1 = l1))) = true then (if ((decide (r4.2.1 = (((((((((([] : List UInt8)) ++ l2)) ++ r1)) ++ r2)).length : Int))))) = true then (if ((decide (r4.2.2 = 0))) = true then (if ((decide (r5.2.2 = 3))) = true then some true else (if ((decide ((((l1.length : Int))) = 0))) = true then some (decide (r5.2.2 = 1)) else some false)) else some false) else some false) else some false) else some false) else some false) else some false) else some false)))))
set_option maxRecDepth 100000 in
set_option maxHeartbeats 1000000 in
theorem law1_WireBack.c {B : World} {hs : List MP} {w : World} {a0 : Int} {i1 c1 : Nat} {A1 : Option Addr} {l1 : List UInt8} {i2 c2 : Nat} {A2 : Option Addr} {l2 : List UInt8} {i3 c3 : Nat} {A3 : Option Addr} {l3 : List UInt8} (hS : St B (hs) w) (h1 : (hs)[i1]? = some (Ro E8 A1 c1 l1)) (h2 : (hs)[i2]? = some (Ro E8 A2 c2 l2)) (h3 : (hs)[i3]? = some (Ro E8 A3 c3 l3)) {r : Bool} (hr : law1_WireBack.impl a0 l1 l2 l3 = some r) :
    Calls Try.prog 6 #[.int .i64 a0, .slice A1 l1.length c1, .slice A2 l2.length c2, .slice A3 l3.length c3] w fun e w' => ∃ x : Unit, e = .returned (.bool r) ∧ St B (hs) w' := by
  unfold law1_WireBack.impl at hr
  refine calls_T Try.func6 rfl rfl rfl hS ?_
  refine T.front i1 h1 ?_
  refine T.front (i2 + 1) h2 ?_
  refine T.front (i3 + 2) h3 ?_
  refine T.seq ?_
  refine T.region ?_
  refine T.assign .list rfl (wants0 rfl) rfl rfl ?_
  refine T.nil ?_
  refine T.then_normal ?_
  refine T.seq ?_
  refine T.region ?_
  refine T.move .list rfl (wants0 rfl) rfl rfl ?_
  refine T.bin .list rfl (wants0 rfl) rfl rfl rfl rfl ?_
  refine T.assign .list rfl (wants0 rfl) rfl rfl ?_
  refine T.nil ?_
  refine T.then_normal ?_
  refine T.seq ?_
  refine T.region ?_
  refine T.assign .list rfl (wants0 rfl) rfl rfl ?_
  refine T.nil ?_
  refine T.then_normal ?_
  refine T.seq ?_
  refine T.region ?_
  refine T.move .list rfl (wants0 rfl) rfl rfl ?_
  refine T.move .list rfl (wants0 rfl) rfl rfl ?_
  refine T.nilBf E8 5 ?_
  obtain ⟨hc1, hr⟩ := inv_chk hr
  refine T.appRo .list 0 2 rfl rfl rfl rfl rfl (wants0 rfl) rfl rfl rfl rfl rfl rfl hc1 (fun _ _ => rfl) (fun A5 c5 => ?_)
  refine T.assign .list rfl (wants0 rfl) rfl rfl ?_
  refine T.nil ?_
  refine T.then_normal ?_
  refine T.seq ?_
  refine T.region ?_
  refine T.move .list rfl (wants0 rfl) rfl rfl ?_
  refine T.move .list rfl (wants0 rfl) rfl rfl ?_
  obtain ⟨r1, hg1, hr⟩ := inv_bind hr
  refine T.call .list (wants0 rfl) rfl (run_callF (vs := [_]) rfl Try.func13 rfl (by decide) rfl) (fun w hS => wire_Uint.c hS  hg1) (fun x1 => ?_)
  obtain ⟨hc2, hr⟩ := inv_chk hr
  refine T.appBf .list 1 0 rfl rfl rfl rfl rfl (wants0 rfl) rfl rfl rfl rfl rfl rfl hc2 (fun _ _ => rfl) (fun A6 c6 => ?_)
  refine T.assign .list rfl (wants0 rfl) rfl rfl ?_
  refine T.nil ?_
  refine T.then_normal ?_
  refine T.seq ?_
  refine T.region ?_
  refine T.move .list rfl (wants0 rfl) rfl rfl ?_
  refine T.lenSlice .list rfl (wants0 rfl) rfl rfl ?_
  refine T.assign .list rfl (wants0 rfl) rfl rfl ?_
  refine T.nil ?_
  refine T.then_normal ?_
  refine T.seq ?_
  refine T.region ?_
  refine T.move .list rfl (wants0 rfl) rfl rfl ?_
  refine T.move .list rfl (wants0 rfl) rfl rfl ?_
  obtain ⟨r2, hg2, hr⟩ := inv_bind hr
  refine T.call .list (wants0 rfl) rfl (run_callF (vs := [_]) rfl Try.func14 rfl (by decide) rfl) (fun w hS => wire_Bytes.c hS (i0 := 4) rfl hg2) (fun x2 => ?_)
  obtain ⟨hc3, hr⟩ := inv_chk hr
  refine T.appBf .list 2 0 rfl rfl rfl rfl rfl (wants0 rfl) rfl rfl rfl rfl rfl rfl hc3 (fun _ _ => rfl) (fun A7 c7 => ?_)
  refine T.assign .list rfl (wants0 rfl) rfl rfl ?_
  refine T.nil ?_
  refine T.then_normal ?_
  refine T.seq ?_
  refine T.region ?_
  refine T.move .list rfl (wants0 rfl) rfl rfl ?_
  refine T.lenSlice .list rfl (wants0 rfl) rfl rfl ?_
  refine T.assign .list rfl (wants0 rfl) rfl rfl ?_
  refine T.nil ?_
  refine T.then_normal ?_
  refine T.seq ?_
  refine T.region ?_
  refine T.move .list rfl (wants0 rfl) rfl rfl ?_
  refine T.move .list rfl (wants0 rfl) rfl rfl ?_
  obtain ⟨hc4, hr⟩ := inv_chk hr
  refine T.appRo .list 2 3 rfl rfl rfl rfl rfl (wants0 rfl) rfl rfl rfl rfl rfl rfl hc4 (fun _ _ => rfl) (fun A8 c8 => ?_)
  refine T.assign .list rfl (wants0 rfl) rfl rfl ?_
  refine T.nil ?_
  refine T.then_normal ?_
  refine T.seq ?_
  refine T.region ?_
  refine T.move .list rfl (wants0 rfl) rfl rfl ?_
  refine T.move .list rfl (wants0 rfl) rfl rfl ?_
  refine T.lenSlice .list rfl (wants0 rfl) rfl rfl ?_
  refine T.freeze 2 rfl rfl rfl ?_
  obtain ⟨r3, hg3, hr⟩ := inv_bind hr
  refine T.call .list (wants0 rfl) rfl (run_callF (vs := [_, _]) rfl Try.func12 rfl (by decide) rfl) (fun w hS => wire_ReadUint.c hS (i0 := 2) rfl hg3) (fun x3 => ?_)
  refine T.move .list rfl (wants0 rfl) rfl rfl ?_
  refine T.extract .list rfl (wants0 rfl) rfl rfl rfl ?_
  refine T.extract .list rfl (wants0 rfl) rfl rfl rfl ?_
  refine T.extract .list rfl (wants0 rfl) rfl rfl rfl ?_
  refine T.assign .list rfl (wants0 rfl) rfl rfl ?_
  refine T.assign .list rfl (wants0 rfl) rfl rfl ?_
  refine T.assign .list rfl (wants0 rfl) rfl rfl ?_
  refine T.nil ?_
  refine T.then_normal ?_
  refine T.seq ?_
  refine T.region ?_
  refine T.move .list rfl (wants0 rfl) rfl rfl ?_
  refine T.move .list rfl (wants0 rfl) rfl rfl ?_
  refine T.move .list rfl (wants0 rfl) rfl rfl ?_
  refine T.lenSlice .list rfl (wants0 rfl) rfl rfl ?_
  obtain ⟨r4, hg4, hr⟩ := inv_bind hr
  refine T.call .list (wants0 rfl) rfl (run_callF (vs := [_, _, _]) rfl Try.func15 rfl (by decide) rfl) (fun w hS => wire_ReadBytes.c hS (i0 := 2) rfl hg4) (fun x4 => ?_)
  refine T.move .list rfl (wants0 rfl) rfl rfl ?_
  refine T.extract .list rfl (wants0 rfl) rfl rfl rfl ?_
  refine T.extract .list rfl (wants0 rfl) rfl rfl rfl ?_
  refine T.extract .list rfl (wants0 rfl) rfl rfl rfl ?_
  refine T.assign .list rfl (wants0 rfl) rfl rfl ?_
  refine T.assign .list rfl (wants0 rfl) rfl rfl ?_
  refine T.assign .list rfl (wants0 rfl) rfl rfl ?_
  refine T.nil ?_
  refine T.then_normal ?_
  refine T.seq ?_
  refine T.region ?_
  refine T.move .list rfl (wants0 rfl) rfl rfl ?_
  refine T.move .list rfl (wants0 rfl) rfl rfl ?_
  refine T.move .list rfl (wants0 rfl) rfl rfl ?_
  refine T.lenSlice .list rfl (wants0 rfl) rfl rfl ?_
  refine T.bin .list rfl (wants0 rfl) rfl rfl rfl rfl ?_
  obtain ⟨r5, hg5, hr⟩ := inv_bind hr
  refine T.call .list (wants0 rfl) rfl (run_callF (vs := [_, _, _]) rfl Try.func15 rfl (by decide) rfl) (fun w hS => wire_ReadBytes.c hS (i0 := 3) rfl hg5) (fun x5 => ?_)
  refine T.move .list rfl (wants0 rfl) rfl rfl ?_
  refine T.extract .list rfl (wants0 rfl) rfl rfl rfl ?_
  refine T.extract .list rfl (wants0 rfl) rfl rfl rfl ?_
  refine T.extract .list rfl (wants0 rfl) rfl rfl rfl ?_
  refine T.assign .list rfl (wants0 rfl) rfl rfl ?_
  refine T.assign .list rfl (wants0 rfl) rfl rfl ?_
  refine T.assign .list rfl (wants0 rfl) rfl rfl ?_
  refine T.nil ?_
  refine T.then_normal ?_
  refine T.seq ?_
  refine T.region ?_
  obtain ⟨r6, hg6, hr⟩ := inv_bind hr
  refine T.call .list (wants0 rfl) rfl (run_callF (vs := []) rfl Try.func9 rfl (by decide) rfl) (fun w hS => law1_told.c hS  hg6) (fun x6 => ?_)
  refine T.move .list rfl (wants0 rfl) rfl rfl ?_
  refine T.bool (b := r6) (fun hb1 => ?_) (fun hb1 => ?_)
  · replace hr := inv_posB hb1 hr
    refine T.move .list rfl (wants1 rfl rfl rfl hb1) rfl rfl ?_
    refine T.move .list rfl (wants1 rfl rfl rfl hb1) rfl rfl ?_
    refine T.bin .list rfl (wants1 rfl rfl rfl hb1) rfl rfl rfl rfl ?_
    refine T.pickT .list rfl (wants0 rfl) rfl rfl hb1 rfl ?_
    refine T.move .list rfl (wants0 rfl) rfl rfl ?_
    refine T.bool (b := (decide (r3.1 = (bitsOf .and .i64 a0 9223372036854775807)))) (fun hb2 => ?_) (fun hb2 => ?_)
    · replace hr := inv_posB hb2 hr
      refine T.move .list rfl (wants1 rfl rfl rfl hb2) rfl rfl ?_
      refine T.move .list rfl (wants1 rfl rfl rfl hb2) rfl rfl ?_
      refine T.bin .list rfl (wants1 rfl rfl rfl hb2) rfl rfl rfl rfl ?_
      refine T.pickT .list rfl (wants0 rfl) rfl rfl hb2 rfl ?_
      refine T.move .list rfl (wants0 rfl) rfl rfl ?_
      refine T.bool (b := (decide (r3.2.1 = (((((((([] : List UInt8)) ++ l2)) ++ r1)).length : Int))))) (fun hb3 => ?_) (fun hb3 => ?_)
      · replace hr := inv_posB hb3 hr
        refine T.move .list rfl (wants1 rfl rfl rfl hb3) rfl rfl ?_
        refine T.bin .list rfl (wants1 rfl rfl rfl hb3) rfl rfl rfl rfl ?_
        refine T.pickT .list rfl (wants0 rfl) rfl rfl hb3 rfl ?_
        refine T.move .list rfl (wants0 rfl) rfl rfl ?_
        refine T.bool (b := (decide (r3.2.2 = 0))) (fun hb4 => ?_) (fun hb4 => ?_)
        · replace hr := inv_posB hb4 hr
          refine T.move .list rfl (wants1 rfl rfl rfl hb4) rfl rfl ?_
          refine T.strBf .list 1 rfl rfl (wants1 rfl rfl rfl hb4) rfl rfl rfl ?_
          refine T.move .list rfl (wants1 rfl rfl rfl hb4) rfl rfl ?_
          refine T.strRo .list 7 rfl rfl (wants1 rfl rfl rfl hb4) rfl rfl rfl ?_
          refine T.strEq .list rfl (wants1 rfl rfl rfl hb4) rfl (l := r4.1) (l' := l1) rfl rfl ?_
          refine T.pickT .list rfl (wants0 rfl) rfl rfl hb4 rfl ?_
          refine T.move .list rfl (wants0 rfl) rfl rfl ?_
          refine T.bool (b := (decide (r4.1 = l1))) (fun hb5 => ?_) (fun hb5 => ?_)
          · replace hr := inv_posB hb5 hr
            refine T.move .list rfl (wants1 rfl rfl rfl hb5) rfl rfl ?_
            refine T.move .list rfl (wants1 rfl rfl rfl hb5) rfl rfl ?_
            refine T.bin .list rfl (wants1 rfl rfl rfl hb5) rfl rfl rfl rfl ?_
            refine T.pickT .list rfl (wants0 rfl) rfl rfl hb5 rfl ?_
            refine T.move .list rfl (wants0 rfl) rfl rfl ?_
            refine T.bool (b := (decide (r4.2.1 = (((((((((([] : List UInt8)) ++ l2)) ++ r1)) ++ r2)).length : Int))))) (fun hb6 => ?_) (fun hb6 => ?_)
            · replace hr := inv_posB hb6 hr
              refine T.move .list rfl (wants1 rfl rfl rfl hb6) rfl rfl ?_
              refine T.bin .list rfl (wants1 rfl rfl rfl hb6) rfl rfl rfl rfl ?_
              refine T.pickT .list rfl (wants0 rfl) rfl rfl hb6 rfl ?_
              refine T.move .list rfl (wants0 rfl) rfl rfl ?_
              refine T.bool (b := (decide (r4.2.2 = 0))) (fun hb7 => ?_) (fun hb7 => ?_)
              · replace hr := inv_posB hb7 hr
                refine T.move .list rfl (wants1 rfl rfl rfl hb7) rfl rfl ?_
                refine T.bin .list rfl (wants1 rfl rfl rfl hb7) rfl rfl rfl rfl ?_
                refine T.move .list rfl (wants1 rfl rfl rfl hb7) rfl rfl ?_
                refine T.bool (b := (decide (r5.2.2 = 3))) (fun hb8 => ?_) (fun hb8 => ?_)
                · replace hr := inv_posB hb8 hr
                  refine T.leave .list (wantsNot rfl rfl rfl hb8) rfl ?_
                  refine T.leave .list (wantsNot rfl rfl rfl hb8) rfl ?_
                  refine T.leave .list (wantsNot rfl rfl rfl hb8) rfl ?_
                  refine T.leave .list (wantsNot rfl rfl rfl hb8) rfl ?_
                  refine T.leave .list (wantsUndef rfl rfl rfl) rfl ?_
                  refine T.leave .list (wantsUndef rfl rfl rfl) rfl ?_
                  refine T.leave .list (wantsNot rfl rfl rfl hb8) rfl ?_
                  refine T.pickT .list rfl (wants1 rfl rfl rfl hb7) rfl rfl hb8 rfl ?_
                  refine T.pickT .list rfl (wants0 rfl) rfl rfl hb7 rfl ?_
                  refine T.assign .list rfl (wants0 rfl) rfl rfl ?_
                  refine T.nil ?_
                  refine T.then_normal ?_
                  refine T.ret ?_
                  obtain rfl := inv_some hr
                  refine T.pick [] 8 rfl rfl (Nat.le_add_left _ _) rfl ?_
                  refine T.ret1 rfl rfl (fun w hS => ⟨(), rfl, hS⟩)
                · replace hr := inv_negB hb8 hr
                  refine T.move .list rfl (wants1 rfl rfl rfl hb8) rfl rfl ?_
                  refine T.lenSlice .list rfl (wants1 rfl rfl rfl hb8) rfl rfl ?_
                  refine T.bin .list rfl (wants1 rfl rfl rfl hb8) rfl rfl rfl rfl ?_
                  refine T.move .list rfl (wants1 rfl rfl rfl hb8) rfl rfl ?_
                  refine T.bool (b := (decide ((((l1.length : Int))) = 0))) (fun hb9 => ?_) (fun hb9 => ?_)
                  · replace hr := inv_posB hb9 hr
                    refine T.move .list rfl (wants1 rfl rfl rfl hb9) rfl rfl ?_
                    refine T.bin .list rfl (wants1 rfl rfl rfl hb9) rfl rfl rfl rfl ?_
                    refine T.pickT .list rfl (wants1 rfl rfl rfl hb8) rfl rfl hb9 rfl ?_
                    refine T.pickF .list rfl (wants1 rfl rfl rfl hb7) rfl rfl hb8 rfl ?_
                    refine T.pickT .list rfl (wants0 rfl) rfl rfl hb7 rfl ?_
                    refine T.assign .list rfl (wants0 rfl) rfl rfl ?_
                    refine T.nil ?_
                    refine T.then_normal ?_
                    refine T.ret ?_
                    obtain rfl := inv_some hr
                    refine T.pick [] 8 rfl rfl (Nat.le_add_left _ _) rfl ?_
                    refine T.ret1 rfl rfl (fun w hS => ⟨(), rfl, hS⟩)
                  · replace hr := inv_negB hb9 hr
                    refine T.leave .list (wantsNot rfl rfl rfl hb9) rfl ?_
                    refine T.leave .list (wantsNot rfl rfl rfl hb9) rfl ?_
                    refine T.pickF .list rfl (wants1 rfl rfl rfl hb8) rfl rfl hb9 rfl ?_
                    refine T.pickF .list rfl (wants1 rfl rfl rfl hb7) rfl rfl hb8 rfl ?_
                    refine T.pickT .list rfl (wants0 rfl) rfl rfl hb7 rfl ?_
                    refine T.assign .list rfl (wants0 rfl) rfl rfl ?_
                    refine T.nil ?_
                    refine T.then_normal ?_
                    refine T.ret ?_
                    obtain rfl := inv_some hr
                    refine T.pick [] 8 rfl rfl (Nat.le_add_left _ _) rfl ?_
                    refine T.ret1 rfl rfl (fun w hS => ⟨(), rfl, hS⟩)
              · replace hr := inv_negB hb7 hr
                refine T.leave .list (wantsNot rfl rfl rfl hb7) rfl ?_
                refine T.leave .list (wantsNot rfl rfl rfl hb7) rfl ?_
                refine T.leave .list (wantsNot rfl rfl rfl hb7) rfl ?_
                refine T.leave .list (wantsUndef rfl rfl rfl) rfl ?_
                refine T.leave .list (wantsUndef rfl rfl rfl) rfl ?_
                refine T.leave .list (wantsUndef rfl rfl rfl) rfl ?_
                refine T.leave .list (wantsUndef rfl rfl rfl) rfl ?_
                refine T.leave .list (wantsUndef rfl rfl rfl) rfl ?_
                refine T.leave .list (wantsUndef rfl rfl rfl) rfl ?_
                refine T.leave .list (wantsUndef rfl rfl rfl) rfl ?_
                refine T.leave .list (wantsNot rfl rfl rfl hb7) rfl ?_
                refine T.pickF .list rfl (wants0 rfl) rfl rfl hb7 rfl ?_
                refine T.assign .list rfl (wants0 rfl) rfl rfl ?_
                refine T.nil ?_
                refine T.then_normal ?_
                refine T.ret ?_
                obtain rfl := inv_some hr
                refine T.pick [] 8 rfl rfl (Nat.le_add_left _ _) rfl ?_
                refine T.ret1 rfl rfl (fun w hS => ⟨(), rfl, hS⟩)
            · replace hr := inv_negB hb6 hr
              refine T.leave .list (wantsNot rfl rfl rfl hb6) rfl ?_
              refine T.leave .list (wantsNot rfl rfl rfl hb6) rfl ?_
              refine T.pickF .list rfl (wants0 rfl) rfl rfl hb6 rfl ?_
              refine T.move .list rfl (wants0 rfl) rfl rfl ?_
              refine T.leave .list (wantsNot rfl rfl rfl rfl) rfl ?_
              refine T.leave .list (wantsNot rfl rfl rfl rfl) rfl ?_
              refine T.leave .list (wantsNot rfl rfl rfl rfl) rfl ?_
              refine T.leave .list (wantsUndef rfl rfl rfl) rfl ?_
              refine T.leave .list (wantsUndef rfl rfl rfl) rfl ?_
              refine T.leave .list (wantsUndef rfl rfl rfl) rfl ?_
              refine T.leave .list (wantsUndef rfl rfl rfl) rfl ?_
              refine T.leave .list (wantsUndef rfl rfl rfl) rfl ?_
              refine T.leave .list (wantsUndef rfl rfl rfl) rfl ?_
              refine T.leave .list (wantsUndef rfl rfl rfl) rfl ?_
              refine T.leave .list (wantsNot rfl rfl rfl rfl) rfl ?_
              refine T.pickF .list rfl (wants0 rfl) rfl rfl rfl rfl ?_
              refine T.assign .list rfl (wants0 rfl) rfl rfl ?_
              refine T.nil ?_
              refine T.then_normal ?_
              refine T.ret ?_
              obtain rfl := inv_some hr
              refine T.pick [] 8 rfl rfl (Nat.le_add_left _ _) rfl ?_
              refine T.ret1 rfl rfl (fun w hS => ⟨(), rfl, hS⟩)
          · replace hr := inv_negB hb5 hr
            refine T.leave .list (wantsNot rfl rfl rfl hb5) rfl ?_
            refine T.leave .list (wantsNot rfl rfl rfl hb5) rfl ?_
            refine T.leave .list (wantsNot rfl rfl rfl hb5) rfl ?_
            refine T.pickF .list rfl (wants0 rfl) rfl rfl hb5 rfl ?_
            refine T.move .list rfl (wants0 rfl) rfl rfl ?_
            refine T.leave .list (wantsNot rfl rfl rfl rfl) rfl ?_
            refine T.leave .list (wantsNot rfl rfl rfl rfl) rfl ?_
            refine T.pickF .list rfl (wants0 rfl) rfl rfl rfl rfl ?_
            refine T.move .list rfl (wants0 rfl) rfl rfl ?_
            refine T.leave .list (wantsNot rfl rfl rfl rfl) rfl ?_
            refine T.leave .list (wantsNot rfl rfl rfl rfl) rfl ?_
            refine T.leave .list (wantsNot rfl rfl rfl rfl) rfl ?_
            refine T.leave .list (wantsUndef rfl rfl rfl) rfl ?_
            refine T.leave .list (wantsUndef rfl rfl rfl) rfl ?_
            refine T.leave .list (wantsUndef rfl rfl rfl) rfl ?_
            refine T.leave .list (wantsUndef rfl rfl rfl) rfl ?_
            refine T.leave .list (wantsUndef rfl rfl rfl) rfl ?_
            refine T.leave .list (wantsUndef rfl rfl rfl) rfl ?_
            refine T.leave .list (wantsUndef rfl rfl rfl) rfl ?_
            refine T.leave .list (wantsNot rfl rfl rfl rfl) rfl ?_
            refine T.pickF .list rfl (wants0 rfl) rfl rfl rfl rfl ?_
            refine T.assign .list rfl (wants0 rfl) rfl rfl ?_
            refine T.nil ?_
            refine T.then_normal ?_
            refine T.ret ?_
            obtain rfl := inv_some hr
            refine T.pick [] 8 rfl rfl (Nat.le_add_left _ _) rfl ?_
            refine T.ret1 rfl rfl (fun w hS => ⟨(), rfl, hS⟩)
        · replace hr := inv_negB hb4 hr
          refine T.leave .list (wantsNot rfl rfl rfl hb4) rfl ?_
          refine T.leave .list (wantsNot rfl rfl rfl hb4) rfl ?_
          refine T.leave .list (wantsNot rfl rfl rfl hb4) rfl ?_
          refine T.leave .list (wantsNot rfl rfl rfl hb4) rfl ?_
          refine T.leave .list (wantsNot rfl rfl rfl hb4) rfl ?_
          refine T.pickF .list rfl (wants0 rfl) rfl rfl hb4 rfl ?_
          refine T.move .list rfl (wants0 rfl) rfl rfl ?_
          refine T.leave .list (wantsNot rfl rfl rfl rfl) rfl ?_
          refine T.leave .list (wantsNot rfl rfl rfl rfl) rfl ?_
          refine T.leave .list (wantsNot rfl rfl rfl rfl) rfl ?_
          refine T.pickF .list rfl (wants0 rfl) rfl rfl rfl rfl ?_
          refine T.move .list rfl (wants0 rfl) rfl rfl ?_
          refine T.leave .list (wantsNot rfl rfl rfl rfl) rfl ?_
          refine T.leave .list (wantsNot rfl rfl rfl rfl) rfl ?_
          refine T.pickF .list rfl (wants0 rfl) rfl rfl rfl rfl ?_
          refine T.move .list rfl (wants0 rfl) rfl rfl ?_
          refine T.leave .list (wantsNot rfl rfl rfl rfl) rfl ?_
          refine T.leave .list (wantsNot rfl rfl rfl rfl) rfl ?_
          refine T.leave .list (wantsNot rfl rfl rfl rfl) rfl ?_
          refine T.leave .list (wantsUndef rfl rfl rfl) rfl ?_
          refine T.leave .list (wantsUndef rfl rfl rfl) rfl ?_
          refine T.leave .list (wantsUndef rfl rfl rfl) rfl ?_
          refine T.leave .list (wantsUndef rfl rfl rfl) rfl ?_
          refine T.leave .list (wantsUndef rfl rfl rfl) rfl ?_
          refine T.leave .list (wantsUndef rfl rfl rfl) rfl ?_
          refine T.leave .list (wantsUndef rfl rfl rfl) rfl ?_
          refine T.leave .list (wantsNot rfl rfl rfl rfl) rfl ?_
          refine T.pickF .list rfl (wants0 rfl) rfl rfl rfl rfl ?_
          refine T.assign .list rfl (wants0 rfl) rfl rfl ?_
          refine T.nil ?_
          refine T.then_normal ?_
          refine T.ret ?_
          obtain rfl := inv_some hr
          refine T.pick [] 8 rfl rfl (Nat.le_add_left _ _) rfl ?_
          refine T.ret1 rfl rfl (fun w hS => ⟨(), rfl, hS⟩)
      · replace hr := inv_negB hb3 hr
        refine T.leave .list (wantsNot rfl rfl rfl hb3) rfl ?_
        refine T.leave .list (wantsNot rfl rfl rfl hb3) rfl ?_
        refine T.pickF .list rfl (wants0 rfl) rfl rfl hb3 rfl ?_
        refine T.move .list rfl (wants0 rfl) rfl rfl ?_
        refine T.leave .list (wantsNot rfl rfl rfl rfl) rfl ?_
        refine T.leave .list (wantsNot rfl rfl rfl rfl) rfl ?_
        refine T.leave .list (wantsNot rfl rfl rfl rfl) rfl ?_
        refine T.leave .list (wantsNot rfl rfl rfl rfl) rfl ?_
        refine T.leave .list (wantsNot rfl rfl rfl rfl) rfl ?_
        refine T.pickF .list rfl (wants0 rfl) rfl rfl rfl rfl ?_
        refine T.move .list rfl (wants0 rfl) rfl rfl ?_
        refine T.leave .list (wantsNot rfl rfl rfl rfl) rfl ?_
        refine T.leave .list (wantsNot rfl rfl rfl rfl) rfl ?_
        refine T.leave .list (wantsNot rfl rfl rfl rfl) rfl ?_
        refine T.pickF .list rfl (wants0 rfl) rfl rfl rfl rfl ?_
        refine T.move .list rfl (wants0 rfl) rfl rfl ?_
        refine T.leave .list (wantsNot rfl rfl rfl rfl) rfl ?_
        refine T.leave .list (wantsNot rfl rfl rfl rfl) rfl ?_
        refine T.pickF .list rfl (wants0 rfl) rfl rfl rfl rfl ?_
        refine T.move .list rfl (wants0 rfl) rfl rfl ?_
        refine T.leave .list (wantsNot rfl rfl rfl rfl) rfl ?_
        refine T.leave .list (wantsNot rfl rfl rfl rfl) rfl ?_
        refine T.leave .list (wantsNot rfl rfl rfl rfl) rfl ?_
        refine T.leave .list (wantsUndef rfl rfl rfl) rfl ?_
        refine T.leave .list (wantsUndef rfl rfl rfl) rfl ?_
        refine T.leave .list (wantsUndef rfl rfl rfl) rfl ?_
        refine T.leave .list (wantsUndef rfl rfl rfl) rfl ?_
        refine T.leave .list (wantsUndef rfl rfl rfl) rfl ?_
        refine T.leave .list (wantsUndef rfl rfl rfl) rfl ?_
        refine T.leave .list (wantsUndef rfl rfl rfl) rfl ?_
        refine T.leave .list (wantsNot rfl rfl rfl rfl) rfl ?_
        refine T.pickF .list rfl (wants0 rfl) rfl rfl rfl rfl ?_
        refine T.assign .list rfl (wants0 rfl) rfl rfl ?_
        refine T.nil ?_
        refine T.then_normal ?_
        refine T.ret ?_
        obtain rfl := inv_some hr
        refine T.pick [] 8 rfl rfl (Nat.le_add_left _ _) rfl ?_
        refine T.ret1 rfl rfl (fun w hS => ⟨(), rfl, hS⟩)
    · replace hr := inv_negB hb2 hr
      refine T.leave .list (wantsNot rfl rfl rfl hb2) rfl ?_
      refine T.leave .list (wantsNot rfl rfl rfl hb2) rfl ?_
      refine T.leave .list (wantsNot rfl rfl rfl hb2) rfl ?_
      refine T.pickF .list rfl (wants0 rfl) rfl rfl hb2 rfl ?_
      refine T.move .list rfl (wants0 rfl) rfl rfl ?_
      refine T.leave .list (wantsNot rfl rfl rfl rfl) rfl ?_
      refine T.leave .list (wantsNot rfl rfl rfl rfl) rfl ?_
      refine T.pickF .list rfl (wants0 rfl) rfl rfl rfl rfl ?_
      refine T.move .list rfl (wants0 rfl) rfl rfl ?_
      refine T.leave .list (wantsNot rfl rfl rfl rfl) rfl ?_
      refine T.leave .list (wantsNot rfl rfl rfl rfl) rfl ?_
      refine T.leave .list (wantsNot rfl rfl rfl rfl) rfl ?_
      refine T.leave .list (wantsNot rfl rfl rfl rfl) rfl ?_
      refine T.leave .list (wantsNot rfl rfl rfl rfl) rfl ?_
      refine T.pickF .list rfl (wants0 rfl) rfl rfl rfl rfl ?_
      refine T.move .list rfl (wants0 rfl) rfl rfl ?_
      refine T.leave .list (wantsNot rfl rfl rfl rfl) rfl ?_
      refine T.leave .list (wantsNot rfl rfl rfl rfl) rfl ?_
      refine T.leave .list (wantsNot rfl rfl rfl rfl) rfl ?_
      refine T.pickF .list rfl (wants0 rfl) rfl rfl rfl rfl ?_
      refine T.move .list rfl (wants0 rfl) rfl rfl ?_
      refine T.leave .list (wantsNot rfl rfl rfl rfl) rfl ?_
      refine T.leave .list (wantsNot rfl rfl rfl rfl) rfl ?_
      refine T.pickF .list rfl (wants0 rfl) rfl rfl rfl rfl ?_
      refine T.move .list rfl (wants0 rfl) rfl rfl ?_
      refine T.leave .list (wantsNot rfl rfl rfl rfl) rfl ?_
      refine T.leave .list (wantsNot rfl rfl rfl rfl) rfl ?_
      refine T.leave .list (wantsNot rfl rfl rfl rfl) rfl ?_
      refine T.leave .list (wantsUndef rfl rfl rfl) rfl ?_
      refine T.leave .list (wantsUndef rfl rfl rfl) rfl ?_
      refine T.leave .list (wantsUndef rfl rfl rfl) rfl ?_
      refine T.leave .list (wantsUndef rfl rfl rfl) rfl ?_
      refine T.leave .list (wantsUndef rfl rfl rfl) rfl ?_
      refine T.leave .list (wantsUndef rfl rfl rfl) rfl ?_
      refine T.leave .list (wantsUndef rfl rfl rfl) rfl ?_
      refine T.leave .list (wantsNot rfl rfl rfl rfl) rfl ?_
      refine T.pickF .list rfl (wants0 rfl) rfl rfl rfl rfl ?_
      refine T.assign .list rfl (wants0 rfl) rfl rfl ?_
      refine T.nil ?_
      refine T.then_normal ?_
      refine T.ret ?_
      obtain rfl := inv_some hr
      refine T.pick [] 8 rfl rfl (Nat.le_add_left _ _) rfl ?_
      refine T.ret1 rfl rfl (fun w hS => ⟨(), rfl, hS⟩)
  · replace hr := inv_negB hb1 hr
    refine T.leave .list (wantsNot rfl rfl rfl hb1) rfl ?_
    refine T.leave .list (wantsNot rfl rfl rfl hb1) rfl ?_
    refine T.leave .list (wantsNot rfl rfl rfl hb1) rfl ?_
    refine T.pickF .list rfl (wants0 rfl) rfl rfl hb1 rfl ?_
    refine T.move .list rfl (wants0 rfl) rfl rfl ?_
    refine T.leave .list (wantsNot rfl rfl rfl rfl) rfl ?_
    refine T.leave .list (wantsNot rfl rfl rfl rfl) rfl ?_
    refine T.leave .list (wantsNot rfl rfl rfl rfl) rfl ?_
    refine T.pickF .list rfl (wants0 rfl) rfl rfl rfl rfl ?_
    refine T.move .list rfl (wants0 rfl) rfl rfl ?_
    refine T.leave .list (wantsNot rfl rfl rfl rfl) rfl ?_
    refine T.leave .list (wantsNot rfl rfl rfl rfl) rfl ?_
    refine T.pickF .list rfl (wants0 rfl) rfl rfl rfl rfl ?_
    refine T.move .list rfl (wants0 rfl) rfl rfl ?_
    refine T.leave .list (wantsNot rfl rfl rfl rfl) rfl ?_
    refine T.leave .list (wantsNot rfl rfl rfl rfl) rfl ?_
    refine T.leave .list (wantsNot rfl rfl rfl rfl) rfl ?_
    refine T.leave .list (wantsNot rfl rfl rfl rfl) rfl ?_
    refine T.leave .list (wantsNot rfl rfl rfl rfl) rfl ?_
    refine T.pickF .list rfl (wants0 rfl) rfl rfl rfl rfl ?_
    refine T.move .list rfl (wants0 rfl) rfl rfl ?_
    refine T.leave .list (wantsNot rfl rfl rfl rfl) rfl ?_
    refine T.leave .list (wantsNot rfl rfl rfl rfl) rfl ?_
    refine T.leave .list (wantsNot rfl rfl rfl rfl) rfl ?_
    refine T.pickF .list rfl (wants0 rfl) rfl rfl rfl rfl ?_
    refine T.move .list rfl (wants0 rfl) rfl rfl ?_
    refine T.leave .list (wantsNot rfl rfl rfl rfl) rfl ?_
    refine T.leave .list (wantsNot rfl rfl rfl rfl) rfl ?_
    refine T.pickF .list rfl (wants0 rfl) rfl rfl rfl rfl ?_
    refine T.move .list rfl (wants0 rfl) rfl rfl ?_
    refine T.leave .list (wantsNot rfl rfl rfl rfl) rfl ?_
    refine T.leave .list (wantsNot rfl rfl rfl rfl) rfl ?_
    refine T.leave .list (wantsNot rfl rfl rfl rfl) rfl ?_
    refine T.leave .list (wantsUndef rfl rfl rfl) rfl ?_
    refine T.leave .list (wantsUndef rfl rfl rfl) rfl ?_
    refine T.leave .list (wantsUndef rfl rfl rfl) rfl ?_
    refine T.leave .list (wantsUndef rfl rfl rfl) rfl ?_
    refine T.leave .list (wantsUndef rfl rfl rfl) rfl ?_
    refine T.leave .list (wantsUndef rfl rfl rfl) rfl ?_
    refine T.leave .list (wantsUndef rfl rfl rfl) rfl ?_
    refine T.leave .list (wantsNot rfl rfl rfl rfl) rfl ?_
    refine T.pickF .list rfl (wants0 rfl) rfl rfl rfl rfl ?_
    refine T.assign .list rfl (wants0 rfl) rfl rfl ?_
    refine T.nil ?_
    refine T.then_normal ?_
    refine T.ret ?_
    obtain rfl := inv_some hr
    refine T.pick [] 8 rfl rfl (Nat.le_add_left _ _) rfl ?_
    refine T.ret1 rfl rfl (fun w hS => ⟨(), rfl, hS⟩)
end Go.Proofs.Ythhgagkacogigaa
