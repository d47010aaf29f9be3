/- WireM: what the functions compute, and that the program computes it; printed by a program of ours. -/
import Derived.Test.YthhgagkacogigaaWireL
set_option linter.unusedVariables false
set_option linter.unusedSimpArgs false
namespace Go.Proofs.Ythhgagkacogigaa
open Go.RowKit
noncomputable def law1_WireBits.k2 (l0 : List UInt8) (s1 : List UInt8) (s2 : List UInt8) : Option Bool :=
  chk (0 ≤ (min ((l0.length : Int)) 10000) ∧ (min ((l0.length : Int)) 10000) ≤ (l0.length : Int)) ((wire_Sum.impl (subl l0 0 (min ((l0.length : Int)) 10000))).bind fun r2 => (law1_told.impl ).bind fun r3 => (if r3 = true then chk (0 ≤ (min ((l0.length : Int)) 10000) ∧ (min ((l0.length : Int)) 10000) ≤ (l0.length : Int)) ((if ((decide (s1 = (subl l0 0 (min ((l0.length : Int)) 10000))))) = true then chk (0 ≤ (min ((l0.length : Int)) 10000) ∧ (min ((l0.length : Int)) 10000) ≤ (l0.length : Int)) ((if ((decide (s2 = (subl l0 0 (min ((l0.length : Int)) 10000))))) = true then some true else (wire_Sum.impl s2).bind fun r4 => some (!(decide (r4 = r2))))) else (wire_Sum.impl s1).bind fun r5 => (if ((decide (r5 = r2))) = true then some false else chk (0 ≤ (min ((l0.length : Int)) 10000) ∧ (min ((l0.length : Int)) 10000) ≤ (l0.length : Int)) ((if ((decide (s2 = (subl l0 0 (min ((l0.length : Int)) 10000))))) = true then some true else (wire_Sum.impl s2).bind fun r6 => some (!(decide (r6 = r2)))))))) else some false))
noncomputable def law1_WireBits.k3 (s3 : List UInt8 × Int) (s4 : List UInt8) : Option ((List UInt8 × Int) ⊕ (List UInt8)) :=
  some (.inl (s4, IntKind.i64.wrap (s3.2 + 1)))
noncomputable def law1_WireBits.k4 (a1 : Int) (l0 : List UInt8) (a2 : Int) (a3 : Int) (s3 : List UInt8 × Int) (s5 : Bool) : Option ((List UInt8 × Int) ⊕ (List UInt8)) :=
  (if s5 = true then chk (0 ≤ (IntKind.i64.wrap (Int.tdiv (IntKind.i64.wrap ((((([Int.tmod (bitsOf .and .i64 a1 1099511627775) (IntKind.i64.wrap (8 * (min ((l0.length : Int)) 10000))), Int.tmod (bitsOf .and .i64 a2 1099511627775) (IntKind.i64.wrap (8 * (min ((l0.length : Int)) 10000))), Int.tmod (bitsOf .and .i64 a3 1099511627775) (IntKind.i64.wrap (8 * (min ((l0.length : Int)) 10000)))] : List Int)).getD ((0 + (0 : Int).toNat * 1)) default)) + s3.2)) 8)) ∧ (IntKind.i64.wrap (Int.tdiv (IntKind.i64.wrap ((((([Int.tmod (bitsOf .and .i64 a1 1099511627775) (IntKind.i64.wrap (8 * (min ((l0.length : Int)) 10000))), Int.tmod (bitsOf .and .i64 a2 1099511627775) (IntKind.i64.wrap (8 * (min ((l0.length : Int)) 10000))), Int.tmod (bitsOf .and .i64 a3 1099511627775) (IntKind.i64.wrap (8 * (min ((l0.length : Int)) 10000)))] : List Int)).getD ((0 + (0 : Int).toNat * 1)) default)) + s3.2)) 8)) < (s3.1.length : Int)) (chk (0 ≤ (IntKind.i64.wrap (Int.tdiv (IntKind.i64.wrap ((((([Int.tmod (bitsOf .and .i64 a1 1099511627775) (IntKind.i64.wrap (8 * (min ((l0.length : Int)) 10000))), Int.tmod (bitsOf .and .i64 a2 1099511627775) (IntKind.i64.wrap (8 * (min ((l0.length : Int)) 10000))), Int.tmod (bitsOf .and .i64 a3 1099511627775) (IntKind.i64.wrap (8 * (min ((l0.length : Int)) 10000)))] : List Int)).getD ((0 + (0 : Int).toNat * 1)) default)) + s3.2)) 8)) ∧ (IntKind.i64.wrap (Int.tdiv (IntKind.i64.wrap ((((([Int.tmod (bitsOf .and .i64 a1 1099511627775) (IntKind.i64.wrap (8 * (min ((l0.length : Int)) 10000))), Int.tmod (bitsOf .and .i64 a2 1099511627775) (IntKind.i64.wrap (8 * (min ((l0.length : Int)) 10000))), Int.tmod (bitsOf .and .i64 a3 1099511627775) (IntKind.i64.wrap (8 * (min ((l0.length : Int)) 10000)))] : List Int)).getD ((0 + (0 : Int).toNat * 1)) default)) + s3.2)) 8)) < (s3.1.length : Int)) (law1_WireBits.k3 s3 ((s3.1).set (IntKind.i64.wrap (Int.tdiv (IntKind.i64.wrap ((((([Int.tmod (bitsOf .and .i64 a1 1099511627775) (IntKind.i64.wrap (8 * (min ((l0.length : Int)) 10000))), Int.tmod (bitsOf .and .i64 a2 1099511627775) (IntKind.i64.wrap (8 * (min ((l0.length : Int)) 10000))), Int.tmod (bitsOf .and .i64 a3 1099511627775) (IntKind.i64.wrap (8 * (min ((l0.length : Int)) 10000)))] : List Int)).getD ((0 + (0 : Int).toNat * 1)) default)) + s3.2)) 8) : Int).toNat (u8 (bitsOf .xor .u8 ((((s3.1).getD (IntKind.i64.wrap (Int.tdiv (IntKind.i64.wrap ((((([Int.tmod (bitsOf .and .i64 a1 1099511627775) (IntKind.i64.wrap (8 * (min ((l0.length : Int)) 10000))), Int.tmod (bitsOf .and .i64 a2 1099511627775) (IntKind.i64.wrap (8 * (min ((l0.length : Int)) 10000))), Int.tmod (bitsOf .and .i64 a3 1099511627775) (IntKind.i64.wrap (8 * (min ((l0.length : Int)) 10000)))] : List Int)).getD ((0 + (0 : Int).toNat * 1)) default)) + s3.2)) 8) : Int).toNat default).toNat : Int)) (shlI .u8 1 (IntKind.u64.wrap (Int.tmod (IntKind.i64.wrap ((((([Int.tmod (bitsOf .and .i64 a1 1099511627775) (IntKind.i64.wrap (8 * (min ((l0.length : Int)) 10000))), Int.tmod (bitsOf .and .i64 a2 1099511627775) (IntKind.i64.wrap (8 * (min ((l0.length : Int)) 10000))), Int.tmod (bitsOf .and .i64 a3 1099511627775) (IntKind.i64.wrap (8 * (min ((l0.length : Int)) 10000)))] : List Int)).getD ((0 + (0 : Int).toNat * 1)) default)) + s3.2)) 8)))))))) else law1_WireBits.k3 s3 s3.1)
noncomputable def law1_WireBits.st1 (a1 : Int) (l0 : List UInt8) (a2 : Int) (a3 : Int) (a4 : Int) (s3 : List UInt8 × Int) : Option ((List UInt8 × Int) ⊕ (List UInt8)) :=
  (if ((decide (s3.2 < 32))) = true then chk ((0 + (0 : Int).toNat * 1) < (([Int.tmod (bitsOf .and .i64 a1 1099511627775) (IntKind.i64.wrap (8 * (min ((l0.length : Int)) 10000))), Int.tmod (bitsOf .and .i64 a2 1099511627775) (IntKind.i64.wrap (8 * (min ((l0.length : Int)) 10000))), Int.tmod (bitsOf .and .i64 a3 1099511627775) (IntKind.i64.wrap (8 * (min ((l0.length : Int)) 10000)))] : List Int)).length) ((if ((decide (((bitsOf .and .u32 (shrI .u32 a4 (IntKind.u64.wrap s3.2)) 1)) = 1))) = true then law1_WireBits.k4 a1 l0 a2 a3 s3 (decide (((IntKind.i64.wrap ((((([Int.tmod (bitsOf .and .i64 a1 1099511627775) (IntKind.i64.wrap (8 * (min ((l0.length : Int)) 10000))), Int.tmod (bitsOf .and .i64 a2 1099511627775) (IntKind.i64.wrap (8 * (min ((l0.length : Int)) 10000))), Int.tmod (bitsOf .and .i64 a3 1099511627775) (IntKind.i64.wrap (8 * (min ((l0.length : Int)) 10000)))] : List Int)).getD ((0 + (0 : Int).toNat * 1)) default)) + s3.2))) < (IntKind.i64.wrap (8 * (min ((l0.length : Int)) 10000))))) else law1_WireBits.k4 a1 l0 a2 a3 s3 false)) else some (.inr s3.1))
noncomputable def law1_WireBits.k1 (a1 : Int) (l0 : List UInt8) (a2 : Int) (a3 : Int) (a4 : Int) (s1 : List UInt8) : Option Bool :=
  (loop (law1_WireBits.st1 a1 l0 a2 a3 a4) (((([] : List UInt8)) ++ (subl l0 0 (min ((l0.length : Int)) 10000))), 0)).bind (fun e1 => law1_WireBits.k2 l0 s1 e1)
noncomputable def law1_WireBits.st2 (a1 : Int) (l0 : List UInt8) (a2 : Int) (a3 : Int) (s6 : List UInt8 × Int) : Option ((List UInt8 × Int) ⊕ (List UInt8)) :=
  (if ((decide (s6.2 < 3))) = true then chk (0 ≤ s6.2 ∧ s6.2 < 3) (chk (0 ≤ s6.2 ∧ s6.2 < 3) (chk (0 ≤ s6.2 ∧ s6.2 < 3) (chk ((0 + (s6.2 : Int).toNat * 1) < (([Int.tmod (bitsOf .and .i64 a1 1099511627775) (IntKind.i64.wrap (8 * (min ((l0.length : Int)) 10000))), Int.tmod (bitsOf .and .i64 a2 1099511627775) (IntKind.i64.wrap (8 * (min ((l0.length : Int)) 10000))), Int.tmod (bitsOf .and .i64 a3 1099511627775) (IntKind.i64.wrap (8 * (min ((l0.length : Int)) 10000)))] : List Int)).length) (chk ((0 + (s6.2 : Int).toNat * 1) < (([Int.tmod (bitsOf .and .i64 a1 1099511627775) (IntKind.i64.wrap (8 * (min ((l0.length : Int)) 10000))), Int.tmod (bitsOf .and .i64 a2 1099511627775) (IntKind.i64.wrap (8 * (min ((l0.length : Int)) 10000))), Int.tmod (bitsOf .and .i64 a3 1099511627775) (IntKind.i64.wrap (8 * (min ((l0.length : Int)) 10000)))] : List Int)).length) (chk (0 ≤ (IntKind.i64.wrap (Int.tdiv (((([Int.tmod (bitsOf .and .i64 a1 1099511627775) (IntKind.i64.wrap (8 * (min ((l0.length : Int)) 10000))), Int.tmod (bitsOf .and .i64 a2 1099511627775) (IntKind.i64.wrap (8 * (min ((l0.length : Int)) 10000))), Int.tmod (bitsOf .and .i64 a3 1099511627775) (IntKind.i64.wrap (8 * (min ((l0.length : Int)) 10000)))] : List Int)).getD ((0 + (s6.2 : Int).toNat * 1)) default)) 8)) ∧ (IntKind.i64.wrap (Int.tdiv (((([Int.tmod (bitsOf .and .i64 a1 1099511627775) (IntKind.i64.wrap (8 * (min ((l0.length : Int)) 10000))), Int.tmod (bitsOf .and .i64 a2 1099511627775) (IntKind.i64.wrap (8 * (min ((l0.length : Int)) 10000))), Int.tmod (bitsOf .and .i64 a3 1099511627775) (IntKind.i64.wrap (8 * (min ((l0.length : Int)) 10000)))] : List Int)).getD ((0 + (s6.2 : Int).toNat * 1)) default)) 8)) < (s6.1.length : Int)) (chk ((0 + (s6.2 : Int).toNat * 1) < (([Int.tmod (bitsOf .and .i64 a1 1099511627775) (IntKind.i64.wrap (8 * (min ((l0.length : Int)) 10000))), Int.tmod (bitsOf .and .i64 a2 1099511627775) (IntKind.i64.wrap (8 * (min ((l0.length : Int)) 10000))), Int.tmod (bitsOf .and .i64 a3 1099511627775) (IntKind.i64.wrap (8 * (min ((l0.length : Int)) 10000)))] : List Int)).length) (chk (0 ≤ (IntKind.i64.wrap (Int.tdiv (((([Int.tmod (bitsOf .and .i64 a1 1099511627775) (IntKind.i64.wrap (8 * (min ((l0.length : Int)) 10000))), Int.tmod (bitsOf .and .i64 a2 1099511627775) (IntKind.i64.wrap (8 * (min ((l0.length : Int)) 10000))), Int.tmod (bitsOf .and .i64 a3 1099511627775) (IntKind.i64.wrap (8 * (min ((l0.length : Int)) 10000)))] : List Int)).getD ((0 + (s6.2 : Int).toNat * 1)) default)) 8)) ∧ (IntKind.i64.wrap (Int.tdiv (((([Int.tmod (bitsOf .and .i64 a1 1099511627775) (IntKind.i64.wrap (8 * (min ((l0.length : Int)) 10000))), Int.tmod (bitsOf .and .i64 a2 1099511627775) (IntKind.i64.wrap (8 * (min ((l0.length : Int)) 10000))), Int.tmod (bitsOf .and .i64 a3 1099511627775) (IntKind.i64.wrap (8 * (min ((l0.length : Int)) 10000)))] : List Int)).getD ((0 + (s6.2 : Int).toNat * 1)) default)) 8)) < (s6.1.length : Int)) (some (.inl (((s6.1).set (IntKind.i64.wrap (Int.tdiv (((([Int.tmod (bitsOf .and .i64 a1 1099511627775) (IntKind.i64.wrap (8 * (min ((l0.length : Int)) 10000))), Int.tmod (bitsOf .and .i64 a2 1099511627775) (IntKind.i64.wrap (8 * (min ((l0.length : Int)) 10000))), Int.tmod (bitsOf .and .i64 a3 1099511627775) (IntKind.i64.wrap (8 * (min ((l0.length : Int)) 10000)))] : List Int)).getD ((0 + (s6.2 : Int).toNat * 1)) default)) 8) : Int).toNat (u8 (bitsOf .xor .u8 ((((s6.1).getD (IntKind.i64.wrap (Int.tdiv (((([Int.tmod (bitsOf .and .i64 a1 1099511627775) (IntKind.i64.wrap (8 * (min ((l0.length : Int)) 10000))), Int.tmod (bitsOf .and .i64 a2 1099511627775) (IntKind.i64.wrap (8 * (min ((l0.length : Int)) 10000))), Int.tmod (bitsOf .and .i64 a3 1099511627775) (IntKind.i64.wrap (8 * (min ((l0.length : Int)) 10000)))] : List Int)).getD ((0 + (s6.2 : Int).toNat * 1)) default)) 8) : Int).toNat default).toNat : Int)) (shlI .u8 1 (IntKind.u64.wrap (Int.tmod (((([Int.tmod (bitsOf .and .i64 a1 1099511627775) (IntKind.i64.wrap (8 * (min ((l0.length : Int)) 10000))), Int.tmod (bitsOf .and .i64 a2 1099511627775) (IntKind.i64.wrap (8 * (min ((l0.length : Int)) 10000))), Int.tmod (bitsOf .and .i64 a3 1099511627775) (IntKind.i64.wrap (8 * (min ((l0.length : Int)) 10000)))] : List Int)).getD ((0 + (s6.2 : Int).toNat * 1)) default)) 8)))))), IntKind.i64.wrap (s6.2 + 1))))))))))) else some (.inr s6.1))
noncomputable def law1_WireBits.impl (l0 : List UInt8) (a1 : Int) (a2 : Int) (a3 : Int) (a4 : Int) : Option Bool :=
  (if ((decide (((min ((l0.length : Int)) 10000)) = 0))) = true then (law1_told.impl ).bind fun r1 => some r1 else chk (0 ≤ (min ((l0.length : Int)) 10000) ∧ (min ((l0.length : Int)) 10000) ≤ (l0.length : Int)) (chk (((([] : List UInt8)).length + (subl l0 0 (min ((l0.length : Int)) 10000)).length) * 1 ≤ 140737488355328) (chk (0 ≤ (min ((l0.length : Int)) 10000) ∧ (min ((l0.length : Int)) 10000) ≤ (l0.length : Int)) (chk (((([] : List UInt8)).length + (subl l0 0 (min ((l0.length : Int)) 10000)).length) * 1 ≤ 140737488355328) (chk (¬ (IntKind.i64.wrap (8 * (min ((l0.length : Int)) 10000))) = 0) (chk (¬ (IntKind.i64.wrap (8 * (min ((l0.length : Int)) 10000))) = 0) (chk (¬ (IntKind.i64.wrap (8 * (min ((l0.length : Int)) 10000))) = 0) (chk (([Int.tmod (bitsOf .and .i64 a1 1099511627775) (IntKind.i64.wrap (8 * (min ((l0.length : Int)) 10000))), Int.tmod (bitsOf .and .i64 a2 1099511627775) (IntKind.i64.wrap (8 * (min ((l0.length : Int)) 10000))), Int.tmod (bitsOf .and .i64 a3 1099511627775) (IntKind.i64.wrap (8 * (min ((l0.length : Int)) 10000)))]).length = 3 ∧ (List.replicate 3 (0 : Int)).length = 3) ((loop (law1_WireBits.st2 a1 l0 a2 a3) (((([] : List UInt8)) ++ (subl l0 0 (min ((l0.length : Int)) 10000))), 0)).bind (fun e2 => law1_WireBits.k1 a1 l0 a2 a3 a4 e2))))))))))
set_option maxRecDepth 100000 in
set_option maxHeartbeats 1000000 in
theorem law1_WireBits.c {B : World} {hs : List MP} {w : World} {i0 c0 : Nat} {A0 : Option Addr} {l0 : List UInt8} {a1 : Int} {a2 : Int} {a3 : Int} {a4 : Int} (hS : St B (hs) w) (h0 : (hs)[i0]? = some (Ro E8 A0 c0 l0)) {r : Bool} (hr : law1_WireBits.impl l0 a1 a2 a3 a4 = some r) :
    Calls Try.prog 4 #[.slice A0 l0.length c0, .int .i64 a1, .int .i64 a2, .int .i64 a3, .int .u32 a4] w fun e w' => ∃ x : Unit, e = .returned (.bool r) ∧ St B (hs) w' := by
  unfold law1_WireBits.impl at hr
  refine calls_T Try.func4 rfl rfl rfl hS ?_
  refine T.front i0 h0 ?_
  refine T.seq ?_
  refine T.region ?_
  refine T.assign .list rfl (wants0 rfl) rfl rfl ?_
  refine T.nil ?_
  refine T.then_normal ?_
  refine T.seq ?_
  refine T.region ?_
  refine T.move .list rfl (wants0 rfl) rfl rfl ?_
  refine T.lenSlice .list rfl (wants0 rfl) rfl rfl ?_
  refine T.min2 .list rfl (wants0 rfl) rfl rfl rfl ?_
  refine T.assign .list rfl (wants0 rfl) rfl rfl ?_
  refine T.nil ?_
  refine T.then_normal ?_
  refine T.seq ?_
  refine T.seq ?_
  refine T.region ?_
  refine T.move .list rfl (wants0 rfl) rfl rfl ?_
  refine T.bin .list rfl (wants0 rfl) rfl rfl rfl rfl ?_
  refine T.nil ?_
  refine T.then_normal ?_
  refine T.cond rfl (fun hb1 => ?_) (fun hb1 => ?_)
  · replace hr := inv_posB hb1 hr
    refine T.seq ?_
    refine T.region ?_
    obtain ⟨r1, hg1, hr⟩ := inv_bind hr
    refine T.call .list (wants0 rfl) rfl (run_callF (vs := []) rfl Try.func9 rfl (by decide) rfl) (fun w hS => law1_told.c hS  hg1) (fun x1 => ?_)
    refine T.assign .list rfl (wants0 rfl) rfl rfl ?_
    refine T.nil ?_
    refine T.then_normal ?_
    refine T.ret ?_
    refine T.then_ret ?_
    obtain rfl := inv_some hr
    refine T.pick [] 1 rfl rfl (Nat.le_add_left _ _) rfl ?_
    refine T.ret1 rfl rfl (fun w hS => ⟨(), rfl, hS⟩)
  · replace hr := inv_negB hb1 hr
    refine T.skip ?_
    refine T.then_normal ?_
    refine T.seq ?_
    refine T.region ?_
    refine T.assign .list rfl (wants0 rfl) rfl rfl ?_
    refine T.assign .list rfl (wants0 rfl) rfl rfl ?_
    refine T.nil ?_
    refine T.then_normal ?_
    refine T.seq ?_
    refine T.region ?_
    refine T.move .list rfl (wants0 rfl) rfl rfl ?_
    refine T.move .list rfl (wants0 rfl) rfl rfl ?_
    refine T.move .list rfl (wants0 rfl) rfl rfl ?_
    obtain ⟨hc1, hr⟩ := inv_chk hr
    refine T.cut0 .list 0 rfl rfl rfl (wants0 rfl) rfl rfl (.inl rfl) (.inr ⟨_, _, rfl, rfl⟩) hc1.1 hc1.2 ?_
    refine T.nilBf E8 5 ?_
    obtain ⟨hc2, hr⟩ := inv_chk hr
    refine T.appRo .list 0 1 rfl rfl rfl rfl rfl (wants0 rfl) rfl rfl rfl rfl rfl rfl hc2 (fun _ _ => rfl) (fun A6 c6 => ?_)
    refine T.assign .list rfl (wants0 rfl) rfl rfl ?_
    refine T.nil ?_
    refine T.then_normal ?_
    refine T.seq ?_
    refine T.region ?_
    refine T.move .list rfl (wants0 rfl) rfl rfl ?_
    refine T.move .list rfl (wants0 rfl) rfl rfl ?_
    refine T.move .list rfl (wants0 rfl) rfl rfl ?_
    obtain ⟨hc3, hr⟩ := inv_chk hr
    refine T.cut0 .list 2 rfl rfl rfl (wants0 rfl) rfl rfl (.inl rfl) (.inr ⟨_, _, rfl, rfl⟩) hc3.1 hc3.2 ?_
    refine T.nilBf E8 5 ?_
    obtain ⟨hc4, hr⟩ := inv_chk hr
    refine T.appRo .list 0 1 rfl rfl rfl rfl rfl (wants0 rfl) rfl rfl rfl rfl rfl rfl hc4 (fun _ _ => rfl) (fun A7 c7 => ?_)
    refine T.assign .list rfl (wants0 rfl) rfl rfl ?_
    refine T.nil ?_
    refine T.then_normal ?_
    refine T.seq ?_
    refine T.plan [(0, 0), (1, 0), (2, 0), (3, 0), (4, 0), (5, 0), (6, 0), (7, 0), (8, 0), (9, 0), (10, 0), (11, 0), (12, 0), (13, 0), (14, 0), (15, 0), (16, 2), (17, 2)] mixed (by kernel_rfl) (by kernel_rfl) rfl (fun d _ _ _ _ h => by cases d <;> exact h) ?_
    refine T.move (.plan rfl) rfl (wants0 rfl) rfl rfl ?_
    refine T.bin (.plan rfl) rfl (wants0 rfl) rfl rfl rfl rfl ?_
    refine T.move (.plan rfl) rfl (wants0 rfl) rfl rfl ?_
    refine T.bin (.plan rfl) rfl (wants0 rfl) rfl rfl rfl rfl ?_
    obtain ⟨hc5, hr⟩ := inv_chk hr
    refine T.rem (.plan rfl) rfl (wants0 rfl) rfl rfl rfl hc5 ?_
    refine T.move (.plan rfl) rfl (wants0 rfl) rfl rfl ?_
    refine T.bin (.plan rfl) rfl (wants0 rfl) rfl rfl rfl rfl ?_
    refine T.move (.plan rfl) rfl (wants0 rfl) rfl rfl ?_
    refine T.bin (.plan rfl) rfl (wants0 rfl) rfl rfl rfl rfl ?_
    obtain ⟨hc6, hr⟩ := inv_chk hr
    refine T.rem (.plan rfl) rfl (wants0 rfl) rfl rfl rfl hc6 ?_
    refine T.move (.plan rfl) rfl (wants0 rfl) rfl rfl ?_
    refine T.bin (.plan rfl) rfl (wants0 rfl) rfl rfl rfl rfl ?_
    refine T.move (.plan rfl) rfl (wants0 rfl) rfl rfl ?_
    refine T.bin (.plan rfl) rfl (wants0 rfl) rfl rfl rfl rfl ?_
    obtain ⟨hc7, hr⟩ := inv_chk hr
    refine T.rem (.plan rfl) rfl (wants0 rfl) rfl rfl rfl hc7 ?_
    refine T.build (.plan rfl) (vals := [(0, .int .i64 (Int.tmod (bitsOf .and .i64 a1 1099511627775) (IntKind.i64.wrap (8 * (min ((l0.length : Int)) 10000))))), (1, .int .i64 (Int.tmod (bitsOf .and .i64 a2 1099511627775) (IntKind.i64.wrap (8 * (min ((l0.length : Int)) 10000))))), (2, .int .i64 (Int.tmod (bitsOf .and .i64 a3 1099511627775) (IntKind.i64.wrap (8 * (min ((l0.length : Int)) 10000)))))]) (cells := #[.int .i64 (Int.tmod (bitsOf .and .i64 a1 1099511627775) (IntKind.i64.wrap (8 * (min ((l0.length : Int)) 10000)))), .int .i64 (Int.tmod (bitsOf .and .i64 a2 1099511627775) (IntKind.i64.wrap (8 * (min ((l0.length : Int)) 10000)))), .int .i64 (Int.tmod (bitsOf .and .i64 a3 1099511627775) (IntKind.i64.wrap (8 * (min ((l0.length : Int)) 10000))))]) rfl (wants0 rfl) rfl rfl (run_buildArr rfl) ?_
    refine T.allocArr 3 (Value.int .i64) 0 (.plan rfl) rfl (wants0 rfl) rfl (fun b1 => ?_)
    obtain ⟨hc8, hr⟩ := inv_chk hr
    refine T.stArrN (.plan rfl) 0 (M := ([Int.tmod (bitsOf .and .i64 a1 1099511627775) (IntKind.i64.wrap (8 * (min ((l0.length : Int)) 10000))), Int.tmod (bitsOf .and .i64 a2 1099511627775) (IntKind.i64.wrap (8 * (min ((l0.length : Int)) 10000))), Int.tmod (bitsOf .and .i64 a3 1099511627775) (IntKind.i64.wrap (8 * (min ((l0.length : Int)) 10000)))])) rfl rfl (wants0 rfl) rfl rfl rfl rfl (fun _ => rfl) hc8.1 hc8.2 rfl ?_
    refine T.planEnd ?_
    refine T.then_normal ?_
    refine T.seqJ (fun (s1 : List UInt8) (x2 : (Option Addr × Nat)) => [(0, .slice A0 l0.length c0), (4, .int .u32 a4), (11, .int .i64 (min ((l0.length : Int)) 10000)), (12, .slice x2.1 s1.length x2.2), (13, .slice A7 ((((([] : List UInt8)) ++ (subl l0 0 (min ((l0.length : Int)) 10000)))).length) c7), (14, .pointer (some ⟨b1, 0, none⟩))]) (fun s1 x2 => Ro E8 A0 c0 l0 :: Bf E8 5 x2.1 x2.2 s1 :: Bf E8 5 A7 c7 (((([] : List UInt8)) ++ (subl l0 0 (min ((l0.length : Int)) 10000)))) :: Cl b1 28 ((([Int.tmod (bitsOf .and .i64 a1 1099511627775) (IntKind.i64.wrap (8 * (min ((l0.length : Int)) 10000))), Int.tmod (bitsOf .and .i64 a2 1099511627775) (IntKind.i64.wrap (8 * (min ((l0.length : Int)) 10000))), Int.tmod (bitsOf .and .i64 a3 1099511627775) (IntKind.i64.wrap (8 * (min ((l0.length : Int)) 10000)))] : List Int)).map (Value.int .i64)) :: hs) (fun s1 => law1_WireBits.k1 a1 l0 a2 a3 a4 s1 = some r) (fun s1 x2 hk1 => ?_) (fun J1 => ?_)
    · unfold law1_WireBits.k1 at hk1
      refine T.seqJ (fun (s2 : List UInt8) (x3 : (Option Addr × Nat)) => [(0, .slice A0 l0.length c0), (11, .int .i64 (min ((l0.length : Int)) 10000)), (12, .slice x2.1 s1.length x2.2), (13, .slice x3.1 s2.length x3.2)]) (fun s2 x3 => Ro E8 A0 c0 l0 :: Bf E8 5 x2.1 x2.2 s1 :: Bf E8 5 x3.1 x3.2 s2 :: hs) (fun s2 => law1_WireBits.k2 l0 s1 s2 = some r) (fun s2 x3 hk2 => ?_) (fun J2 => ?_)
      · unfold law1_WireBits.k2 at hk2
        refine T.seq ?_
        refine T.region ?_
        refine T.move .list rfl (wants0 rfl) rfl rfl ?_
        refine T.move .list rfl (wants0 rfl) rfl rfl ?_
        obtain ⟨hc9, hk2⟩ := inv_chk hk2
        refine T.cut0 .list 0 rfl rfl rfl (wants0 rfl) rfl rfl (.inl rfl) (.inr ⟨_, _, rfl, rfl⟩) hc9.1 hc9.2 ?_
        obtain ⟨r2, hg2, hk2⟩ := inv_bind hk2
        refine T.call .list (wants0 rfl) rfl (run_callF (vs := [_]) rfl Try.func10 rfl (by decide) rfl) (fun w hS => wire_Sum.c hS (i0 := 0) rfl hg2) (fun x4 => ?_)
        refine T.assign .list rfl (wants0 rfl) rfl rfl ?_
        refine T.nil ?_
        refine T.then_normal ?_
        refine T.seq ?_
        refine T.plan [(0, 2), (1, 0), (2, 0), (4, 0), (5, 0), (6, 0), (3, 1), (7, 1), (8, 0), (9, 0), (10, 0), (12, 0), (11, 2), (13, 0), (14, 0), (15, 0), (16, 0), (17, 0), (19, 0), (20, 0), (21, 0), (18, 1), (22, 1), (23, 0), (24, 0), (25, 0), (27, 0), (26, 2), (28, 0), (29, 0), (30, 0), (31, 0)] mixed (by kernel_rfl) (by kernel_rfl) rfl (fun d _ _ _ _ h => by cases d <;> exact h) ?_
        obtain ⟨r3, hg3, hk2⟩ := inv_bind hk2
        refine T.call (.plan rfl) (wants0 rfl) rfl (run_callF (vs := []) rfl Try.func9 rfl (by decide) rfl) (fun w hS => law1_told.c hS  hg3) (fun x5 => ?_)
        refine T.move (.plan rfl) rfl (wants0 rfl) rfl rfl ?_
        refine T.bool (b := r3) (fun hb2 => ?_) (fun hb2 => ?_)
        · replace hk2 := inv_posB hb2 hk2
          refine T.move (.plan rfl) rfl (wants1 rfl rfl rfl hb2) rfl rfl ?_
          refine T.move (.plan rfl) rfl (wants1 rfl rfl rfl hb2) rfl rfl ?_
          refine T.move (.plan rfl) rfl (wants1 rfl rfl rfl hb2) rfl rfl ?_
          obtain ⟨hc10, hk2⟩ := inv_chk hk2
          refine T.cut0 (.plan rfl) 1 rfl rfl rfl (wants1 rfl rfl rfl hb2) rfl rfl (.inl rfl) (.inr ⟨_, _, rfl, rfl⟩) hc10.1 hc10.2 ?_
          refine T.strBf (.plan rfl) 3 rfl rfl (wants1 rfl rfl rfl hb2) rfl rfl rfl ?_
          refine T.strRo (.plan rfl) 0 rfl rfl (wants1 rfl rfl rfl hb2) rfl rfl rfl ?_
          refine T.strEq (.plan rfl) rfl (wants1 rfl rfl rfl hb2) rfl (l := s1) (l' := (subl l0 0 (min ((l0.length : Int)) 10000))) rfl rfl ?_
          refine T.move (.plan rfl) rfl (wants1 rfl rfl rfl hb2) rfl rfl ?_
          refine T.bool (b := (decide (s1 = (subl l0 0 (min ((l0.length : Int)) 10000))))) (fun hb3 => ?_) (fun hb3 => ?_)
          · replace hk2 := inv_posB hb3 hk2
            refine T.leave (.plan rfl) (wantsNot rfl rfl rfl hb3) rfl ?_
            refine T.leave (.plan rfl) (wantsNot rfl rfl rfl hb3) rfl ?_
            refine T.leave (.plan rfl) (wantsNot rfl rfl rfl hb3) rfl ?_
            refine T.leave (.plan rfl) (wantsNot rfl rfl rfl hb3) rfl ?_
            refine T.pickT (.plan rfl) rfl (wants1 rfl rfl rfl hb2) rfl rfl hb3 rfl ?_
            refine T.pickT (.plan rfl) rfl (wants0 rfl) rfl rfl hb2 rfl ?_
            refine T.move (.plan rfl) rfl (wants0 rfl) rfl rfl ?_
            refine T.move (.plan rfl) rfl (wants1 rfl rfl rfl rfl) rfl rfl ?_
            refine T.move (.plan rfl) rfl (wants1 rfl rfl rfl rfl) rfl rfl ?_
            refine T.move (.plan rfl) rfl (wants1 rfl rfl rfl rfl) rfl rfl ?_
            obtain ⟨hc11, hk2⟩ := inv_chk hk2
            refine T.cut0 (.plan rfl) 2 rfl rfl rfl (wants1 rfl rfl rfl rfl) rfl rfl (.inl rfl) (.inr ⟨_, _, rfl, rfl⟩) hc11.1 hc11.2 ?_
            refine T.strBf (.plan rfl) 5 rfl rfl (wants1 rfl rfl rfl rfl) rfl rfl rfl ?_
            refine T.strRo (.plan rfl) 0 rfl rfl (wants1 rfl rfl rfl rfl) rfl rfl rfl ?_
            refine T.strEq (.plan rfl) rfl (wants1 rfl rfl rfl rfl) rfl (l := s2) (l' := (subl l0 0 (min ((l0.length : Int)) 10000))) rfl rfl ?_
            refine T.move (.plan rfl) rfl (wants1 rfl rfl rfl rfl) rfl rfl ?_
            refine T.bool (b := (decide (s2 = (subl l0 0 (min ((l0.length : Int)) 10000))))) (fun hb4 => ?_) (fun hb4 => ?_)
            · replace hk2 := inv_posB hb4 hk2
              refine T.leave (.plan rfl) (wantsNot rfl rfl rfl hb4) rfl ?_
              refine T.leave (.plan rfl) (wantsNot rfl rfl rfl hb4) rfl ?_
              refine T.leave (.plan rfl) (wantsNot rfl rfl rfl hb4) rfl ?_
              refine T.leave (.plan rfl) (wantsNot rfl rfl rfl hb4) rfl ?_
              refine T.pickT (.plan rfl) rfl (wants1 rfl rfl rfl rfl) rfl rfl hb4 rfl ?_
              refine T.pickT (.plan rfl) rfl (wants0 rfl) rfl rfl rfl rfl ?_
              refine T.assign (.plan rfl) rfl (wants0 rfl) rfl rfl ?_
              refine T.planEnd ?_
              refine T.then_normal ?_
              refine T.ret ?_
              obtain rfl := inv_some hk2
              refine T.pick [] 6 rfl rfl (Nat.le_add_left _ _) rfl ?_
              refine T.ret1 rfl rfl (fun w hS => ⟨(), rfl, hS⟩)
            · replace hk2 := inv_negB hb4 hk2
              refine T.move (.plan rfl) rfl (wants1 rfl rfl rfl hb4) rfl rfl ?_
              refine T.move (.plan rfl) rfl (wants1 rfl rfl rfl hb4) rfl rfl ?_
              refine T.freeze 5 rfl rfl rfl ?_
              obtain ⟨r4, hg4, hk2⟩ := inv_bind hk2
              refine T.call (.plan rfl) (wants1 rfl rfl rfl hb4) rfl (run_callF (vs := [_]) rfl Try.func10 rfl (by decide) rfl) (fun w hS => wire_Sum.c hS (i0 := 5) rfl hg4) (fun x6 => ?_)
              refine T.bin (.plan rfl) rfl (wants1 rfl rfl rfl hb4) rfl rfl rfl rfl ?_
              refine T.pickF (.plan rfl) rfl (wants1 rfl rfl rfl rfl) rfl rfl hb4 rfl ?_
              refine T.pickT (.plan rfl) rfl (wants0 rfl) rfl rfl rfl rfl ?_
              refine T.assign (.plan rfl) rfl (wants0 rfl) rfl rfl ?_
              refine T.planEnd ?_
              refine T.then_normal ?_
              refine T.ret ?_
              obtain rfl := inv_some hk2
              refine T.pick [] 6 rfl rfl (Nat.le_add_left _ _) rfl ?_
              refine T.ret1 rfl rfl (fun w hS => ⟨(), rfl, hS⟩)
          · replace hk2 := inv_negB hb3 hk2
            refine T.move (.plan rfl) rfl (wants1 rfl rfl rfl hb3) rfl rfl ?_
            refine T.move (.plan rfl) rfl (wants1 rfl rfl rfl hb3) rfl rfl ?_
            refine T.freeze 3 rfl rfl rfl ?_
            obtain ⟨r5, hg5, hk2⟩ := inv_bind hk2
            refine T.call (.plan rfl) (wants1 rfl rfl rfl hb3) rfl (run_callF (vs := [_]) rfl Try.func10 rfl (by decide) rfl) (fun w hS => wire_Sum.c hS (i0 := 3) rfl hg5) (fun x7 => ?_)
            refine T.bin (.plan rfl) rfl (wants1 rfl rfl rfl hb3) rfl rfl rfl rfl ?_
            refine T.pickF (.plan rfl) rfl (wants1 rfl rfl rfl hb2) rfl rfl hb3 rfl ?_
            refine T.pickT (.plan rfl) rfl (wants0 rfl) rfl rfl hb2 rfl ?_
            refine T.move (.plan rfl) rfl (wants0 rfl) rfl rfl ?_
            refine T.bool (b := (decide (r5 = r2))) (fun hb5 => ?_) (fun hb5 => ?_)
            · replace hk2 := inv_posB hb5 hk2
              refine T.leave (.plan rfl) (wantsNot rfl rfl rfl (not_t hb5)) rfl ?_
              refine T.leave (.plan rfl) (wantsNot rfl rfl rfl (not_t hb5)) rfl ?_
              refine T.leave (.plan rfl) (wantsNot rfl rfl rfl (not_t hb5)) rfl ?_
              refine T.leave (.plan rfl) (wantsNot rfl rfl rfl (not_t hb5)) rfl ?_
              refine T.leave (.plan rfl) (wantsNot rfl rfl rfl (not_t hb5)) rfl ?_
              refine T.leave (.plan rfl) (wantsNot rfl rfl rfl (not_t hb5)) rfl ?_
              refine T.leave (.plan rfl) (wantsNot rfl rfl rfl (not_t hb5)) rfl ?_
              refine T.leave (.plan rfl) (wantsNot rfl rfl rfl (not_t hb5)) rfl ?_
              refine T.leave (.plan rfl) (wantsUndef rfl rfl rfl) rfl ?_
              refine T.leave (.plan rfl) (wantsUndef rfl rfl rfl) rfl ?_
              refine T.leave (.plan rfl) (wantsUndef rfl rfl rfl) rfl ?_
              refine T.leave (.plan rfl) (wantsUndef rfl rfl rfl) rfl ?_
              refine T.leave (.plan rfl) (wantsNot rfl rfl rfl (not_t hb5)) rfl ?_
              refine T.pickF (.plan rfl) rfl (wants0 rfl) rfl rfl (not_t hb5) rfl ?_
              refine T.assign (.plan rfl) rfl (wants0 rfl) rfl rfl ?_
              refine T.planEnd ?_
              refine T.then_normal ?_
              refine T.ret ?_
              obtain rfl := inv_some hk2
              refine T.pick [] 5 rfl rfl (Nat.le_add_left _ _) rfl ?_
              refine T.ret1 rfl rfl (fun w hS => ⟨(), rfl, hS⟩)
            · replace hk2 := inv_negB hb5 hk2
              refine T.move (.plan rfl) rfl (wants1 rfl rfl rfl (not_f hb5)) rfl rfl ?_
              refine T.move (.plan rfl) rfl (wants1 rfl rfl rfl (not_f hb5)) rfl rfl ?_
              refine T.move (.plan rfl) rfl (wants1 rfl rfl rfl (not_f hb5)) rfl rfl ?_
              obtain ⟨hc12, hk2⟩ := inv_chk hk2
              refine T.cut0 (.plan rfl) 2 rfl rfl rfl (wants1 rfl rfl rfl (not_f hb5)) rfl rfl (.inl rfl) (.inr ⟨_, _, rfl, rfl⟩) hc12.1 hc12.2 ?_
              refine T.strBf (.plan rfl) 5 rfl rfl (wants1 rfl rfl rfl (not_f hb5)) rfl rfl rfl ?_
              refine T.strRo (.plan rfl) 0 rfl rfl (wants1 rfl rfl rfl (not_f hb5)) rfl rfl rfl ?_
              refine T.strEq (.plan rfl) rfl (wants1 rfl rfl rfl (not_f hb5)) rfl (l := s2) (l' := (subl l0 0 (min ((l0.length : Int)) 10000))) rfl rfl ?_
              refine T.move (.plan rfl) rfl (wants1 rfl rfl rfl (not_f hb5)) rfl rfl ?_
              refine T.bool (b := (decide (s2 = (subl l0 0 (min ((l0.length : Int)) 10000))))) (fun hb6 => ?_) (fun hb6 => ?_)
              · replace hk2 := inv_posB hb6 hk2
                refine T.leave (.plan rfl) (wantsNot rfl rfl rfl hb6) rfl ?_
                refine T.leave (.plan rfl) (wantsNot rfl rfl rfl hb6) rfl ?_
                refine T.leave (.plan rfl) (wantsNot rfl rfl rfl hb6) rfl ?_
                refine T.leave (.plan rfl) (wantsNot rfl rfl rfl hb6) rfl ?_
                refine T.pickT (.plan rfl) rfl (wants1 rfl rfl rfl (not_f hb5)) rfl rfl hb6 rfl ?_
                refine T.pickT (.plan rfl) rfl (wants0 rfl) rfl rfl (not_f hb5) rfl ?_
                refine T.assign (.plan rfl) rfl (wants0 rfl) rfl rfl ?_
                refine T.planEnd ?_
                refine T.then_normal ?_
                refine T.ret ?_
                obtain rfl := inv_some hk2
                refine T.pick [] 6 rfl rfl (Nat.le_add_left _ _) rfl ?_
                refine T.ret1 rfl rfl (fun w hS => ⟨(), rfl, hS⟩)
              · replace hk2 := inv_negB hb6 hk2
                refine T.move (.plan rfl) rfl (wants1 rfl rfl rfl hb6) rfl rfl ?_
                refine T.move (.plan rfl) rfl (wants1 rfl rfl rfl hb6) rfl rfl ?_
                refine T.freeze 5 rfl rfl rfl ?_
                obtain ⟨r6, hg6, hk2⟩ := inv_bind hk2
                refine T.call (.plan rfl) (wants1 rfl rfl rfl hb6) rfl (run_callF (vs := [_]) rfl Try.func10 rfl (by decide) rfl) (fun w hS => wire_Sum.c hS (i0 := 5) rfl hg6) (fun x8 => ?_)
                refine T.bin (.plan rfl) rfl (wants1 rfl rfl rfl hb6) rfl rfl rfl rfl ?_
                refine T.pickF (.plan rfl) rfl (wants1 rfl rfl rfl (not_f hb5)) rfl rfl hb6 rfl ?_
                refine T.pickT (.plan rfl) rfl (wants0 rfl) rfl rfl (not_f hb5) rfl ?_
                refine T.assign (.plan rfl) rfl (wants0 rfl) rfl rfl ?_
                refine T.planEnd ?_
                refine T.then_normal ?_
                refine T.ret ?_
                obtain rfl := inv_some hk2
                refine T.pick [] 6 rfl rfl (Nat.le_add_left _ _) rfl ?_
                refine T.ret1 rfl rfl (fun w hS => ⟨(), rfl, hS⟩)
        · replace hk2 := inv_negB hb2 hk2
          refine T.leave (.plan rfl) (wantsNot rfl rfl rfl hb2) rfl ?_
          refine T.leave (.plan rfl) (wantsNot rfl rfl rfl hb2) rfl ?_
          refine T.leave (.plan rfl) (wantsNot rfl rfl rfl hb2) rfl ?_
          refine T.leave (.plan rfl) (wantsNot rfl rfl rfl hb2) rfl ?_
          refine T.leave (.plan rfl) (wantsNot rfl rfl rfl hb2) rfl ?_
          refine T.leave (.plan rfl) (wantsNot rfl rfl rfl hb2) rfl ?_
          refine T.leave (.plan rfl) (wantsNot rfl rfl rfl hb2) rfl ?_
          refine T.leave (.plan rfl) (wantsNot rfl rfl rfl hb2) rfl ?_
          refine T.leave (.plan rfl) (wantsUndef rfl rfl rfl) rfl ?_
          refine T.leave (.plan rfl) (wantsUndef rfl rfl rfl) rfl ?_
          refine T.leave (.plan rfl) (wantsUndef rfl rfl rfl) rfl ?_
          refine T.leave (.plan rfl) (wantsUndef rfl rfl rfl) rfl ?_
          refine T.leave (.plan rfl) (wantsNot rfl rfl rfl hb2) rfl ?_
          refine T.pickF (.plan rfl) rfl (wants0 rfl) rfl rfl hb2 rfl ?_
          refine T.move (.plan rfl) rfl (wants0 rfl) rfl rfl ?_
          refine T.leave (.plan rfl) (wantsNot rfl rfl rfl rfl) rfl ?_
          refine T.leave (.plan rfl) (wantsNot rfl rfl rfl rfl) rfl ?_
          refine T.leave (.plan rfl) (wantsNot rfl rfl rfl rfl) rfl ?_
          refine T.leave (.plan rfl) (wantsNot rfl rfl rfl rfl) rfl ?_
          refine T.leave (.plan rfl) (wantsNot rfl rfl rfl rfl) rfl ?_
          refine T.leave (.plan rfl) (wantsNot rfl rfl rfl rfl) rfl ?_
          refine T.leave (.plan rfl) (wantsNot rfl rfl rfl rfl) rfl ?_
          refine T.leave (.plan rfl) (wantsNot rfl rfl rfl rfl) rfl ?_
          refine T.leave (.plan rfl) (wantsUndef rfl rfl rfl) rfl ?_
          refine T.leave (.plan rfl) (wantsUndef rfl rfl rfl) rfl ?_
          refine T.leave (.plan rfl) (wantsUndef rfl rfl rfl) rfl ?_
          refine T.leave (.plan rfl) (wantsUndef rfl rfl rfl) rfl ?_
          refine T.leave (.plan rfl) (wantsNot rfl rfl rfl rfl) rfl ?_
          refine T.pickF (.plan rfl) rfl (wants0 rfl) rfl rfl rfl rfl ?_
          refine T.assign (.plan rfl) rfl (wants0 rfl) rfl rfl ?_
          refine T.planEnd ?_
          refine T.then_normal ?_
          refine T.ret ?_
          obtain rfl := inv_some hk2
          refine T.pick [] 4 rfl rfl (Nat.le_add_left _ _) rfl ?_
          refine T.ret1 rfl rfl (fun w hS => ⟨(), rfl, hS⟩)
      · refine T.seq ?_
        refine T.region ?_
        refine T.assign .list rfl (wants0 rfl) rfl rfl ?_
        refine T.nil ?_
        refine T.then_normal ?_
        refine T.block ?_
        obtain ⟨e1, hl1, hk1⟩ := inv_bind hk1
        refine T.le (EnvLe.cons rfl (EnvLe.cons rfl (EnvLe.cons rfl (EnvLe.cons rfl (EnvLe.cons rfl (EnvLe.cons rfl (EnvLe.cons rfl EnvLe.nil))))))) (T.pick [0, 1, 2, 3] 4 rfl rfl (Nat.le_add_left _ _) rfl (T.loop (s0 := (((([] : List UInt8)) ++ (subl l0 0 (min ((l0.length : Int)) 10000))), 0)) (env := fun s3 x9 => [(0, .slice A0 l0.length c0), (4, .int .u32 a4), (11, .int .i64 (min ((l0.length : Int)) 10000)), (12, .slice x2.1 s1.length x2.2), (13, .slice x9.1 s3.1.length x9.2), (14, .pointer (some ⟨b1, 0, none⟩)), (16, .int .i64 s3.2)]) (hs := fun (s3 : List UInt8 × Int) (x9 : (Option Addr × Nat)) => Ro E8 A0 c0 l0 :: Bf E8 5 x2.1 x2.2 s1 :: Bf E8 5 x9.1 x9.2 s3.1 :: Cl b1 28 ((([Int.tmod (bitsOf .and .i64 a1 1099511627775) (IntKind.i64.wrap (8 * (min ((l0.length : Int)) 10000))), Int.tmod (bitsOf .and .i64 a2 1099511627775) (IntKind.i64.wrap (8 * (min ((l0.length : Int)) 10000))), Int.tmod (bitsOf .and .i64 a3 1099511627775) (IntKind.i64.wrap (8 * (min ((l0.length : Int)) 10000)))] : List Int)).map (Value.int .i64)) :: hs) hl1 (A7, c7) (fun K1 s3 x9 o1 he1 hm1 hx1 => ?_)))
        unfold law1_WireBits.st1 at he1
        refine T.seq ?_
        refine T.seq ?_
        refine T.region ?_
        refine T.move .list rfl (wants0 rfl) rfl rfl ?_
        refine T.bin .list rfl (wants0 rfl) rfl rfl rfl rfl ?_
        refine T.nil ?_
        refine T.then_normal ?_
        refine T.cond rfl (fun hb7 => ?_) (fun hb7 => ?_)
        · replace he1 := inv_posB hb7 he1
          refine T.skip ?_
          refine T.then_normal ?_
          refine T.seqJ (fun (s4 : List UInt8) (x10 : (Option Addr × Nat)) => [(0, .slice A0 l0.length c0), (4, .int .u32 a4), (11, .int .i64 (min ((l0.length : Int)) 10000)), (12, .slice x2.1 s1.length x2.2), (13, .slice x10.1 s4.length x10.2), (14, .pointer (some ⟨b1, 0, none⟩)), (16, .int .i64 s3.2)]) (fun s4 x10 => Ro E8 A0 c0 l0 :: Bf E8 5 x2.1 x2.2 s1 :: Bf E8 5 x10.1 x10.2 s4 :: Cl b1 28 ((([Int.tmod (bitsOf .and .i64 a1 1099511627775) (IntKind.i64.wrap (8 * (min ((l0.length : Int)) 10000))), Int.tmod (bitsOf .and .i64 a2 1099511627775) (IntKind.i64.wrap (8 * (min ((l0.length : Int)) 10000))), Int.tmod (bitsOf .and .i64 a3 1099511627775) (IntKind.i64.wrap (8 * (min ((l0.length : Int)) 10000)))] : List Int)).map (Value.int .i64)) :: hs) (fun s4 => law1_WireBits.k3 s3 s4 = some o1) (fun s4 x10 hk3 => ?_) (fun J3 => ?_)
          · unfold law1_WireBits.k3 at hk3
            refine T.region ?_
            refine T.move .list rfl (wants0 rfl) rfl rfl ?_
            refine T.bin .list rfl (wants0 rfl) rfl rfl rfl rfl ?_
            refine T.assign .list rfl (wants0 rfl) rfl rfl ?_
            refine T.nil ?_
            refine T.then_normal ?_
            obtain rfl := inv_some hk3
            exact T.le (EnvLe.cons rfl (EnvLe.cons rfl (EnvLe.cons rfl (EnvLe.cons rfl (EnvLe.cons rfl (EnvLe.cons rfl (EnvLe.cons rfl EnvLe.nil))))))) (T.pick [0, 1, 2, 3] 4 rfl rfl (Nat.le_add_left _ _) rfl (hm1 _ rfl (x10.1, x10.2)))
          · refine T.block ?_
            refine T.seq ?_
            refine T.region ?_
            refine T.idxArr .list rfl (wants0 rfl) rfl rfl rfl (by decide) (by decide) ?_
            obtain ⟨hc13, he1⟩ := inv_chk he1
            refine T.ldArr .list 3 rfl rfl (wants0 rfl) rfl rfl hc13 ?_
            refine T.move .list rfl (wants0 rfl) rfl rfl ?_
            refine T.bin .list rfl (wants0 rfl) rfl rfl rfl rfl ?_
            refine T.assign .list rfl (wants0 rfl) rfl rfl ?_
            refine T.nil ?_
            refine T.then_normal ?_
            refine T.seqJ (fun (s5 : Bool) (x11 : Unit) => [(0, .slice A0 l0.length c0), (4, .int .u32 a4), (11, .int .i64 (min ((l0.length : Int)) 10000)), (12, .slice x2.1 s1.length x2.2), (13, .slice x9.1 s3.1.length x9.2), (14, .pointer (some ⟨b1, 0, none⟩)), (16, .int .i64 s3.2), (17, .int .i64 (IntKind.i64.wrap ((((([Int.tmod (bitsOf .and .i64 a1 1099511627775) (IntKind.i64.wrap (8 * (min ((l0.length : Int)) 10000))), Int.tmod (bitsOf .and .i64 a2 1099511627775) (IntKind.i64.wrap (8 * (min ((l0.length : Int)) 10000))), Int.tmod (bitsOf .and .i64 a3 1099511627775) (IntKind.i64.wrap (8 * (min ((l0.length : Int)) 10000)))] : List Int)).getD ((0 + (0 : Int).toNat * 1)) default)) + s3.2))), (94, .bool s5)]) (fun s5 x11 => Ro E8 A0 c0 l0 :: Bf E8 5 x2.1 x2.2 s1 :: Bf E8 5 x9.1 x9.2 s3.1 :: Cl b1 28 ((([Int.tmod (bitsOf .and .i64 a1 1099511627775) (IntKind.i64.wrap (8 * (min ((l0.length : Int)) 10000))), Int.tmod (bitsOf .and .i64 a2 1099511627775) (IntKind.i64.wrap (8 * (min ((l0.length : Int)) 10000))), Int.tmod (bitsOf .and .i64 a3 1099511627775) (IntKind.i64.wrap (8 * (min ((l0.length : Int)) 10000)))] : List Int)).map (Value.int .i64)) :: hs) (fun s5 => law1_WireBits.k4 a1 l0 a2 a3 s3 s5 = some o1) (fun s5 x11 hk4 => ?_) (fun J4 => ?_)
            · unfold law1_WireBits.k4 at hk4
              refine T.cond rfl (fun hb8 => ?_) (fun hb8 => ?_)
              · replace hk4 := inv_posB hb8 hk4
                refine T.region ?_
                refine T.move .list rfl (wants0 rfl) rfl rfl ?_
                refine T.move .list rfl (wants0 rfl) rfl rfl ?_
                refine T.quo .list rfl (wants0 rfl) rfl rfl rfl (by decide) ?_
                refine T.move .list rfl (wants0 rfl) rfl rfl ?_
                refine T.move .list rfl (wants0 rfl) rfl rfl ?_
                refine T.quo .list rfl (wants0 rfl) rfl rfl rfl (by decide) ?_
                obtain ⟨hc14, hk4⟩ := inv_chk hk4
                refine T.idxBf .list 2 rfl rfl (wants0 rfl) rfl rfl rfl hc14.1 hc14.2 (Nat.le_refl _) ?_
                refine T.ldBf1 .list 2 rfl rfl (wants0 rfl) rfl rfl hc14.1 hc14.2 ?_
                refine T.move .list rfl (wants0 rfl) rfl rfl ?_
                refine T.rem .list rfl (wants0 rfl) rfl rfl rfl (by decide) ?_
                refine T.conv .list rfl (wants0 rfl) rfl rfl rfl ?_
                refine T.shl .list rfl (wants0 rfl) rfl rfl rfl (wrap_nn rfl) ?_
                refine T.bin .list rfl (wants0 rfl) rfl rfl rfl rfl ?_
                obtain ⟨hc15, hk4⟩ := inv_chk hk4
                refine T.idxBf .list 2 rfl rfl (wants0 rfl) rfl rfl rfl hc15.1 hc15.2 (Nat.le_refl _) ?_
                refine T.stBf .list 2 rfl rfl (wants0 rfl) rfl rfl rfl (b8_bits _ _ _) hc15.1 hc15.2 rfl ?_
                refine T.nil ?_
                refine T.in_normal ?_
                refine T.then_normal ?_
                refine T.env1 13 rfl (slc (n' := (((s3.1).set (IntKind.i64.wrap (Int.tdiv (IntKind.i64.wrap ((((([Int.tmod (bitsOf .and .i64 a1 1099511627775) (IntKind.i64.wrap (8 * (min ((l0.length : Int)) 10000))), Int.tmod (bitsOf .and .i64 a2 1099511627775) (IntKind.i64.wrap (8 * (min ((l0.length : Int)) 10000))), Int.tmod (bitsOf .and .i64 a3 1099511627775) (IntKind.i64.wrap (8 * (min ((l0.length : Int)) 10000)))] : List Int)).getD ((0 + (0 : Int).toNat * 1)) default)) + s3.2)) 8) : Int).toNat (u8 (bitsOf .xor .u8 ((((s3.1).getD (IntKind.i64.wrap (Int.tdiv (IntKind.i64.wrap ((((([Int.tmod (bitsOf .and .i64 a1 1099511627775) (IntKind.i64.wrap (8 * (min ((l0.length : Int)) 10000))), Int.tmod (bitsOf .and .i64 a2 1099511627775) (IntKind.i64.wrap (8 * (min ((l0.length : Int)) 10000))), Int.tmod (bitsOf .and .i64 a3 1099511627775) (IntKind.i64.wrap (8 * (min ((l0.length : Int)) 10000)))] : List Int)).getD ((0 + (0 : Int).toNat * 1)) default)) + s3.2)) 8) : Int).toNat default).toNat : Int)) (shlI .u8 1 (IntKind.u64.wrap (Int.tmod (IntKind.i64.wrap ((((([Int.tmod (bitsOf .and .i64 a1 1099511627775) (IntKind.i64.wrap (8 * (min ((l0.length : Int)) 10000))), Int.tmod (bitsOf .and .i64 a2 1099511627775) (IntKind.i64.wrap (8 * (min ((l0.length : Int)) 10000))), Int.tmod (bitsOf .and .i64 a3 1099511627775) (IntKind.i64.wrap (8 * (min ((l0.length : Int)) 10000)))] : List Int)).getD ((0 + (0 : Int).toNat * 1)) default)) + s3.2)) 8))))))).length) (by simp only [List.length_set])) ?_
                exact T.le (EnvLe.cons rfl (EnvLe.cons rfl (EnvLe.cons rfl (EnvLe.cons rfl (EnvLe.cons rfl (EnvLe.cons rfl (EnvLe.cons rfl EnvLe.nil))))))) (T.pick [0, 1, 2, 3] 4 rfl rfl (Nat.le_add_left _ _) rfl (J3 ((s3.1).set (IntKind.i64.wrap (Int.tdiv (IntKind.i64.wrap ((((([Int.tmod (bitsOf .and .i64 a1 1099511627775) (IntKind.i64.wrap (8 * (min ((l0.length : Int)) 10000))), Int.tmod (bitsOf .and .i64 a2 1099511627775) (IntKind.i64.wrap (8 * (min ((l0.length : Int)) 10000))), Int.tmod (bitsOf .and .i64 a3 1099511627775) (IntKind.i64.wrap (8 * (min ((l0.length : Int)) 10000)))] : List Int)).getD ((0 + (0 : Int).toNat * 1)) default)) + s3.2)) 8) : Int).toNat (u8 (bitsOf .xor .u8 ((((s3.1).getD (IntKind.i64.wrap (Int.tdiv (IntKind.i64.wrap ((((([Int.tmod (bitsOf .and .i64 a1 1099511627775) (IntKind.i64.wrap (8 * (min ((l0.length : Int)) 10000))), Int.tmod (bitsOf .and .i64 a2 1099511627775) (IntKind.i64.wrap (8 * (min ((l0.length : Int)) 10000))), Int.tmod (bitsOf .and .i64 a3 1099511627775) (IntKind.i64.wrap (8 * (min ((l0.length : Int)) 10000)))] : List Int)).getD ((0 + (0 : Int).toNat * 1)) default)) + s3.2)) 8) : Int).toNat default).toNat : Int)) (shlI .u8 1 (IntKind.u64.wrap (Int.tmod (IntKind.i64.wrap ((((([Int.tmod (bitsOf .and .i64 a1 1099511627775) (IntKind.i64.wrap (8 * (min ((l0.length : Int)) 10000))), Int.tmod (bitsOf .and .i64 a2 1099511627775) (IntKind.i64.wrap (8 * (min ((l0.length : Int)) 10000))), Int.tmod (bitsOf .and .i64 a3 1099511627775) (IntKind.i64.wrap (8 * (min ((l0.length : Int)) 10000)))] : List Int)).getD ((0 + (0 : Int).toNat * 1)) default)) + s3.2)) 8)))))) (x9.1, x9.2) hk4))
              · replace hk4 := inv_negB hb8 hk4
                refine T.skip ?_
                refine T.in_normal ?_
                refine T.then_normal ?_
                exact T.le (EnvLe.cons rfl (EnvLe.cons rfl (EnvLe.cons rfl (EnvLe.cons rfl (EnvLe.cons rfl (EnvLe.cons rfl (EnvLe.cons rfl EnvLe.nil))))))) (T.pick [0, 1, 2, 3] 4 rfl rfl (Nat.le_add_left _ _) rfl (J3 s3.1 (x9.1, x9.2) hk4))
            · refine T.region ?_
              refine T.move .list rfl (wants0 rfl) rfl rfl ?_
              refine T.move .list rfl (wants0 rfl) rfl rfl ?_
              refine T.conv .list rfl (wants0 rfl) rfl rfl rfl ?_
              refine T.shr .list rfl (wants0 rfl) rfl rfl rfl (wrap_nn rfl) ?_
              refine T.bin .list rfl (wants0 rfl) rfl rfl rfl rfl ?_
              refine T.bin .list rfl (wants0 rfl) rfl rfl rfl rfl ?_
              refine T.move .list rfl (wants0 rfl) rfl rfl ?_
              refine T.bool (b := (decide (((bitsOf .and .u32 (shrI .u32 a4 (IntKind.u64.wrap s3.2)) 1)) = 1))) (fun hb9 => ?_) (fun hb9 => ?_)
              · replace he1 := inv_posB hb9 he1
                refine T.move .list rfl (wants1 rfl rfl rfl hb9) rfl rfl ?_
                refine T.move .list rfl (wants1 rfl rfl rfl hb9) rfl rfl ?_
                refine T.bin .list rfl (wants1 rfl rfl rfl hb9) rfl rfl rfl rfl ?_
                refine T.bin .list rfl (wants1 rfl rfl rfl hb9) rfl rfl rfl rfl ?_
                refine T.pickT .list rfl (wants0 rfl) rfl rfl hb9 rfl ?_
                refine T.nil ?_
                refine T.then_normal ?_
                exact T.le (EnvLe.cons rfl (EnvLe.cons rfl (EnvLe.cons rfl (EnvLe.cons rfl (EnvLe.cons rfl (EnvLe.cons rfl (EnvLe.cons rfl (EnvLe.cons rfl (EnvLe.cons rfl EnvLe.nil))))))))) (T.pick [0, 1, 2, 3] 4 rfl rfl (Nat.le_add_left _ _) rfl (J4 (decide (((IntKind.i64.wrap ((((([Int.tmod (bitsOf .and .i64 a1 1099511627775) (IntKind.i64.wrap (8 * (min ((l0.length : Int)) 10000))), Int.tmod (bitsOf .and .i64 a2 1099511627775) (IntKind.i64.wrap (8 * (min ((l0.length : Int)) 10000))), Int.tmod (bitsOf .and .i64 a3 1099511627775) (IntKind.i64.wrap (8 * (min ((l0.length : Int)) 10000)))] : List Int)).getD ((0 + (0 : Int).toNat * 1)) default)) + s3.2))) < (IntKind.i64.wrap (8 * (min ((l0.length : Int)) 10000))))) () he1))
              · replace he1 := inv_negB hb9 he1
                refine T.leave .list (wantsNot rfl rfl rfl hb9) rfl ?_
                refine T.leave .list (wantsNot rfl rfl rfl hb9) rfl ?_
                refine T.leave .list (wantsNot rfl rfl rfl hb9) rfl ?_
                refine T.leave .list (wantsNot rfl rfl rfl hb9) rfl ?_
                refine T.pickF .list rfl (wants0 rfl) rfl rfl hb9 rfl ?_
                refine T.nil ?_
                refine T.then_normal ?_
                exact T.le (EnvLe.cons rfl (EnvLe.cons rfl (EnvLe.cons rfl (EnvLe.cons rfl (EnvLe.cons rfl (EnvLe.cons rfl (EnvLe.cons rfl (EnvLe.cons rfl (EnvLe.cons rfl EnvLe.nil))))))))) (T.pick [0, 1, 2, 3] 4 rfl rfl (Nat.le_add_left _ _) rfl (J4 false () he1))
        · replace he1 := inv_negB hb7 he1
          refine T.exit ?_
          refine T.then_exit ?_
          refine T.then_exit ?_
          obtain rfl := inv_some he1
          obtain rfl := hx1 _ rfl
          refine T.in_hit ?_
          refine T.then_normal ?_
          exact T.le (EnvLe.cons rfl (EnvLe.cons rfl (EnvLe.cons rfl (EnvLe.cons rfl EnvLe.nil)))) (T.pick [0, 1, 2] 4 rfl rfl (Nat.le_add_left _ _) rfl (J2 s3.1 (x9.1, x9.2) hk1))
    · refine T.seq ?_
      refine T.region ?_
      refine T.assign .list rfl (wants0 rfl) rfl rfl ?_
      refine T.nil ?_
      refine T.then_normal ?_
      refine T.block ?_
      obtain ⟨e2, hl2, hr⟩ := inv_bind hr
      refine T.le (EnvLe.cons rfl (EnvLe.cons rfl (EnvLe.cons rfl (EnvLe.cons rfl (EnvLe.cons rfl (EnvLe.cons rfl (EnvLe.cons rfl EnvLe.nil))))))) (T.pick [5, 3, 1, 0] 6 rfl rfl (Nat.le_add_left _ _) rfl (T.loop (s0 := (((([] : List UInt8)) ++ (subl l0 0 (min ((l0.length : Int)) 10000))), 0)) (env := fun s6 x12 => [(0, .slice A0 l0.length c0), (4, .int .u32 a4), (11, .int .i64 (min ((l0.length : Int)) 10000)), (12, .slice x12.1 s6.1.length x12.2), (13, .slice A7 ((((([] : List UInt8)) ++ (subl l0 0 (min ((l0.length : Int)) 10000)))).length) c7), (14, .pointer (some ⟨b1, 0, none⟩)), (15, .int .i64 s6.2)]) (hs := fun (s6 : List UInt8 × Int) (x12 : (Option Addr × Nat)) => Ro E8 A0 c0 l0 :: Bf E8 5 x12.1 x12.2 s6.1 :: Bf E8 5 A7 c7 (((([] : List UInt8)) ++ (subl l0 0 (min ((l0.length : Int)) 10000)))) :: Cl b1 28 ((([Int.tmod (bitsOf .and .i64 a1 1099511627775) (IntKind.i64.wrap (8 * (min ((l0.length : Int)) 10000))), Int.tmod (bitsOf .and .i64 a2 1099511627775) (IntKind.i64.wrap (8 * (min ((l0.length : Int)) 10000))), Int.tmod (bitsOf .and .i64 a3 1099511627775) (IntKind.i64.wrap (8 * (min ((l0.length : Int)) 10000)))] : List Int)).map (Value.int .i64)) :: hs) hl2 (A6, c6) (fun K2 s6 x12 o2 he2 hm2 hx2 => ?_)))
      unfold law1_WireBits.st2 at he2
      refine T.seq ?_
      refine T.seq ?_
      refine T.region ?_
      refine T.move .list rfl (wants0 rfl) rfl rfl ?_
      refine T.bin .list rfl (wants0 rfl) rfl rfl rfl rfl ?_
      refine T.nil ?_
      refine T.then_normal ?_
      refine T.cond rfl (fun hb10 => ?_) (fun hb10 => ?_)
      · replace he2 := inv_posB hb10 he2
        refine T.skip ?_
        refine T.then_normal ?_
        refine T.seq ?_
        refine T.block ?_
        refine T.plan [(0, 0), (1, 0), (2, 0), (5, 0), (6, 0), (7, 0), (12, 0), (13, 0), (3, 1), (4, 0), (8, 1), (9, 0), (10, 0), (11, 1), (14, 1), (15, 0), (16, 0), (17, 0), (18, 0), (19, 0), (20, 2)] mixed (by kernel_rfl) (by kernel_rfl) rfl (fun d _ _ _ _ h => by cases d <;> exact h) ?_
        refine T.move (.plan rfl) rfl (wants0 rfl) rfl rfl ?_
        refine T.move (.plan rfl) rfl (wants0 rfl) rfl rfl ?_
        obtain ⟨hc16, he2⟩ := inv_chk he2
        refine T.idxArr (.plan rfl) rfl (wants0 rfl) rfl rfl rfl hc16.1 hc16.2 ?_
        refine T.move (.plan rfl) rfl (wants0 rfl) rfl rfl ?_
        refine T.move (.plan rfl) rfl (wants0 rfl) rfl rfl ?_
        obtain ⟨hc17, he2⟩ := inv_chk he2
        refine T.idxArr (.plan rfl) rfl (wants0 rfl) rfl rfl rfl hc17.1 hc17.2 ?_
        refine T.move (.plan rfl) rfl (wants0 rfl) rfl rfl ?_
        obtain ⟨hc18, he2⟩ := inv_chk he2
        refine T.idxArr (.plan rfl) rfl (wants0 rfl) rfl rfl rfl hc18.1 hc18.2 ?_
        obtain ⟨hc19, he2⟩ := inv_chk he2
        refine T.ldArr (.plan rfl) 3 rfl rfl (wants0 rfl) rfl rfl hc19 ?_
        refine T.quo (.plan rfl) rfl (wants0 rfl) rfl rfl rfl (by decide) ?_
        obtain ⟨hc20, he2⟩ := inv_chk he2
        refine T.ldArr (.plan rfl) 3 rfl rfl (wants0 rfl) rfl rfl hc20 ?_
        refine T.quo (.plan rfl) rfl (wants0 rfl) rfl rfl rfl (by decide) ?_
        obtain ⟨hc21, he2⟩ := inv_chk he2
        refine T.idxBf (.plan rfl) 1 rfl rfl (wants0 rfl) rfl rfl rfl hc21.1 hc21.2 (Nat.le_refl _) ?_
        refine T.ldBf1 (.plan rfl) 1 rfl rfl (wants0 rfl) rfl rfl hc21.1 hc21.2 ?_
        obtain ⟨hc22, he2⟩ := inv_chk he2
        refine T.ldArr (.plan rfl) 3 rfl rfl (wants0 rfl) rfl rfl hc22 ?_
        refine T.rem (.plan rfl) rfl (wants0 rfl) rfl rfl rfl (by decide) ?_
        refine T.conv (.plan rfl) rfl (wants0 rfl) rfl rfl rfl ?_
        refine T.shl (.plan rfl) rfl (wants0 rfl) rfl rfl rfl (wrap_nn rfl) ?_
        refine T.bin (.plan rfl) rfl (wants0 rfl) rfl rfl rfl rfl ?_
        obtain ⟨hc23, he2⟩ := inv_chk he2
        refine T.idxBf (.plan rfl) 1 rfl rfl (wants0 rfl) rfl rfl rfl hc23.1 hc23.2 (Nat.le_refl _) ?_
        refine T.stBf (.plan rfl) 1 rfl rfl (wants0 rfl) rfl rfl rfl (b8_bits _ _ _) hc23.1 hc23.2 rfl ?_
        refine T.planEnd ?_
        refine T.in_normal ?_
        refine T.then_normal ?_
        refine T.region ?_
        refine T.move .list rfl (wants0 rfl) rfl rfl ?_
        refine T.bin .list rfl (wants0 rfl) rfl rfl rfl rfl ?_
        refine T.assign .list rfl (wants0 rfl) rfl rfl ?_
        refine T.nil ?_
        refine T.then_normal ?_
        obtain rfl := inv_some he2
        refine T.env1 12 rfl (slc (n' := (((s6.1).set (IntKind.i64.wrap (Int.tdiv (((([Int.tmod (bitsOf .and .i64 a1 1099511627775) (IntKind.i64.wrap (8 * (min ((l0.length : Int)) 10000))), Int.tmod (bitsOf .and .i64 a2 1099511627775) (IntKind.i64.wrap (8 * (min ((l0.length : Int)) 10000))), Int.tmod (bitsOf .and .i64 a3 1099511627775) (IntKind.i64.wrap (8 * (min ((l0.length : Int)) 10000)))] : List Int)).getD ((0 + (s6.2 : Int).toNat * 1)) default)) 8) : Int).toNat (u8 (bitsOf .xor .u8 ((((s6.1).getD (IntKind.i64.wrap (Int.tdiv (((([Int.tmod (bitsOf .and .i64 a1 1099511627775) (IntKind.i64.wrap (8 * (min ((l0.length : Int)) 10000))), Int.tmod (bitsOf .and .i64 a2 1099511627775) (IntKind.i64.wrap (8 * (min ((l0.length : Int)) 10000))), Int.tmod (bitsOf .and .i64 a3 1099511627775) (IntKind.i64.wrap (8 * (min ((l0.length : Int)) 10000)))] : List Int)).getD ((0 + (s6.2 : Int).toNat * 1)) default)) 8) : Int).toNat default).toNat : Int)) (shlI .u8 1 (IntKind.u64.wrap (Int.tmod (((([Int.tmod (bitsOf .and .i64 a1 1099511627775) (IntKind.i64.wrap (8 * (min ((l0.length : Int)) 10000))), Int.tmod (bitsOf .and .i64 a2 1099511627775) (IntKind.i64.wrap (8 * (min ((l0.length : Int)) 10000))), Int.tmod (bitsOf .and .i64 a3 1099511627775) (IntKind.i64.wrap (8 * (min ((l0.length : Int)) 10000)))] : List Int)).getD ((0 + (s6.2 : Int).toNat * 1)) default)) 8))))))).length) (by simp only [List.length_set])) ?_
        exact T.le (EnvLe.cons rfl (EnvLe.cons rfl (EnvLe.cons rfl (EnvLe.cons rfl (EnvLe.cons rfl (EnvLe.cons rfl (EnvLe.cons rfl EnvLe.nil))))))) (T.pick [0, 1, 2, 3] 4 rfl rfl (Nat.le_add_left _ _) rfl (hm2 _ rfl (x12.1, x12.2)))
      · replace he2 := inv_negB hb10 he2
        refine T.exit ?_
        refine T.then_exit ?_
        refine T.then_exit ?_
        obtain rfl := inv_some he2
        obtain rfl := hx2 _ rfl
        refine T.in_hit ?_
        refine T.then_normal ?_
        exact T.le (EnvLe.cons rfl (EnvLe.cons rfl (EnvLe.cons rfl (EnvLe.cons rfl (EnvLe.cons rfl (EnvLe.cons rfl EnvLe.nil)))))) (T.pick [0, 1, 2, 3] 4 rfl rfl (Nat.le_add_left _ _) rfl (J1 s6.1 (x12.1, x12.2) hr))

noncomputable def law1_WireRow.k2 (a2 : Int) (s1 : List UInt8 × List Int) (s2 : Int) : Option Bool :=
  (law1_told.impl ).bind fun r2 => (if r2 = true then some (decide (s2 = (Int.tmod (bitsOf .and .i64 a2 1099511627775) (IntKind.i64.wrap (((s1.1.length : Int)) + 1))))) else some false)
noncomputable def law1_WireRow.k3 (s3 : Int × Int) (s4 : Int) : Option ((Int × Int) ⊕ (Bool ⊕ Int)) :=
  some (.inl (s4, IntKind.i64.wrap (s3.2 + 1)))
noncomputable def law1_WireRow.k5 (s3 : Int × Int) (r5 : List UInt8 × Int × Int) (s6 : Bool) : Option ((Int × Int) ⊕ (Bool ⊕ Int)) :=
  (if s6 = true then some (.inr (.inl false)) else law1_WireRow.k3 s3 r5.2.1)
noncomputable def law1_WireRow.k4 (s3 : Int × Int) (l1 : List (List UInt8)) (r1 : ((List UInt8) × (List UInt8))) (r3 : Int × Int × Int) (s1 : List UInt8 × List Int) (a2 : Int) (s5 : Bool) : Option ((Int × Int) ⊕ (Bool ⊕ Int)) :=
  (if s5 = true then some (.inr (.inl false)) else (if ((decide (s3.2 < ((l1.length : Int))))) = true then (wire_ReadBytes.impl r1.1 r3.2.1 50).bind fun r5 => chk (0 ≤ (IntKind.i64.wrap ((IntKind.i64.wrap (2 * s3.2)) + 1)) ∧ (IntKind.i64.wrap ((IntKind.i64.wrap (2 * s3.2)) + 1)) < (s1.2.length : Int)) ((if ((decide (((Int.tmod (bitsOf .and .i64 a2 1099511627775) (IntKind.i64.wrap (((s1.1.length : Int)) + 1)))) < (((s1.2).getD (IntKind.i64.wrap ((IntKind.i64.wrap (2 * s3.2)) + 1) : Int).toNat default))))) = true then (law1_told.impl ).bind fun r6 => (if r6 = true then some (.inr (.inl (decide (r5.2.2 = 10)))) else some (.inr (.inl false))) else (if ((decide (r5.2.2 = 0))) = true then chk (0 ≤ s3.2 ∧ s3.2 < (l1.length : Int)) (chk (0 ≤ s3.2 ∧ s3.2 < (l1.length : Int)) (chk (0 ≤ (min (((((l1).getD (s3.2 : Int).toNat default)).length : Int)) 50) ∧ (min (((((l1).getD (s3.2 : Int).toNat default)).length : Int)) 50) ≤ ((((l1).getD (s3.2 : Int).toNat default)).length : Int)) ((if ((decide (r5.1 = (subl (((l1).getD (s3.2 : Int).toNat default)) 0 (min (((((l1).getD (s3.2 : Int).toNat default)).length : Int)) 50))))) = true then chk (0 ≤ (IntKind.i64.wrap ((IntKind.i64.wrap (2 * s3.2)) + 1)) ∧ (IntKind.i64.wrap ((IntKind.i64.wrap (2 * s3.2)) + 1)) < (s1.2.length : Int)) (law1_WireRow.k5 s3 r5 (!(decide (r5.2.1 = (((s1.2).getD (IntKind.i64.wrap ((IntKind.i64.wrap (2 * s3.2)) + 1) : Int).toNat default)))))) else law1_WireRow.k5 s3 r5 true)))) else law1_WireRow.k5 s3 r5 true))) else law1_WireRow.k3 s3 r3.2.1))
noncomputable def law1_WireRow.st1 (l0 : List Int) (r1 : ((List UInt8) × (List UInt8))) (s1 : List UInt8 × List Int) (a2 : Int) (l1 : List (List UInt8)) (s3 : Int × Int) : Option ((Int × Int) ⊕ (Bool ⊕ Int)) :=
  (if ((decide (s3.2 < (min ((l0.length : Int)) 20)))) = true then (wire_ReadUint.impl r1.1 s3.1).bind fun r3 => chk (0 ≤ (IntKind.i64.wrap (2 * s3.2)) ∧ (IntKind.i64.wrap (2 * s3.2)) < (s1.2.length : Int)) ((if ((decide (((Int.tmod (bitsOf .and .i64 a2 1099511627775) (IntKind.i64.wrap (((s1.1.length : Int)) + 1)))) < (((s1.2).getD (IntKind.i64.wrap (2 * s3.2) : Int).toNat default))))) = true then (law1_told.impl ).bind fun r4 => (if r4 = true then some (.inr (.inl (decide (r3.2.2 = 10)))) else some (.inr (.inl false))) else (if ((decide (r3.2.2 = 0))) = true then chk (0 ≤ s3.2 ∧ s3.2 < (l0.length : Int)) ((if ((decide (r3.1 = (bitsOf .and .i64 (((l0).getD (s3.2 : Int).toNat default)) 9223372036854775807)))) = true then chk (0 ≤ (IntKind.i64.wrap (2 * s3.2)) ∧ (IntKind.i64.wrap (2 * s3.2)) < (s1.2.length : Int)) (law1_WireRow.k4 s3 l1 r1 r3 s1 a2 (!(decide (r3.2.1 = (((s1.2).getD (IntKind.i64.wrap (2 * s3.2) : Int).toNat default)))))) else law1_WireRow.k4 s3 l1 r1 r3 s1 a2 true)) else law1_WireRow.k4 s3 l1 r1 r3 s1 a2 true))) else some (.inr (.inr s3.1)))
noncomputable def law1_WireRow.k1 (a2 : Int) (l0 : List Int) (l1 : List (List UInt8)) (s1 : List UInt8 × List Int) : Option Bool :=
  chk (¬ (IntKind.i64.wrap (((s1.1.length : Int)) + 1)) = 0) (chk (0 ≤ (Int.tmod (bitsOf .and .i64 a2 1099511627775) (IntKind.i64.wrap (((s1.1.length : Int)) + 1))) ∧ (Int.tmod (bitsOf .and .i64 a2 1099511627775) (IntKind.i64.wrap (((s1.1.length : Int)) + 1))) ≤ (s1.1.length : Int)) ((law1_roomy.impl (subl s1.1 0 (Int.tmod (bitsOf .and .i64 a2 1099511627775) (IntKind.i64.wrap (((s1.1.length : Int)) + 1))))).bind fun r1 => (loop (law1_WireRow.st1 l0 r1 s1 a2 l1) (0, 0)).bind (fun e1 => match e1 with | .inl v => some v | .inr v => law1_WireRow.k2 a2 s1 v)))
noncomputable def law1_WireRow.k6 (s7 : List UInt8 × List Int × Int) (r7 : List UInt8) (s8 : List UInt8) : Option ((List UInt8 × List Int × Int) ⊕ (List UInt8 × List Int)) :=
  chk ((((s7.2.1 ++ (([(((s7.1 ++ r7)).length : Int)] : List Int)))).length + (([(s8.length : Int)] : List Int)).length) * 8 ≤ 140737488355328) (some (.inl (s8, (((s7.2.1 ++ (([(((s7.1 ++ r7)).length : Int)] : List Int)))) ++ (([(s8.length : Int)] : List Int))), IntKind.i64.wrap (s7.2.2 + 1))))
noncomputable def law1_WireRow.st2 (l0 : List Int) (l1 : List (List UInt8)) (s7 : List UInt8 × List Int × Int) : Option ((List UInt8 × List Int × Int) ⊕ (List UInt8 × List Int)) :=
  (if ((decide (s7.2.2 < (min ((l0.length : Int)) 20)))) = true then chk (0 ≤ s7.2.2 ∧ s7.2.2 < (l0.length : Int)) ((wire_Uint.impl (bitsOf .and .i64 (((l0).getD (s7.2.2 : Int).toNat default)) 9223372036854775807)).bind fun r7 => chk ((s7.1.length + r7.length) * 1 ≤ 140737488355328) (chk ((s7.2.1.length + (([(((s7.1 ++ r7)).length : Int)] : List Int)).length) * 8 ≤ 140737488355328) ((if ((decide (s7.2.2 < ((l1.length : Int))))) = true then chk (0 ≤ s7.2.2 ∧ s7.2.2 < (l1.length : Int)) (chk (0 ≤ s7.2.2 ∧ s7.2.2 < (l1.length : Int)) (chk (0 ≤ (min (((((l1).getD (s7.2.2 : Int).toNat default)).length : Int)) 50) ∧ (min (((((l1).getD (s7.2.2 : Int).toNat default)).length : Int)) 50) ≤ ((((l1).getD (s7.2.2 : Int).toNat default)).length : Int)) ((wire_Bytes.impl (subl (((l1).getD (s7.2.2 : Int).toNat default)) 0 (min (((((l1).getD (s7.2.2 : Int).toNat default)).length : Int)) 50))).bind fun r8 => chk ((((s7.1 ++ r7)).length + r8.length) * 1 ≤ 140737488355328) (law1_WireRow.k6 s7 r7 (((s7.1 ++ r7)) ++ r8))))) else law1_WireRow.k6 s7 r7 (s7.1 ++ r7))))) else some (.inr (s7.1, s7.2.1)))
noncomputable def law1_WireRow.impl (l0 : List Int) (l1 : List (List UInt8)) (a2 : Int) : Option Bool :=
  (loop (law1_WireRow.st2 l0 l1) (([] : List UInt8), ([] : List Int), 0)).bind (fun e2 => law1_WireRow.k1 a2 l0 l1 e2)
set_option maxRecDepth 100000 in
set_option maxHeartbeats 1000000 in
theorem law1_WireRow.c {B : World} {hs : List MP} {w : World} {i0 c0 : Nat} {A0 : Option Addr} {l0 : List Int} {i1 c1 : Nat} {A1 : Option Addr} {l1 : List (List UInt8)} {a2 : Int} (hS : St B (hs) w) (h0 : (hs)[i0]? = some (Ro E64 A0 c0 l0)) (h1 : (hs)[i1]? = some (Ro (Elt.slice E8) A1 c1 l1)) {r : Bool} (hr : law1_WireRow.impl l0 l1 a2 = some r) :
    Calls Try.prog 7 #[.slice A0 l0.length c0, .slice A1 l1.length c1, .int .i64 a2] w fun e w' => ∃ x : Unit, e = .returned (.bool r) ∧ St B (hs) w' := by
  unfold law1_WireRow.impl at hr
  refine calls_T Try.func7 rfl rfl rfl hS ?_
  refine T.front i0 h0 ?_
  refine T.front (i1 + 1) h1 ?_
  refine T.seq ?_
  refine T.region ?_
  refine T.assign .list rfl (wants0 rfl) rfl rfl ?_
  refine T.nil ?_
  refine T.then_normal ?_
  refine T.seq ?_
  refine T.region ?_
  refine T.assign .list rfl (wants0 rfl) rfl rfl ?_
  refine T.nil ?_
  refine T.then_normal ?_
  refine T.seq ?_
  refine T.region ?_
  refine T.assign .list rfl (wants0 rfl) rfl rfl ?_
  refine T.nil ?_
  refine T.then_normal ?_
  refine T.seq ?_
  refine T.region ?_
  refine T.move .list rfl (wants0 rfl) rfl rfl ?_
  refine T.lenSlice .list rfl (wants0 rfl) rfl rfl ?_
  refine T.min2 .list rfl (wants0 rfl) rfl rfl rfl ?_
  refine T.assign .list rfl (wants0 rfl) rfl rfl ?_
  refine T.nil ?_
  refine T.then_normal ?_
  refine T.seqJ (fun (s1 : List UInt8 × List Int) (x1 : (Option Addr × Nat) × (Option Addr × Nat)) => [(0, .slice A0 l0.length c0), (1, .slice A1 l1.length c1), (2, .int .i64 a2), (7, .slice x1.1.1 s1.1.length x1.1.2), (8, .slice x1.2.1 s1.2.length x1.2.2), (9, .int .i64 (min ((l0.length : Int)) 20))]) (fun s1 x1 => Ro E64 A0 c0 l0 :: Ro (Elt.slice E8) A1 c1 l1 :: Bf E8 5 x1.1.1 x1.1.2 s1.1 :: Bf E64 3 x1.2.1 x1.2.2 s1.2 :: hs) (fun s1 => law1_WireRow.k1 a2 l0 l1 s1 = some r) (fun s1 x1 hk1 => ?_) (fun J1 => ?_)
  · unfold law1_WireRow.k1 at hk1
    refine T.seq ?_
    refine T.region ?_
    refine T.move .list rfl (wants0 rfl) rfl rfl ?_
    refine T.bin .list rfl (wants0 rfl) rfl rfl rfl rfl ?_
    refine T.move .list rfl (wants0 rfl) rfl rfl ?_
    refine T.lenSlice .list rfl (wants0 rfl) rfl rfl ?_
    refine T.bin .list rfl (wants0 rfl) rfl rfl rfl rfl ?_
    obtain ⟨hc1, hk1⟩ := inv_chk hk1
    refine T.rem .list rfl (wants0 rfl) rfl rfl rfl hc1 ?_
    refine T.assign .list rfl (wants0 rfl) rfl rfl ?_
    refine T.nil ?_
    refine T.then_normal ?_
    refine T.seq ?_
    refine T.region ?_
    refine T.move .list rfl (wants0 rfl) rfl rfl ?_
    refine T.move .list rfl (wants0 rfl) rfl rfl ?_
    refine T.freeze 2 rfl rfl rfl ?_
    obtain ⟨hc2, hk1⟩ := inv_chk hk1
    refine T.cut0 .list 2 rfl rfl rfl (wants0 rfl) rfl rfl (.inl rfl) (.inr ⟨_, _, rfl, rfl⟩) hc2.1 hc2.2 ?_
    obtain ⟨r1, hg1, hk1⟩ := inv_bind hk1
    refine T.call .list (wants0 rfl) rfl (run_callF (vs := [_]) rfl Try.func8 rfl (by decide) rfl) (fun w hS => law1_roomy.c hS (i0 := 0) rfl hg1) (fun x2 => ?_)
    refine T.assign .list rfl (wants0 rfl) rfl rfl ?_
    refine T.nil ?_
    refine T.then_normal ?_
    refine T.seq ?_
    refine T.region ?_
    refine T.assign .list rfl (wants0 rfl) rfl rfl ?_
    refine T.nil ?_
    refine T.then_normal ?_
    refine T.seqJ (fun (s2 : Int) (x3 : Unit) => [(2, .int .i64 (Int.tmod (bitsOf .and .i64 a2 1099511627775) (IntKind.i64.wrap (((s1.1.length : Int)) + 1)))), (12, .int .i64 s2)]) (fun s2 x3 => hs) (fun s2 => law1_WireRow.k2 a2 s1 s2 = some r) (fun s2 x3 hk2 => ?_) (fun J2 => ?_)
    · unfold law1_WireRow.k2 at hk2
      refine T.seq ?_
      refine T.region ?_
      obtain ⟨r2, hg2, hk2⟩ := inv_bind hk2
      refine T.call .list (wants0 rfl) rfl (run_callF (vs := []) rfl Try.func9 rfl (by decide) rfl) (fun w hS => law1_told.c hS  hg2) (fun x4 => ?_)
      refine T.move .list rfl (wants0 rfl) rfl rfl ?_
      refine T.bool (b := r2) (fun hb1 => ?_) (fun hb1 => ?_)
      · replace hk2 := inv_posB hb1 hk2
        refine T.move .list rfl (wants1 rfl rfl rfl hb1) rfl rfl ?_
        refine T.move .list rfl (wants1 rfl rfl rfl hb1) rfl rfl ?_
        refine T.bin .list rfl (wants1 rfl rfl rfl hb1) rfl rfl rfl rfl ?_
        refine T.pickT .list rfl (wants0 rfl) rfl rfl hb1 rfl ?_
        refine T.assign .list rfl (wants0 rfl) rfl rfl ?_
        refine T.nil ?_
        refine T.then_normal ?_
        refine T.ret ?_
        obtain rfl := inv_some hk2
        refine T.pick [] 0 rfl rfl (Nat.le_add_left _ _) rfl ?_
        refine T.ret1 rfl rfl (fun w hS => ⟨(), rfl, hS⟩)
      · replace hk2 := inv_negB hb1 hk2
        refine T.leave .list (wantsNot rfl rfl rfl hb1) rfl ?_
        refine T.leave .list (wantsNot rfl rfl rfl hb1) rfl ?_
        refine T.leave .list (wantsNot rfl rfl rfl hb1) rfl ?_
        refine T.pickF .list rfl (wants0 rfl) rfl rfl hb1 rfl ?_
        refine T.assign .list rfl (wants0 rfl) rfl rfl ?_
        refine T.nil ?_
        refine T.then_normal ?_
        refine T.ret ?_
        obtain rfl := inv_some hk2
        refine T.pick [] 0 rfl rfl (Nat.le_add_left _ _) rfl ?_
        refine T.ret1 rfl rfl (fun w hS => ⟨(), rfl, hS⟩)
    · refine T.seq ?_
      refine T.region ?_
      refine T.assign .list rfl (wants0 rfl) rfl rfl ?_
      refine T.nil ?_
      refine T.then_normal ?_
      refine T.block ?_
      obtain ⟨e1, hl1, hk1⟩ := inv_bind hk1
      refine T.le (EnvLe.cons rfl (EnvLe.cons rfl (EnvLe.cons rfl (EnvLe.cons rfl (EnvLe.cons rfl (EnvLe.cons rfl (EnvLe.cons rfl (EnvLe.cons rfl EnvLe.nil)))))))) (T.pick [3, 4, 6, 0] 7 rfl rfl (Nat.le_add_left _ _) rfl (T.loop (s0 := (0, 0)) (env := fun s3 x5 => [(0, .slice A0 l0.length c0), (1, .slice A1 l1.length c1), (2, .int .i64 (Int.tmod (bitsOf .and .i64 a2 1099511627775) (IntKind.i64.wrap (((s1.1.length : Int)) + 1)))), (8, .slice x1.2.1 s1.2.length x1.2.2), (9, .int .i64 (min ((l0.length : Int)) 20)), (11, .slice x2.1 r1.1.length x2.2), (12, .int .i64 s3.1), (13, .int .i64 s3.2)]) (hs := fun (s3 : Int × Int) (x5 : Unit) => Ro E64 A0 c0 l0 :: Ro (Elt.slice E8) A1 c1 l1 :: Bf E64 3 x1.2.1 x1.2.2 s1.2 :: Ro E8 x2.1 x2.2 r1.1 :: hs) hl1 () (fun K1 s3 x5 o1 he1 hm1 hx1 => ?_)))
      unfold law1_WireRow.st1 at he1
      refine T.seq ?_
      refine T.seq ?_
      refine T.region ?_
      refine T.move .list rfl (wants0 rfl) rfl rfl ?_
      refine T.move .list rfl (wants0 rfl) rfl rfl ?_
      refine T.bin .list rfl (wants0 rfl) rfl rfl rfl rfl ?_
      refine T.nil ?_
      refine T.then_normal ?_
      refine T.cond rfl (fun hb2 => ?_) (fun hb2 => ?_)
      · replace he1 := inv_posB hb2 he1
        refine T.skip ?_
        refine T.then_normal ?_
        refine T.seqJ (fun (s4 : Int) (x6 : Unit) => [(0, .slice A0 l0.length c0), (1, .slice A1 l1.length c1), (2, .int .i64 (Int.tmod (bitsOf .and .i64 a2 1099511627775) (IntKind.i64.wrap (((s1.1.length : Int)) + 1)))), (8, .slice x1.2.1 s1.2.length x1.2.2), (9, .int .i64 (min ((l0.length : Int)) 20)), (11, .slice x2.1 r1.1.length x2.2), (12, .int .i64 s4), (13, .int .i64 s3.2)]) (fun s4 x6 => Ro E64 A0 c0 l0 :: Ro (Elt.slice E8) A1 c1 l1 :: Bf E64 3 x1.2.1 x1.2.2 s1.2 :: Ro E8 x2.1 x2.2 r1.1 :: hs) (fun s4 => law1_WireRow.k3 s3 s4 = some o1) (fun s4 x6 hk3 => ?_) (fun J3 => ?_)
        · unfold law1_WireRow.k3 at hk3
          refine T.region ?_
          refine T.move .list rfl (wants0 rfl) rfl rfl ?_
          refine T.bin .list rfl (wants0 rfl) rfl rfl rfl rfl ?_
          refine T.assign .list rfl (wants0 rfl) rfl rfl ?_
          refine T.nil ?_
          refine T.then_normal ?_
          obtain rfl := inv_some hk3
          exact T.le (EnvLe.cons rfl (EnvLe.cons rfl (EnvLe.cons rfl (EnvLe.cons rfl (EnvLe.cons rfl (EnvLe.cons rfl (EnvLe.cons rfl (EnvLe.cons rfl EnvLe.nil)))))))) (T.pick [0, 1, 2, 3] 4 rfl rfl (Nat.le_add_left _ _) rfl (hm1 _ rfl ()))
        · refine T.block ?_
          refine T.seq ?_
          refine T.region ?_
          refine T.move .list rfl (wants0 rfl) rfl rfl ?_
          refine T.move .list rfl (wants0 rfl) rfl rfl ?_
          obtain ⟨r3, hg3, he1⟩ := inv_bind he1
          refine T.call .list (wants0 rfl) rfl (run_callF (vs := [_, _]) rfl Try.func12 rfl (by decide) rfl) (fun w hS => wire_ReadUint.c hS (i0 := 3) rfl hg3) (fun x7 => ?_)
          refine T.move .list rfl (wants0 rfl) rfl rfl ?_
          refine T.extract .list rfl (wants0 rfl) rfl rfl rfl ?_
          refine T.extract .list rfl (wants0 rfl) rfl rfl rfl ?_
          refine T.extract .list rfl (wants0 rfl) rfl rfl rfl ?_
          refine T.assign .list rfl (wants0 rfl) rfl rfl ?_
          refine T.assign .list rfl (wants0 rfl) rfl rfl ?_
          refine T.assign .list rfl (wants0 rfl) rfl rfl ?_
          refine T.nil ?_
          refine T.then_normal ?_
          refine T.seq ?_
          refine T.seq ?_
          refine T.region ?_
          refine T.move .list rfl (wants0 rfl) rfl rfl ?_
          refine T.move .list rfl (wants0 rfl) rfl rfl ?_
          refine T.bin .list rfl (wants0 rfl) rfl rfl rfl rfl ?_
          obtain ⟨hc3, he1⟩ := inv_chk he1
          refine T.idxBf .list 2 rfl rfl (wants0 rfl) rfl rfl rfl hc3.1 hc3.2 (Nat.le_refl _) ?_
          refine T.ldBf1 .list 2 rfl rfl (wants0 rfl) rfl rfl hc3.1 hc3.2 ?_
          refine T.move .list rfl (wants0 rfl) rfl rfl ?_
          refine T.bin .list rfl (wants0 rfl) rfl rfl rfl rfl ?_
          refine T.nil ?_
          refine T.then_normal ?_
          refine T.cond rfl (fun hb3 => ?_) (fun hb3 => ?_)
          · replace he1 := inv_posB hb3 he1
            refine T.seq ?_
            refine T.region ?_
            obtain ⟨r4, hg4, he1⟩ := inv_bind he1
            refine T.call .list (wants0 rfl) rfl (run_callF (vs := []) rfl Try.func9 rfl (by decide) rfl) (fun w hS => law1_told.c hS  hg4) (fun x8 => ?_)
            refine T.move .list rfl (wants0 rfl) rfl rfl ?_
            refine T.bool (b := r4) (fun hb4 => ?_) (fun hb4 => ?_)
            · replace he1 := inv_posB hb4 he1
              refine T.move .list rfl (wants1 rfl rfl rfl hb4) rfl rfl ?_
              refine T.bin .list rfl (wants1 rfl rfl rfl hb4) rfl rfl rfl rfl ?_
              refine T.pickT .list rfl (wants0 rfl) rfl rfl hb4 rfl ?_
              refine T.assign .list rfl (wants0 rfl) rfl rfl ?_
              refine T.nil ?_
              refine T.then_normal ?_
              refine T.ret ?_
              refine T.then_ret ?_
              refine T.in_ret ?_
              refine T.then_ret ?_
              refine T.then_ret ?_
              obtain rfl := inv_some he1
              obtain rfl := hx1 _ rfl
              refine T.in_ret ?_
              refine T.then_ret ?_
              obtain rfl := inv_some hk1
              refine T.pick [] 4 rfl rfl (Nat.le_add_left _ _) rfl ?_
              refine T.ret1 rfl rfl (fun w hS => ⟨(), rfl, hS⟩)
            · replace he1 := inv_negB hb4 he1
              refine T.leave .list (wantsNot rfl rfl rfl hb4) rfl ?_
              refine T.leave .list (wantsNot rfl rfl rfl hb4) rfl ?_
              refine T.pickF .list rfl (wants0 rfl) rfl rfl hb4 rfl ?_
              refine T.assign .list rfl (wants0 rfl) rfl rfl ?_
              refine T.nil ?_
              refine T.then_normal ?_
              refine T.ret ?_
              refine T.then_ret ?_
              refine T.in_ret ?_
              refine T.then_ret ?_
              refine T.then_ret ?_
              obtain rfl := inv_some he1
              obtain rfl := hx1 _ rfl
              refine T.in_ret ?_
              refine T.then_ret ?_
              obtain rfl := inv_some hk1
              refine T.pick [] 4 rfl rfl (Nat.le_add_left _ _) rfl ?_
              refine T.ret1 rfl rfl (fun w hS => ⟨(), rfl, hS⟩)
          · replace he1 := inv_negB hb3 he1
            refine T.skip ?_
            refine T.then_normal ?_
            refine T.seq ?_
            refine T.seqJ (fun (s5 : Bool) (x9 : Unit) => [(0, .slice A0 l0.length c0), (1, .slice A1 l1.length c1), (2, .int .i64 (Int.tmod (bitsOf .and .i64 a2 1099511627775) (IntKind.i64.wrap (((s1.1.length : Int)) + 1)))), (8, .slice x1.2.1 s1.2.length x1.2.2), (9, .int .i64 (min ((l0.length : Int)) 20)), (11, .slice x2.1 r1.1.length x2.2), (13, .int .i64 s3.2), (15, .int .i64 r3.2.1), (117, .bool s5)]) (fun s5 x9 => Ro E64 A0 c0 l0 :: Ro (Elt.slice E8) A1 c1 l1 :: Bf E64 3 x1.2.1 x1.2.2 s1.2 :: Ro E8 x2.1 x2.2 r1.1 :: hs) (fun s5 => law1_WireRow.k4 s3 l1 r1 r3 s1 a2 s5 = some o1) (fun s5 x9 hk4 => ?_) (fun J4 => ?_)
            · unfold law1_WireRow.k4 at hk4
              refine T.cond rfl (fun hb5 => ?_) (fun hb5 => ?_)
              · replace hk4 := inv_posB hb5 hk4
                refine T.seq ?_
                refine T.region ?_
                refine T.assign .list rfl (wants0 rfl) rfl rfl ?_
                refine T.nil ?_
                refine T.then_normal ?_
                refine T.ret ?_
                refine T.then_ret ?_
                refine T.in_ret ?_
                refine T.then_ret ?_
                refine T.then_ret ?_
                obtain rfl := inv_some hk4
                obtain rfl := hx1 _ rfl
                refine T.in_ret ?_
                refine T.then_ret ?_
                obtain rfl := inv_some hk1
                refine T.pick [] 4 rfl rfl (Nat.le_add_left _ _) rfl ?_
                refine T.ret1 rfl rfl (fun w hS => ⟨(), rfl, hS⟩)
              · replace hk4 := inv_negB hb5 hk4
                refine T.skip ?_
                refine T.then_normal ?_
                refine T.seq ?_
                refine T.region ?_
                refine T.move .list rfl (wants0 rfl) rfl rfl ?_
                refine T.assign .list rfl (wants0 rfl) rfl rfl ?_
                refine T.nil ?_
                refine T.then_normal ?_
                refine T.seq ?_
                refine T.region ?_
                refine T.move .list rfl (wants0 rfl) rfl rfl ?_
                refine T.move .list rfl (wants0 rfl) rfl rfl ?_
                refine T.lenSlice .list rfl (wants0 rfl) rfl rfl ?_
                refine T.bin .list rfl (wants0 rfl) rfl rfl rfl rfl ?_
                refine T.nil ?_
                refine T.then_normal ?_
                refine T.cond rfl (fun hb6 => ?_) (fun hb6 => ?_)
                · replace hk4 := inv_posB hb6 hk4
                  refine T.seq ?_
                  refine T.region ?_
                  refine T.move .list rfl (wants0 rfl) rfl rfl ?_
                  refine T.move .list rfl (wants0 rfl) rfl rfl ?_
                  obtain ⟨r5, hg5, hk4⟩ := inv_bind hk4
                  refine T.call .list (wants0 rfl) rfl (run_callF (vs := [_, _, _]) rfl Try.func15 rfl (by decide) rfl) (fun w hS => wire_ReadBytes.c hS (i0 := 3) rfl hg5) (fun x10 => ?_)
                  refine T.move .list rfl (wants0 rfl) rfl rfl ?_
                  refine T.extract .list rfl (wants0 rfl) rfl rfl rfl ?_
                  refine T.extract .list rfl (wants0 rfl) rfl rfl rfl ?_
                  refine T.extract .list rfl (wants0 rfl) rfl rfl rfl ?_
                  refine T.assign .list rfl (wants0 rfl) rfl rfl ?_
                  refine T.assign .list rfl (wants0 rfl) rfl rfl ?_
                  refine T.assign .list rfl (wants0 rfl) rfl rfl ?_
                  refine T.nil ?_
                  refine T.then_normal ?_
                  refine T.seq ?_
                  refine T.seq ?_
                  refine T.region ?_
                  refine T.move .list rfl (wants0 rfl) rfl rfl ?_
                  refine T.move .list rfl (wants0 rfl) rfl rfl ?_
                  refine T.bin .list rfl (wants0 rfl) rfl rfl rfl rfl ?_
                  refine T.bin .list rfl (wants0 rfl) rfl rfl rfl rfl ?_
                  obtain ⟨hc4, hk4⟩ := inv_chk hk4
                  refine T.idxBf .list 3 rfl rfl (wants0 rfl) rfl rfl rfl hc4.1 hc4.2 (Nat.le_refl _) ?_
                  refine T.ldBf1 .list 3 rfl rfl (wants0 rfl) rfl rfl hc4.1 hc4.2 ?_
                  refine T.move .list rfl (wants0 rfl) rfl rfl ?_
                  refine T.bin .list rfl (wants0 rfl) rfl rfl rfl rfl ?_
                  refine T.nil ?_
                  refine T.then_normal ?_
                  refine T.cond rfl (fun hb7 => ?_) (fun hb7 => ?_)
                  · replace hk4 := inv_posB hb7 hk4
                    refine T.seq ?_
                    refine T.region ?_
                    obtain ⟨r6, hg6, hk4⟩ := inv_bind hk4
                    refine T.call .list (wants0 rfl) rfl (run_callF (vs := []) rfl Try.func9 rfl (by decide) rfl) (fun w hS => law1_told.c hS  hg6) (fun x11 => ?_)
                    refine T.move .list rfl (wants0 rfl) rfl rfl ?_
                    refine T.bool (b := r6) (fun hb8 => ?_) (fun hb8 => ?_)
                    · replace hk4 := inv_posB hb8 hk4
                      refine T.move .list rfl (wants1 rfl rfl rfl hb8) rfl rfl ?_
                      refine T.bin .list rfl (wants1 rfl rfl rfl hb8) rfl rfl rfl rfl ?_
                      refine T.pickT .list rfl (wants0 rfl) rfl rfl hb8 rfl ?_
                      refine T.assign .list rfl (wants0 rfl) rfl rfl ?_
                      refine T.nil ?_
                      refine T.then_normal ?_
                      refine T.ret ?_
                      refine T.then_ret ?_
                      refine T.in_ret ?_
                      refine T.then_ret ?_
                      refine T.then_ret ?_
                      obtain rfl := inv_some hk4
                      obtain rfl := hx1 _ rfl
                      refine T.in_ret ?_
                      refine T.then_ret ?_
                      obtain rfl := inv_some hk1
                      refine T.pick [] 5 rfl rfl (Nat.le_add_left _ _) rfl ?_
                      refine T.ret1 rfl rfl (fun w hS => ⟨(), rfl, hS⟩)
                    · replace hk4 := inv_negB hb8 hk4
                      refine T.leave .list (wantsNot rfl rfl rfl hb8) rfl ?_
                      refine T.leave .list (wantsNot rfl rfl rfl hb8) rfl ?_
                      refine T.pickF .list rfl (wants0 rfl) rfl rfl hb8 rfl ?_
                      refine T.assign .list rfl (wants0 rfl) rfl rfl ?_
                      refine T.nil ?_
                      refine T.then_normal ?_
                      refine T.ret ?_
                      refine T.then_ret ?_
                      refine T.in_ret ?_
                      refine T.then_ret ?_
                      refine T.then_ret ?_
                      obtain rfl := inv_some hk4
                      obtain rfl := hx1 _ rfl
                      refine T.in_ret ?_
                      refine T.then_ret ?_
                      obtain rfl := inv_some hk1
                      refine T.pick [] 5 rfl rfl (Nat.le_add_left _ _) rfl ?_
                      refine T.ret1 rfl rfl (fun w hS => ⟨(), rfl, hS⟩)
                  · replace hk4 := inv_negB hb7 hk4
                    refine T.skip ?_
                    refine T.then_normal ?_
                    refine T.seq ?_
                    refine T.seqJ (fun (s6 : Bool) (x12 : Unit) => [(0, .slice A0 l0.length c0), (1, .slice A1 l1.length c1), (2, .int .i64 (Int.tmod (bitsOf .and .i64 a2 1099511627775) (IntKind.i64.wrap (((s1.1.length : Int)) + 1)))), (8, .slice x1.2.1 s1.2.length x1.2.2), (9, .int .i64 (min ((l0.length : Int)) 20)), (11, .slice x2.1 r1.1.length x2.2), (13, .int .i64 s3.2), (18, .int .i64 r5.2.1), (171, .bool s6)]) (fun s6 x12 => Ro E64 A0 c0 l0 :: Ro (Elt.slice E8) A1 c1 l1 :: Bf E64 3 x1.2.1 x1.2.2 s1.2 :: Ro E8 x2.1 x2.2 r1.1 :: hs) (fun s6 => law1_WireRow.k5 s3 r5 s6 = some o1) (fun s6 x12 hk5 => ?_) (fun J5 => ?_)
                    · unfold law1_WireRow.k5 at hk5
                      refine T.cond rfl (fun hb9 => ?_) (fun hb9 => ?_)
                      · replace hk5 := inv_posB hb9 hk5
                        refine T.seq ?_
                        refine T.region ?_
                        refine T.assign .list rfl (wants0 rfl) rfl rfl ?_
                        refine T.nil ?_
                        refine T.then_normal ?_
                        refine T.ret ?_
                        refine T.then_ret ?_
                        refine T.in_ret ?_
                        refine T.then_ret ?_
                        refine T.then_ret ?_
                        obtain rfl := inv_some hk5
                        obtain rfl := hx1 _ rfl
                        refine T.in_ret ?_
                        refine T.then_ret ?_
                        obtain rfl := inv_some hk1
                        refine T.pick [] 4 rfl rfl (Nat.le_add_left _ _) rfl ?_
                        refine T.ret1 rfl rfl (fun w hS => ⟨(), rfl, hS⟩)
                      · replace hk5 := inv_negB hb9 hk5
                        refine T.skip ?_
                        refine T.then_normal ?_
                        refine T.region ?_
                        refine T.move .list rfl (wants0 rfl) rfl rfl ?_
                        refine T.assign .list rfl (wants0 rfl) rfl rfl ?_
                        refine T.nil ?_
                        refine T.in_normal ?_
                        refine T.then_normal ?_
                        exact T.le (EnvLe.cons rfl (EnvLe.cons rfl (EnvLe.cons rfl (EnvLe.cons rfl (EnvLe.cons rfl (EnvLe.cons rfl (EnvLe.cons rfl (EnvLe.cons rfl EnvLe.nil)))))))) (T.pick [0, 1, 2, 3] 4 rfl rfl (Nat.le_add_left _ _) rfl (J3 r5.2.1 () hk5))
                    · refine T.plan [(0, 0), (1, 0), (2, 0), (3, 0), (5, 0), (6, 0), (7, 0), (9, 0), (10, 0), (11, 0), (4, 1), (8, 1), (12, 1), (13, 0), (14, 0), (15, 0), (16, 1), (17, 0), (18, 0), (19, 0), (20, 0), (21, 0), (22, 0), (23, 0), (24, 0), (25, 0), (26, 1), (27, 0), (28, 0)] mixed (by kernel_rfl) (by kernel_rfl) rfl (fun d _ _ _ _ h => by cases d <;> exact h) ?_
                      refine T.move (.plan rfl) rfl (wants0 rfl) rfl rfl ?_
                      refine T.bin (.plan rfl) rfl (wants0 rfl) rfl rfl rfl rfl ?_
                      refine T.move (.plan rfl) rfl (wants0 rfl) rfl rfl ?_
                      refine T.bool (b := (decide (r5.2.2 = 0))) (fun hb10 => ?_) (fun hb10 => ?_)
                      · replace hk4 := inv_posB hb10 hk4
                        refine T.move (.plan rfl) rfl (wants1 rfl rfl rfl (not_t hb10)) rfl rfl ?_
                        refine T.move (.plan rfl) rfl (wants1 rfl rfl rfl (not_t hb10)) rfl rfl ?_
                        refine T.move (.plan rfl) rfl (wants1 rfl rfl rfl (not_t hb10)) rfl rfl ?_
                        obtain ⟨hc5, hk4⟩ := inv_chk hk4
                        refine T.idxRo (.plan rfl) 2 rfl rfl (wants1 rfl rfl rfl (not_t hb10)) rfl rfl rfl hc5.1 hc5.2 (Nat.le_refl _) ?_
                        refine T.move (.plan rfl) rfl (wants1 rfl rfl rfl (not_t hb10)) rfl rfl ?_
                        refine T.move (.plan rfl) rfl (wants1 rfl rfl rfl (not_t hb10)) rfl rfl ?_
                        obtain ⟨hc6, hk4⟩ := inv_chk hk4
                        refine T.idxRo (.plan rfl) 2 rfl rfl (wants1 rfl rfl rfl (not_t hb10)) rfl rfl rfl hc6.1 hc6.2 (Nat.le_refl _) ?_
                        refine T.strBf (.plan rfl) 0 rfl rfl (wants1 rfl rfl rfl (not_t hb10)) rfl rfl rfl ?_
                        refine T.ldSlice (.plan rfl) 2 rfl rfl (wants1 rfl rfl rfl (not_t hb10)) rfl rfl hc5.1 hc5.2 (fun x13 => ?_)
                        refine T.ldSlice (.plan rfl) 3 rfl rfl (wants1 rfl rfl rfl (not_t hb10)) rfl rfl hc6.1 hc6.2 (fun x14 => ?_)
                        refine T.lenSlice (.plan rfl) rfl (wants1 rfl rfl rfl (not_t hb10)) rfl rfl ?_
                        refine T.min2 (.plan rfl) rfl (wants1 rfl rfl rfl (not_t hb10)) rfl rfl rfl ?_
                        obtain ⟨hc7, hk4⟩ := inv_chk hk4
                        refine T.cut0 (.plan rfl) 1 rfl rfl rfl (wants1 rfl rfl rfl (not_t hb10)) rfl rfl (.inl rfl) (.inr ⟨_, _, rfl, rfl⟩) hc7.1 hc7.2 ?_
                        refine T.strRo (.plan rfl) 0 rfl rfl (wants1 rfl rfl rfl (not_t hb10)) rfl rfl rfl ?_
                        refine T.strNe (.plan rfl) rfl (wants1 rfl rfl rfl (not_t hb10)) rfl (l := r5.1) (l' := (subl (((l1).getD (s3.2 : Int).toNat default)) 0 (min (((((l1).getD (s3.2 : Int).toNat default)).length : Int)) 50))) rfl rfl ?_
                        refine T.pickF (.plan rfl) rfl (wants0 rfl) rfl rfl (not_t hb10) rfl ?_
                        refine T.move (.plan rfl) rfl (wants0 rfl) rfl rfl ?_
                        refine T.bool (b := (decide (r5.1 = (subl (((l1).getD (s3.2 : Int).toNat default)) 0 (min (((((l1).getD (s3.2 : Int).toNat default)).length : Int)) 50))))) (fun hb11 => ?_) (fun hb11 => ?_)
                        · replace hk4 := inv_posB hb11 hk4
                          refine T.move (.plan rfl) rfl (wants1 rfl rfl rfl (not_t hb11)) rfl rfl ?_
                          refine T.move (.plan rfl) rfl (wants1 rfl rfl rfl (not_t hb11)) rfl rfl ?_
                          refine T.move (.plan rfl) rfl (wants1 rfl rfl rfl (not_t hb11)) rfl rfl ?_
                          refine T.bin (.plan rfl) rfl (wants1 rfl rfl rfl (not_t hb11)) rfl rfl rfl rfl ?_
                          refine T.bin (.plan rfl) rfl (wants1 rfl rfl rfl (not_t hb11)) rfl rfl rfl rfl ?_
                          obtain ⟨hc8, hk4⟩ := inv_chk hk4
                          refine T.idxBf (.plan rfl) 6 rfl rfl (wants1 rfl rfl rfl (not_t hb11)) rfl rfl rfl hc8.1 hc8.2 (Nat.le_refl _) ?_
                          refine T.ldBf1 (.plan rfl) 6 rfl rfl (wants1 rfl rfl rfl (not_t hb11)) rfl rfl hc8.1 hc8.2 ?_
                          refine T.bin (.plan rfl) rfl (wants1 rfl rfl rfl (not_t hb11)) rfl rfl rfl rfl ?_
                          refine T.pickF (.plan rfl) rfl (wants0 rfl) rfl rfl (not_t hb11) rfl ?_
                          refine T.planEnd ?_
                          refine T.then_normal ?_
                          exact T.le (EnvLe.cons rfl (EnvLe.cons rfl (EnvLe.cons rfl (EnvLe.cons rfl (EnvLe.cons rfl (EnvLe.cons rfl (EnvLe.cons rfl (EnvLe.cons rfl (EnvLe.cons rfl EnvLe.nil))))))))) (T.pick [4, 5, 6, 7] 8 rfl rfl (Nat.le_add_left _ _) rfl (J5 (!(decide (r5.2.1 = (((s1.2).getD (IntKind.i64.wrap ((IntKind.i64.wrap (2 * s3.2)) + 1) : Int).toNat default))))) () hk4))
                        · replace hk4 := inv_negB hb11 hk4
                          refine T.leave (.plan rfl) (wantsNot rfl rfl rfl (not_f hb11)) rfl ?_
                          refine T.leave (.plan rfl) (wantsNot rfl rfl rfl (not_f hb11)) rfl ?_
                          refine T.leave (.plan rfl) (wantsNot rfl rfl rfl (not_f hb11)) rfl ?_
                          refine T.leave (.plan rfl) (wantsNot rfl rfl rfl (not_f hb11)) rfl ?_
                          refine T.leave (.plan rfl) (wantsNot rfl rfl rfl (not_f hb11)) rfl ?_
                          refine T.leave (.plan rfl) (wantsNot rfl rfl rfl (not_f hb11)) rfl ?_
                          refine T.leave (.plan rfl) (wantsNot rfl rfl rfl (not_f hb11)) rfl ?_
                          refine T.leave (.plan rfl) (wantsNot rfl rfl rfl (not_f hb11)) rfl ?_
                          refine T.pickT (.plan rfl) rfl (wants0 rfl) rfl rfl (not_f hb11) rfl ?_
                          refine T.planEnd ?_
                          refine T.then_normal ?_
                          exact T.le (EnvLe.cons rfl (EnvLe.cons rfl (EnvLe.cons rfl (EnvLe.cons rfl (EnvLe.cons rfl (EnvLe.cons rfl (EnvLe.cons rfl (EnvLe.cons rfl (EnvLe.cons rfl EnvLe.nil))))))))) (T.pick [4, 5, 6, 7] 8 rfl rfl (Nat.le_add_left _ _) rfl (J5 true () hk4))
                      · replace hk4 := inv_negB hb10 hk4
                        refine T.leave (.plan rfl) (wantsNot rfl rfl rfl (not_f hb10)) rfl ?_
                        refine T.leave (.plan rfl) (wantsNot rfl rfl rfl (not_f hb10)) rfl ?_
                        refine T.leave (.plan rfl) (wantsNot rfl rfl rfl (not_f hb10)) rfl ?_
                        refine T.leave (.plan rfl) (wantsNot rfl rfl rfl (not_f hb10)) rfl ?_
                        refine T.leave (.plan rfl) (wantsNot rfl rfl rfl (not_f hb10)) rfl ?_
                        refine T.leave (.plan rfl) (wantsNot rfl rfl rfl (not_f hb10)) rfl ?_
                        refine T.leave (.plan rfl) (wantsNot rfl rfl rfl (not_f hb10)) rfl ?_
                        refine T.leave (.plan rfl) (wantsNot rfl rfl rfl (not_f hb10)) rfl ?_
                        refine T.leave (.plan rfl) (wantsNot rfl rfl rfl (not_f hb10)) rfl ?_
                        refine T.leave (.plan rfl) (wantsNot rfl rfl rfl (not_f hb10)) rfl ?_
                        refine T.leave (.plan rfl) (wantsNot rfl rfl rfl (not_f hb10)) rfl ?_
                        refine T.leave (.plan rfl) (wantsNot rfl rfl rfl (not_f hb10)) rfl ?_
                        refine T.leave (.plan rfl) (wantsNot rfl rfl rfl (not_f hb10)) rfl ?_
                        refine T.leave (.plan rfl) (wantsNot rfl rfl rfl (not_f hb10)) rfl ?_
                        refine T.leave (.plan rfl) (wantsNot rfl rfl rfl (not_f hb10)) rfl ?_
                        refine T.pickT (.plan rfl) rfl (wants0 rfl) rfl rfl (not_f hb10) rfl ?_
                        refine T.move (.plan rfl) rfl (wants0 rfl) rfl rfl ?_
                        refine T.leave (.plan rfl) (wantsNot rfl rfl rfl rfl) rfl ?_
                        refine T.leave (.plan rfl) (wantsNot rfl rfl rfl rfl) rfl ?_
                        refine T.leave (.plan rfl) (wantsNot rfl rfl rfl rfl) rfl ?_
                        refine T.leave (.plan rfl) (wantsNot rfl rfl rfl rfl) rfl ?_
                        refine T.leave (.plan rfl) (wantsNot rfl rfl rfl rfl) rfl ?_
                        refine T.leave (.plan rfl) (wantsNot rfl rfl rfl rfl) rfl ?_
                        refine T.leave (.plan rfl) (wantsNot rfl rfl rfl rfl) rfl ?_
                        refine T.leave (.plan rfl) (wantsNot rfl rfl rfl rfl) rfl ?_
                        refine T.pickT (.plan rfl) rfl (wants0 rfl) rfl rfl rfl rfl ?_
                        refine T.planEnd ?_
                        refine T.then_normal ?_
                        exact T.le (EnvLe.cons rfl (EnvLe.cons rfl (EnvLe.cons rfl (EnvLe.cons rfl (EnvLe.cons rfl (EnvLe.cons rfl (EnvLe.cons rfl (EnvLe.cons rfl (EnvLe.cons rfl EnvLe.nil))))))))) (T.pick [1, 2, 3, 4] 5 rfl rfl (Nat.le_add_left _ _) rfl (J5 true () hk4))
                · replace hk4 := inv_negB hb6 hk4
                  refine T.skip ?_
                  refine T.in_normal ?_
                  refine T.then_normal ?_
                  exact T.le (EnvLe.cons rfl (EnvLe.cons rfl (EnvLe.cons rfl (EnvLe.cons rfl (EnvLe.cons rfl (EnvLe.cons rfl (EnvLe.cons rfl (EnvLe.cons rfl EnvLe.nil)))))))) (T.pick [0, 1, 2, 3] 4 rfl rfl (Nat.le_add_left _ _) rfl (J3 r3.2.1 () hk4))
            · refine T.region ?_
              refine T.move .list rfl (wants0 rfl) rfl rfl ?_
              refine T.bin .list rfl (wants0 rfl) rfl rfl rfl rfl ?_
              refine T.move .list rfl (wants0 rfl) rfl rfl ?_
              refine T.bool (b := (decide (r3.2.2 = 0))) (fun hb12 => ?_) (fun hb12 => ?_)
              · replace he1 := inv_posB hb12 he1
                refine T.move .list rfl (wants1 rfl rfl rfl (not_t hb12)) rfl rfl ?_
                refine T.move .list rfl (wants1 rfl rfl rfl (not_t hb12)) rfl rfl ?_
                refine T.move .list rfl (wants1 rfl rfl rfl (not_t hb12)) rfl rfl ?_
                obtain ⟨hc9, he1⟩ := inv_chk he1
                refine T.idxRo .list 0 rfl rfl (wants1 rfl rfl rfl (not_t hb12)) rfl rfl rfl hc9.1 hc9.2 (Nat.le_refl _) ?_
                refine T.ldRo1 .list 0 rfl rfl (wants1 rfl rfl rfl (not_t hb12)) rfl rfl hc9.1 hc9.2 ?_
                refine T.bin .list rfl (wants1 rfl rfl rfl (not_t hb12)) rfl rfl rfl rfl ?_
                refine T.bin .list rfl (wants1 rfl rfl rfl (not_t hb12)) rfl rfl rfl rfl ?_
                refine T.pickF .list rfl (wants0 rfl) rfl rfl (not_t hb12) rfl ?_
                refine T.move .list rfl (wants0 rfl) rfl rfl ?_
                refine T.bool (b := (decide (r3.1 = (bitsOf .and .i64 (((l0).getD (s3.2 : Int).toNat default)) 9223372036854775807)))) (fun hb13 => ?_) (fun hb13 => ?_)
                · replace he1 := inv_posB hb13 he1
                  refine T.move .list rfl (wants1 rfl rfl rfl (not_t hb13)) rfl rfl ?_
                  refine T.move .list rfl (wants1 rfl rfl rfl (not_t hb13)) rfl rfl ?_
                  refine T.move .list rfl (wants1 rfl rfl rfl (not_t hb13)) rfl rfl ?_
                  refine T.bin .list rfl (wants1 rfl rfl rfl (not_t hb13)) rfl rfl rfl rfl ?_
                  obtain ⟨hc10, he1⟩ := inv_chk he1
                  refine T.idxBf .list 2 rfl rfl (wants1 rfl rfl rfl (not_t hb13)) rfl rfl rfl hc10.1 hc10.2 (Nat.le_refl _) ?_
                  refine T.ldBf1 .list 2 rfl rfl (wants1 rfl rfl rfl (not_t hb13)) rfl rfl hc10.1 hc10.2 ?_
                  refine T.bin .list rfl (wants1 rfl rfl rfl (not_t hb13)) rfl rfl rfl rfl ?_
                  refine T.pickF .list rfl (wants0 rfl) rfl rfl (not_t hb13) rfl ?_
                  refine T.nil ?_
                  refine T.then_normal ?_
                  exact T.le (EnvLe.cons rfl (EnvLe.cons rfl (EnvLe.cons rfl (EnvLe.cons rfl (EnvLe.cons rfl (EnvLe.cons rfl (EnvLe.cons rfl (EnvLe.cons rfl (EnvLe.cons rfl EnvLe.nil))))))))) (T.pick [0, 1, 2, 3] 4 rfl rfl (Nat.le_add_left _ _) rfl (J4 (!(decide (r3.2.1 = (((s1.2).getD (IntKind.i64.wrap (2 * s3.2) : Int).toNat default))))) () he1))
                · replace he1 := inv_negB hb13 he1
                  refine T.leave .list (wantsNot rfl rfl rfl (not_f hb13)) rfl ?_
                  refine T.leave .list (wantsNot rfl rfl rfl (not_f hb13)) rfl ?_
                  refine T.leave .list (wantsNot rfl rfl rfl (not_f hb13)) rfl ?_
                  refine T.leave .list (wantsNot rfl rfl rfl (not_f hb13)) rfl ?_
                  refine T.leave .list (wantsNot rfl rfl rfl (not_f hb13)) rfl ?_
                  refine T.leave .list (wantsNot rfl rfl rfl (not_f hb13)) rfl ?_
                  refine T.leave .list (wantsNot rfl rfl rfl (not_f hb13)) rfl ?_
                  refine T.pickT .list rfl (wants0 rfl) rfl rfl (not_f hb13) rfl ?_
                  refine T.nil ?_
                  refine T.then_normal ?_
                  exact T.le (EnvLe.cons rfl (EnvLe.cons rfl (EnvLe.cons rfl (EnvLe.cons rfl (EnvLe.cons rfl (EnvLe.cons rfl (EnvLe.cons rfl (EnvLe.cons rfl (EnvLe.cons rfl EnvLe.nil))))))))) (T.pick [0, 1, 2, 3] 4 rfl rfl (Nat.le_add_left _ _) rfl (J4 true () he1))
              · replace he1 := inv_negB hb12 he1
                refine T.leave .list (wantsNot rfl rfl rfl (not_f hb12)) rfl ?_
                refine T.leave .list (wantsNot rfl rfl rfl (not_f hb12)) rfl ?_
                refine T.leave .list (wantsNot rfl rfl rfl (not_f hb12)) rfl ?_
                refine T.leave .list (wantsNot rfl rfl rfl (not_f hb12)) rfl ?_
                refine T.leave .list (wantsNot rfl rfl rfl (not_f hb12)) rfl ?_
                refine T.leave .list (wantsNot rfl rfl rfl (not_f hb12)) rfl ?_
                refine T.leave .list (wantsNot rfl rfl rfl (not_f hb12)) rfl ?_
                refine T.pickT .list rfl (wants0 rfl) rfl rfl (not_f hb12) rfl ?_
                refine T.move .list rfl (wants0 rfl) rfl rfl ?_
                refine T.leave .list (wantsNot rfl rfl rfl rfl) rfl ?_
                refine T.leave .list (wantsNot rfl rfl rfl rfl) rfl ?_
                refine T.leave .list (wantsNot rfl rfl rfl rfl) rfl ?_
                refine T.leave .list (wantsNot rfl rfl rfl rfl) rfl ?_
                refine T.leave .list (wantsNot rfl rfl rfl rfl) rfl ?_
                refine T.leave .list (wantsNot rfl rfl rfl rfl) rfl ?_
                refine T.leave .list (wantsNot rfl rfl rfl rfl) rfl ?_
                refine T.pickT .list rfl (wants0 rfl) rfl rfl rfl rfl ?_
                refine T.nil ?_
                refine T.then_normal ?_
                exact T.le (EnvLe.cons rfl (EnvLe.cons rfl (EnvLe.cons rfl (EnvLe.cons rfl (EnvLe.cons rfl (EnvLe.cons rfl (EnvLe.cons rfl (EnvLe.cons rfl (EnvLe.cons rfl EnvLe.nil))))))))) (T.pick [0, 1, 2, 3] 4 rfl rfl (Nat.le_add_left _ _) rfl (J4 true () he1))
      · replace he1 := inv_negB hb2 he1
        refine T.exit ?_
        refine T.then_exit ?_
        refine T.then_exit ?_
        obtain rfl := inv_some he1
        obtain rfl := hx1 _ rfl
        refine T.in_hit ?_
        refine T.then_normal ?_
        exact T.le (EnvLe.cons rfl (EnvLe.cons rfl EnvLe.nil)) (T.pick [] 4 rfl rfl (Nat.le_add_left _ _) rfl (J2 s3.1 () hk1))
  · refine T.seq ?_
    refine T.region ?_
    refine T.assign .list rfl (wants0 rfl) rfl rfl ?_
    refine T.nil ?_
    refine T.then_normal ?_
    refine T.block ?_
    obtain ⟨e2, hl2, hr⟩ := inv_bind hr
    refine T.nilBf E8 5 ?_
    refine T.nilBf E64 3 ?_
    refine T.le (EnvLe.cons rfl (EnvLe.cons rfl (EnvLe.cons rfl (EnvLe.cons rfl (EnvLe.cons rfl (EnvLe.cons rfl (EnvLe.cons rfl EnvLe.nil))))))) (T.pick [3, 2, 1, 0] 4 rfl rfl (Nat.le_add_left _ _) rfl (T.loop (s0 := (([] : List UInt8), ([] : List Int), 0)) (env := fun s7 x15 => [(0, .slice A0 l0.length c0), (1, .slice A1 l1.length c1), (2, .int .i64 a2), (7, .slice x15.1.1 s7.1.length x15.1.2), (8, .slice x15.2.1 s7.2.1.length x15.2.2), (9, .int .i64 (min ((l0.length : Int)) 20)), (10, .int .i64 s7.2.2)]) (hs := fun (s7 : List UInt8 × List Int × Int) (x15 : (Option Addr × Nat) × (Option Addr × Nat)) => Ro E64 A0 c0 l0 :: Ro (Elt.slice E8) A1 c1 l1 :: Bf E8 5 x15.1.1 x15.1.2 s7.1 :: Bf E64 3 x15.2.1 x15.2.2 s7.2.1 :: hs) hl2 ((none, 0), (none, 0)) (fun K2 s7 x15 o2 he2 hm2 hx2 => ?_)))
    unfold law1_WireRow.st2 at he2
    refine T.seq ?_
    refine T.seq ?_
    refine T.region ?_
    refine T.move .list rfl (wants0 rfl) rfl rfl ?_
    refine T.move .list rfl (wants0 rfl) rfl rfl ?_
    refine T.bin .list rfl (wants0 rfl) rfl rfl rfl rfl ?_
    refine T.nil ?_
    refine T.then_normal ?_
    refine T.cond rfl (fun hb14 => ?_) (fun hb14 => ?_)
    · replace he2 := inv_posB hb14 he2
      refine T.skip ?_
      refine T.then_normal ?_
      refine T.seq ?_
      refine T.block ?_
      refine T.seq ?_
      refine T.region ?_
      refine T.move .list rfl (wants0 rfl) rfl rfl ?_
      refine T.move .list rfl (wants0 rfl) rfl rfl ?_
      refine T.move .list rfl (wants0 rfl) rfl rfl ?_
      obtain ⟨hc11, he2⟩ := inv_chk he2
      refine T.idxRo .list 0 rfl rfl (wants0 rfl) rfl rfl rfl hc11.1 hc11.2 (Nat.le_refl _) ?_
      refine T.ldRo1 .list 0 rfl rfl (wants0 rfl) rfl rfl hc11.1 hc11.2 ?_
      refine T.bin .list rfl (wants0 rfl) rfl rfl rfl rfl ?_
      obtain ⟨r7, hg7, he2⟩ := inv_bind he2
      refine T.call .list (wants0 rfl) rfl (run_callF (vs := [_]) rfl Try.func13 rfl (by decide) rfl) (fun w hS => wire_Uint.c hS  hg7) (fun x16 => ?_)
      obtain ⟨hc12, he2⟩ := inv_chk he2
      refine T.appBf .list 3 0 rfl rfl rfl rfl rfl (wants0 rfl) rfl rfl rfl rfl rfl rfl hc12 (fun _ _ => rfl) (fun A4 c4 => ?_)
      refine T.assign .list rfl (wants0 rfl) rfl rfl ?_
      refine T.nil ?_
      refine T.then_normal ?_
      refine T.seq ?_
      refine T.region ?_
      refine T.move .list rfl (wants0 rfl) rfl rfl ?_
      refine T.move .list rfl (wants0 rfl) rfl rfl ?_
      refine T.lenSlice .list rfl (wants0 rfl) rfl rfl ?_
      refine T.lit .list (vals := [(0, .int .i64 ((((s7.1 ++ r7)).length : Int)))]) (cells := #[.int .i64 ((((s7.1 ++ r7)).length : Int))]) rfl (wants0 rfl) rfl rfl rfl rfl rfl (by kernel_rfl) ([(((s7.1 ++ r7)).length : Int)] : List Int) rfl (fun _ _ _ _ _ => (Encs.c1 (enc := (Value.int .i64)) (h1 := fun _ => rfl) rfl rfl)) (fun b1 => ?_)
      obtain ⟨hc13, he2⟩ := inv_chk he2
      refine T.appBf .list 5 0 rfl rfl rfl rfl rfl (wants0 rfl) rfl rfl rfl rfl rfl rfl hc13 (fun _ _ => rfl) (fun A5 c5 => ?_)
      refine T.assign .list rfl (wants0 rfl) rfl rfl ?_
      refine T.nil ?_
      refine T.then_normal ?_
      refine T.seqJ (fun (s8 : List UInt8) (x17 : (Option Addr × Nat)) => [(0, .slice A0 l0.length c0), (1, .slice A1 l1.length c1), (2, .int .i64 a2), (7, .slice x17.1 s8.length x17.2), (8, .slice A5 (((s7.2.1 ++ (([(((s7.1 ++ r7)).length : Int)] : List Int)))).length) c5), (9, .int .i64 (min ((l0.length : Int)) 20)), (10, .int .i64 s7.2.2)]) (fun s8 x17 => Ro E64 A0 c0 l0 :: Ro (Elt.slice E8) A1 c1 l1 :: Bf E8 5 x17.1 x17.2 s8 :: Bf E64 3 A5 c5 ((s7.2.1 ++ (([(((s7.1 ++ r7)).length : Int)] : List Int)))) :: hs) (fun s8 => law1_WireRow.k6 s7 r7 s8 = some o2) (fun s8 x17 hk6 => ?_) (fun J6 => ?_)
      · unfold law1_WireRow.k6 at hk6
        refine T.region ?_
        refine T.move .list rfl (wants0 rfl) rfl rfl ?_
        refine T.move .list rfl (wants0 rfl) rfl rfl ?_
        refine T.lenSlice .list rfl (wants0 rfl) rfl rfl ?_
        refine T.lit .list (vals := [(0, .int .i64 ((s8.length : Int)))]) (cells := #[.int .i64 ((s8.length : Int))]) rfl (wants0 rfl) rfl rfl rfl rfl rfl (by kernel_rfl) ([(s8.length : Int)] : List Int) rfl (fun _ _ _ _ _ => (Encs.c1 (enc := (Value.int .i64)) (h1 := fun _ => rfl) rfl rfl)) (fun b2 => ?_)
        obtain ⟨hc14, hk6⟩ := inv_chk hk6
        refine T.appBf .list 4 0 rfl rfl rfl rfl rfl (wants0 rfl) rfl rfl rfl rfl rfl rfl hc14 (fun _ _ => rfl) (fun A6 c6 => ?_)
        refine T.assign .list rfl (wants0 rfl) rfl rfl ?_
        refine T.nil ?_
        refine T.in_normal ?_
        refine T.then_normal ?_
        refine T.region ?_
        refine T.move .list rfl (wants0 rfl) rfl rfl ?_
        refine T.bin .list rfl (wants0 rfl) rfl rfl rfl rfl ?_
        refine T.assign .list rfl (wants0 rfl) rfl rfl ?_
        refine T.nil ?_
        refine T.then_normal ?_
        obtain rfl := inv_some hk6
        exact T.le (EnvLe.cons rfl (EnvLe.cons rfl (EnvLe.cons rfl (EnvLe.cons rfl (EnvLe.cons rfl (EnvLe.cons rfl (EnvLe.cons rfl EnvLe.nil))))))) (T.pick [1, 2, 3, 4] 5 rfl rfl (Nat.le_add_left _ _) rfl (hm2 _ rfl ((x17.1, x17.2), (A6, c6))))
      · refine T.seq ?_
        refine T.region ?_
        refine T.move .list rfl (wants0 rfl) rfl rfl ?_
        refine T.move .list rfl (wants0 rfl) rfl rfl ?_
        refine T.lenSlice .list rfl (wants0 rfl) rfl rfl ?_
        refine T.bin .list rfl (wants0 rfl) rfl rfl rfl rfl ?_
        refine T.nil ?_
        refine T.then_normal ?_
        refine T.cond rfl (fun hb15 => ?_) (fun hb15 => ?_)
        · replace he2 := inv_posB hb15 he2
          refine T.plan [(0, 0), (1, 0), (2, 0), (3, 0), (5, 0), (6, 0), (7, 0), (4, 1), (8, 1), (9, 0), (10, 0), (11, 0), (12, 2), (13, 2), (14, 0)] mixed (by kernel_rfl) (by kernel_rfl) rfl (fun d _ _ _ _ h => by cases d <;> exact h) ?_
          refine T.move (.plan rfl) rfl (wants0 rfl) rfl rfl ?_
          refine T.move (.plan rfl) rfl (wants0 rfl) rfl rfl ?_
          refine T.move (.plan rfl) rfl (wants0 rfl) rfl rfl ?_
          obtain ⟨hc15, he2⟩ := inv_chk he2
          refine T.idxRo (.plan rfl) 3 rfl rfl (wants0 rfl) rfl rfl rfl hc15.1 hc15.2 (Nat.le_refl _) ?_
          refine T.move (.plan rfl) rfl (wants0 rfl) rfl rfl ?_
          refine T.move (.plan rfl) rfl (wants0 rfl) rfl rfl ?_
          obtain ⟨hc16, he2⟩ := inv_chk he2
          refine T.idxRo (.plan rfl) 3 rfl rfl (wants0 rfl) rfl rfl rfl hc16.1 hc16.2 (Nat.le_refl _) ?_
          refine T.ldSlice (.plan rfl) 3 rfl rfl (wants0 rfl) rfl rfl hc15.1 hc15.2 (fun x18 => ?_)
          refine T.ldSlice (.plan rfl) 4 rfl rfl (wants0 rfl) rfl rfl hc16.1 hc16.2 (fun x19 => ?_)
          refine T.lenSlice (.plan rfl) rfl (wants0 rfl) rfl rfl ?_
          refine T.min2 (.plan rfl) rfl (wants0 rfl) rfl rfl rfl ?_
          obtain ⟨hc17, he2⟩ := inv_chk he2
          refine T.cut0 (.plan rfl) 1 rfl rfl rfl (wants0 rfl) rfl rfl (.inl rfl) (.inr ⟨_, _, rfl, rfl⟩) hc17.1 hc17.2 ?_
          obtain ⟨r8, hg8, he2⟩ := inv_bind he2
          refine T.call (.plan rfl) (wants0 rfl) rfl (run_callF (vs := [_]) rfl Try.func14 rfl (by decide) rfl) (fun w hS => wire_Bytes.c hS (i0 := 0) rfl hg8) (fun x20 => ?_)
          obtain ⟨hc18, he2⟩ := inv_chk he2
          refine T.appBf (.plan rfl) 8 0 rfl rfl rfl rfl rfl (wants0 rfl) rfl rfl rfl rfl rfl rfl hc18 (fun _ _ => rfl) (fun A7 c7 => ?_)
          refine T.assign (.plan rfl) rfl (wants0 rfl) rfl rfl ?_
          refine T.planEnd ?_
          refine T.then_normal ?_
          exact T.le (EnvLe.cons rfl (EnvLe.cons rfl (EnvLe.cons rfl (EnvLe.cons rfl (EnvLe.cons rfl (EnvLe.cons rfl (EnvLe.cons rfl EnvLe.nil))))))) (T.pick [6, 7, 8, 9] 10 rfl rfl (Nat.le_add_left _ _) rfl (J6 (((s7.1 ++ r7)) ++ r8) (A7, c7) he2))
        · replace he2 := inv_negB hb15 he2
          refine T.skip ?_
          refine T.then_normal ?_
          exact T.le (EnvLe.cons rfl (EnvLe.cons rfl (EnvLe.cons rfl (EnvLe.cons rfl (EnvLe.cons rfl (EnvLe.cons rfl (EnvLe.cons rfl EnvLe.nil))))))) (T.pick [2, 3, 4, 5] 6 rfl rfl (Nat.le_add_left _ _) rfl (J6 (s7.1 ++ r7) (A4, c4) he2))
    · replace he2 := inv_negB hb14 he2
      refine T.exit ?_
      refine T.then_exit ?_
      refine T.then_exit ?_
      obtain rfl := inv_some he2
      obtain rfl := hx2 _ rfl
      refine T.in_hit ?_
      refine T.then_normal ?_
      exact T.le (EnvLe.cons rfl (EnvLe.cons rfl (EnvLe.cons rfl (EnvLe.cons rfl (EnvLe.cons rfl (EnvLe.cons rfl EnvLe.nil)))))) (T.pick [0, 1, 2, 3] 4 rfl rfl (Nat.le_add_left _ _) rfl (J1 (s7.1, s7.2.1) ((x15.1.1, x15.1.2), (x15.2.1, x15.2.2)) hr))
end Go.Proofs.Ythhgagkacogigaa
