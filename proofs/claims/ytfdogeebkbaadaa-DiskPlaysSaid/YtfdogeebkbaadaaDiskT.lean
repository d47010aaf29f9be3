/- DiskT: what the functions compute, and that the program computes it; printed by a program of ours. -/
import Derived.Test.YtfdogeebkbaadaaDisk
set_option linter.unusedVariables false
set_option linter.unusedSimpArgs false
namespace Go.Proofs.Ytfdogeebkbaadaa
open Go.RowKit
noncomputable def law3_told.k1 (s1 : Unit) : Option Bool :=
  some false
noncomputable def law3_told.k2 (s2 : Unit) : Option Bool :=
  some false
noncomputable def law3_told.k3 (r1p0 : (Int × Bool × Int × Int × Int × Int × Int) × (List (Int × (List UInt8))) × (List (Int × (List UInt8)))) (s3 : Bool) : Option Bool :=
  (if s3 = true then some false else (disk_Disk_Write.impl ((r1p0.1.1, r1p0.1.2.1, r1p0.1.2.2.1, r1p0.1.2.2.2.1, r1p0.1.2.2.2.2.1, r1p0.1.2.2.2.2.2.1, r1p0.1.2.2.2.2.2.2)) r1p0.2.1 r1p0.2.2 0 (([(1 : UInt8)] : List UInt8))).bind fun r4 => (disk_Disk_Flush.impl ((r4.2.1.1, r4.2.1.2.1, r4.2.1.2.2.1, r4.2.1.2.2.2.1, r4.2.1.2.2.2.2.1, r4.2.1.2.2.2.2.2.1, r4.2.1.2.2.2.2.2.2)) r4.2.2.1 r4.2.2.2).bind fun r5 => (disk_Disk_Write.impl ((r5.2.1.1, r5.2.1.2.1, r5.2.1.2.2.1, r5.2.1.2.2.2.1, r5.2.1.2.2.2.2.1, r5.2.1.2.2.2.2.2.1, r5.2.1.2.2.2.2.2.2)) r5.2.2.1 r5.2.2.2 0 (([(2 : UInt8)] : List UInt8))).bind fun r6 => (disk_Disk_Write.impl ((r6.2.1.1, r6.2.1.2.1, r6.2.1.2.2.1, r6.2.1.2.2.2.1, r6.2.1.2.2.2.2.1, r6.2.1.2.2.2.2.2.1, r6.2.1.2.2.2.2.2.2)) r6.2.2.1 r6.2.2.2 1 (([(3 : UInt8)] : List UInt8))).bind fun r7 => (disk_Disk_Cut.impl ((r7.2.1.1, r7.2.1.2.1, r7.2.1.2.2.1, r7.2.1.2.2.2.1, r7.2.1.2.2.2.2.1, r7.2.1.2.2.2.2.2.1, r7.2.1.2.2.2.2.2.2)) r7.2.2.1 r7.2.2.2 ((0, 2, -1, 0))).bind fun r8 => (disk_Disk_Read.impl ((r8.1.1, r8.1.2.1, r8.1.2.2.1, r8.1.2.2.2.1, r8.1.2.2.2.2.1, r8.1.2.2.2.2.2.1, r8.1.2.2.2.2.2.2)) r8.2.1 r8.2.2 0).bind fun r9 => (disk_Disk_Restart.impl ((r8.1.1, r8.1.2.1, r8.1.2.2.1, r8.1.2.2.2.1, r8.1.2.2.2.2.1, r8.1.2.2.2.2.2.1, r8.1.2.2.2.2.2.2)) r8.2.1 r8.2.2).bind fun r10 => (disk_Disk_Read.impl ((r10.1, r10.2.1, r10.2.2.1, r10.2.2.2.1, r10.2.2.2.2.1, r10.2.2.2.2.2.1, r10.2.2.2.2.2.2)) r8.2.1 r8.2.2 0).bind fun r11 => (disk_Disk_Read.impl ((r10.1, r10.2.1, r10.2.2.1, r10.2.2.2.1, r10.2.2.2.2.1, r10.2.2.2.2.2.1, r10.2.2.2.2.2.2)) r8.2.1 r8.2.2 1).bind fun r12 => (if ((decide (r9.2 = 20))) = true then (if ((decide (r12.2 = 0))) = true then (if ((decide ((((r11.1.length : Int))) = 8192))) = true then (if ((decide ((((r12.1.length : Int))) = 8192))) = true then chk (0 ≤ (0 : Int) ∧ (0 : Int) < (r11.1.length : Int)) ((if ((decide ((((((r11.1).getD (0 : Int).toNat default).toNat : Int))) = 1))) = true then chk (0 ≤ (0 : Int) ∧ (0 : Int) < (r12.1.length : Int)) ((if ((decide ((((((r12.1).getD (0 : Int).toNat default).toNat : Int))) = 3))) = true then (disk_Disk_Life.impl ((r10.1, r10.2.1, r10.2.2.1, r10.2.2.2.1, r10.2.2.2.2.1, r10.2.2.2.2.2.1, r10.2.2.2.2.2.2)) r8.2.1 r8.2.2).bind fun r13 => (if ((decide (r13 = 1))) = true then (disk_Disk_Open.impl ((r10.1, r10.2.1, r10.2.2.1, r10.2.2.2.1, r10.2.2.2.2.1, r10.2.2.2.2.2.1, r10.2.2.2.2.2.2)) r8.2.1 r8.2.2).bind fun r14 => some (decide (r14 = 0)) else some false) else some false)) else some false)) else some false) else some false) else some false) else some false))
noncomputable def law3_told.k4 (r1p0 : (Int × Bool × Int × Int × Int × Int × Int) × (List (Int × (List UInt8))) × (List (Int × (List UInt8)))) (s4 : Bool) : Option Bool :=
  (if s4 = true then some false else (disk_Disk_Write.impl ((r1p0.1.1, r1p0.1.2.1, r1p0.1.2.2.1, r1p0.1.2.2.2.1, r1p0.1.2.2.2.2.1, r1p0.1.2.2.2.2.2.1, r1p0.1.2.2.2.2.2.2)) r1p0.2.1 r1p0.2.2 0 (([(1 : UInt8)] : List UInt8))).bind fun r15 => (disk_Disk_Flush.impl ((r15.2.1.1, r15.2.1.2.1, r15.2.1.2.2.1, r15.2.1.2.2.2.1, r15.2.1.2.2.2.2.1, r15.2.1.2.2.2.2.2.1, r15.2.1.2.2.2.2.2.2)) r15.2.2.1 r15.2.2.2).bind fun r16 => (disk_Disk_Write.impl ((r16.2.1.1, r16.2.1.2.1, r16.2.1.2.2.1, r16.2.1.2.2.2.1, r16.2.1.2.2.2.2.1, r16.2.1.2.2.2.2.2.1, r16.2.1.2.2.2.2.2.2)) r16.2.2.1 r16.2.2.2 0 (([(2 : UInt8)] : List UInt8))).bind fun r17 => (disk_Disk_Write.impl ((r17.2.1.1, r17.2.1.2.1, r17.2.1.2.2.1, r17.2.1.2.2.2.1, r17.2.1.2.2.2.2.1, r17.2.1.2.2.2.2.2.1, r17.2.1.2.2.2.2.2.2)) r17.2.2.1 r17.2.2.2 1 (([(3 : UInt8)] : List UInt8))).bind fun r18 => (disk_Disk_Cut.impl ((r18.2.1.1, r18.2.1.2.1, r18.2.1.2.2.1, r18.2.1.2.2.2.1, r18.2.1.2.2.2.2.1, r18.2.1.2.2.2.2.2.1, r18.2.1.2.2.2.2.2.2)) r18.2.2.1 r18.2.2.2 ((0, 2, -1, 0))).bind fun r19 => (disk_Disk_Read.impl ((r19.1.1, r19.1.2.1, r19.1.2.2.1, r19.1.2.2.2.1, r19.1.2.2.2.2.1, r19.1.2.2.2.2.2.1, r19.1.2.2.2.2.2.2)) r19.2.1 r19.2.2 0).bind fun r20 => (disk_Disk_Restart.impl ((r19.1.1, r19.1.2.1, r19.1.2.2.1, r19.1.2.2.2.1, r19.1.2.2.2.2.1, r19.1.2.2.2.2.2.1, r19.1.2.2.2.2.2.2)) r19.2.1 r19.2.2).bind fun r21 => (disk_Disk_Read.impl ((r21.1, r21.2.1, r21.2.2.1, r21.2.2.2.1, r21.2.2.2.2.1, r21.2.2.2.2.2.1, r21.2.2.2.2.2.2)) r19.2.1 r19.2.2 0).bind fun r22 => (disk_Disk_Read.impl ((r21.1, r21.2.1, r21.2.2.1, r21.2.2.2.1, r21.2.2.2.2.1, r21.2.2.2.2.2.1, r21.2.2.2.2.2.2)) r19.2.1 r19.2.2 1).bind fun r23 => (if ((decide (r20.2 = 20))) = true then (if ((decide (r23.2 = 0))) = true then (if ((decide ((((r22.1.length : Int))) = 8192))) = true then (if ((decide ((((r23.1.length : Int))) = 8192))) = true then chk (0 ≤ (0 : Int) ∧ (0 : Int) < (r22.1.length : Int)) ((if ((decide ((((((r22.1).getD (0 : Int).toNat default).toNat : Int))) = 1))) = true then chk (0 ≤ (0 : Int) ∧ (0 : Int) < (r23.1.length : Int)) ((if ((decide ((((((r23.1).getD (0 : Int).toNat default).toNat : Int))) = 3))) = true then (disk_Disk_Life.impl ((r21.1, r21.2.1, r21.2.2.1, r21.2.2.2.1, r21.2.2.2.2.1, r21.2.2.2.2.2.1, r21.2.2.2.2.2.2)) r19.2.1 r19.2.2).bind fun r24 => (if ((decide (r24 = 1))) = true then (disk_Disk_Open.impl ((r21.1, r21.2.1, r21.2.2.1, r21.2.2.2.1, r21.2.2.2.2.1, r21.2.2.2.2.2.1, r21.2.2.2.2.2.2)) r19.2.1 r19.2.2).bind fun r25 => some (decide (r25 = 0)) else some false) else some false)) else some false)) else some false) else some false) else some false) else some false))
noncomputable def law3_told.impl  : Option Bool :=
  (disk_New.impl 2).bind fun r1 => (match r1 with | (none, r1p1) => ((disk_New.impl 0).bind fun r2 => (match r2 with | (none, r2p1) => ((if ((decide (r1p1 = 0))) = true then law3_told.k1 () else law3_told.k1 ())) | (some r2p0, r2p1) => ((if ((decide (r1p1 = 0))) = true then law3_told.k2 () else law3_told.k2 ())))) | (some r1p0, r1p1) => ((disk_New.impl 0).bind fun r3 => (match r3 with | (none, r3p1) => ((if ((decide (r1p1 = 0))) = true then law3_told.k3 r1p0 (!(decide (r3p1 = 1))) else law3_told.k3 r1p0 true)) | (some r3p0, r3p1) => ((if ((decide (r1p1 = 0))) = true then law3_told.k4 r1p0 (!(decide (r3p1 = 1))) else law3_told.k4 r1p0 true)))))
set_option maxRecDepth 100000 in
set_option maxHeartbeats 4000000 in
theorem law3_told.c {B : World} {hs : List MP} {w : World} (hS : St B (hs) w) {r : Bool} (hr : law3_told.impl  = some r) :
    Calls Try.prog 16 #[] w fun e w' => ∃ x : Unit, e = .returned (.bool r) ∧ St B (hs) w' := by
 unfold law3_told.impl at hr
 refine calls_T Try.func16 rfl rfl rfl hS ?_
 refine T.seq ?_
 refine T.region ?_
 refine T.assign .list rfl (wants0 rfl) rfl rfl ?_
 refine T.nil ?_
 refine T.then_normal ?_
 refine T.seq ?_
 refine T.region ?_
 obtain ⟨r1, hg1, hr⟩ := inv_bind hr
 rcases r1 with ⟨_ | r1p0, r1p1⟩
 ·dsimp only at hr
  refine T.call (v := fun (x1 : (Nat) × (Nat) × (Option Addr × Nat) × (Ads)) => .tuple #[.pointer none, .int .i64 r1p1]) (hs' := fun x1 => hs) .list (wants0 rfl) rfl (run_callF (vs := [_]) rfl Try.func9 rfl (by decide) rfl) (fun w hS => disk_New.c hS  hg1) (fun x1 => ?_)
  refine T.move .list rfl (wants0 rfl) rfl rfl ?_
  refine T.extract .list rfl (wants0 rfl) rfl rfl rfl ?_
  refine T.extract .list rfl (wants0 rfl) rfl rfl rfl ?_
  refine T.assign .list rfl (wants0 rfl) rfl rfl ?_
  refine T.assign .list rfl (wants0 rfl) rfl rfl ?_
  refine T.nil ?_
  refine T.then_normal ?_
  refine T.seq ?_
  refine T.region ?_
  obtain ⟨r2, hg2, hr⟩ := inv_bind hr
  rcases r2 with ⟨_ | r2p0, r2p1⟩
  ·dsimp only at hr
   refine T.call (v := fun (x2 : (Nat) × (Nat) × (Option Addr × Nat) × (Ads)) => .tuple #[.pointer none, .int .i64 r2p1]) (hs' := fun x2 => hs) .list (wants0 rfl) rfl (run_callF (vs := [_]) rfl Try.func9 rfl (by decide) rfl) (fun w hS => disk_New.c hS  hg2) (fun x2 => ?_)
   refine T.move .list rfl (wants0 rfl) rfl rfl ?_
   refine T.extract .list rfl (wants0 rfl) rfl rfl rfl ?_
   refine T.extract .list rfl (wants0 rfl) rfl rfl rfl ?_
   refine T.assign .list rfl (wants0 rfl) rfl rfl ?_
   refine T.assign .list rfl (wants0 rfl) rfl rfl ?_
   refine T.nil ?_
   refine T.then_normal ?_
   refine T.seq ?_
   refine T.seqJ (fun (s1 : Unit) (x3 : Unit) => [(1, .pointer none), (28, .bool true)]) (fun s1 x3 => hs) (fun s1 => law3_told.k1 s1 = some r) (fun s1 x3 hk1 => ?_) (fun J1 => ?_)
   ·unfold law3_told.k1 at hk1
    refine T.condT rfl rfl ?_
    refine T.seq ?_
    refine T.region ?_
    refine T.assign .list rfl (wants0 rfl) rfl rfl ?_
    refine T.nil ?_
    refine T.then_normal ?_
    refine T.ret ?_
    refine T.then_ret ?_
    obtain rfl := inv_some hk1
    refine T.pick [] 0 rfl rfl (Nat.le_add_left _ _) rfl ?_
    refine T.ret1 rfl rfl (fun w hS => ⟨(), rfl, hS⟩)
   ·refine T.region ?_
    refine T.move .list rfl (wants0 rfl) rfl rfl ?_
    refine T.bin .list rfl (wants0 rfl) rfl rfl rfl rfl ?_
    refine T.move .list rfl (wants0 rfl) rfl rfl ?_
    refine T.bool (b := (decide (r1p1 = 0))) (fun hb1 => ?_) (fun hb1 => ?_)
    ·replace hr := inv_posB hb1 hr
     refine T.move .list rfl (wants1 rfl rfl rfl (not_t hb1)) rfl rfl ?_
     refine T.ptrEq (pt := 69) .list rfl (wants1 rfl rfl rfl (not_t hb1)) rfl rfl rfl (by kernel_rfl) (.inr rfl) rfl ?_
     refine T.pickF .list rfl (wants0 rfl) rfl rfl (not_t hb1) rfl ?_
     refine T.move .list rfl (wants0 rfl) rfl rfl ?_
     refine T.leave .list (wantsNot rfl rfl rfl rfl) rfl ?_
     refine T.leave .list (wantsNot rfl rfl rfl rfl) rfl ?_
     refine T.pickT .list rfl (wants0 rfl) rfl rfl rfl rfl ?_
     refine T.nil ?_
     refine T.then_normal ?_
     exact T.le (EnvLe.cons rfl (EnvLe.cons rfl EnvLe.nil)) (T.pick [] 0 rfl rfl (Nat.le_add_left _ _) rfl (J1 () () hr))
    ·replace hr := inv_negB hb1 hr
     refine T.leave .list (wantsNot rfl rfl rfl (not_f hb1)) rfl ?_
     refine T.leave .list (wantsNot rfl rfl rfl (not_f hb1)) rfl ?_
     refine T.pickT .list rfl (wants0 rfl) rfl rfl (not_f hb1) rfl ?_
     refine T.move .list rfl (wants0 rfl) rfl rfl ?_
     refine T.leave .list (wantsNot rfl rfl rfl rfl) rfl ?_
     refine T.leave .list (wantsNot rfl rfl rfl rfl) rfl ?_
     refine T.pickT .list rfl (wants0 rfl) rfl rfl rfl rfl ?_
     refine T.nil ?_
     refine T.then_normal ?_
     exact T.le (EnvLe.cons rfl (EnvLe.cons rfl EnvLe.nil)) (T.pick [] 0 rfl rfl (Nat.le_add_left _ _) rfl (J1 () () hr))
  ·dsimp only at hr
   refine T.call (v := fun (x4 : (Nat) × (Nat) × (Option Addr × Nat) × (Ads)) => .tuple #[.pointer (some ⟨x4.1, 0, none⟩), .int .i64 r2p1]) (hs' := fun x4 => Cl x4.1 69 [.int .i64 r2p0.1.1, .map (some x4.2.1), .slice x4.2.2.1.1 r2p0.2.2.length x4.2.2.1.2, .bool r2p0.1.2.1, .int .i64 r2p0.1.2.2.1, .int .i64 r2p0.1.2.2.2.1, .int .u64 r2p0.1.2.2.2.2.1, .int .i64 r2p0.1.2.2.2.2.2.1, .int .i64 r2p0.1.2.2.2.2.2.2] :: Mp (Elt.slice E8) x4.2.1 r2p0.2.1 :: Hb 71 x4.2.2.1.1 x4.2.2.1.2 x4.2.2.2 r2p0.2.2 :: Bb 5 x4.2.2.2 r2p0.2.2 :: hs) .list (wants0 rfl) rfl (run_callF (vs := [_]) rfl Try.func9 rfl (by decide) rfl) (fun w hS => disk_New.c hS  hg2) (fun x4 => ?_)
   refine T.move .list rfl (wants0 rfl) rfl rfl ?_
   refine T.extract .list rfl (wants0 rfl) rfl rfl rfl ?_
   refine T.extract .list rfl (wants0 rfl) rfl rfl rfl ?_
   refine T.assign .list rfl (wants0 rfl) rfl rfl ?_
   refine T.assign .list rfl (wants0 rfl) rfl rfl ?_
   refine T.nil ?_
   refine T.then_normal ?_
   refine T.seq ?_
   refine T.seqJ (fun (s2 : Unit) (x5 : Unit) => [(1, .pointer none), (28, .bool true)]) (fun s2 x5 => hs) (fun s2 => law3_told.k2 s2 = some r) (fun s2 x5 hk2 => ?_) (fun J2 => ?_)
   ·unfold law3_told.k2 at hk2
    refine T.condT rfl rfl ?_
    refine T.seq ?_
    refine T.region ?_
    refine T.assign .list rfl (wants0 rfl) rfl rfl ?_
    refine T.nil ?_
    refine T.then_normal ?_
    refine T.ret ?_
    refine T.then_ret ?_
    obtain rfl := inv_some hk2
    refine T.pick [] 0 rfl rfl (Nat.le_add_left _ _) rfl ?_
    refine T.ret1 rfl rfl (fun w hS => ⟨(), rfl, hS⟩)
   ·refine T.region ?_
    refine T.move .list rfl (wants0 rfl) rfl rfl ?_
    refine T.bin .list rfl (wants0 rfl) rfl rfl rfl rfl ?_
    refine T.move .list rfl (wants0 rfl) rfl rfl ?_
    refine T.bool (b := (decide (r1p1 = 0))) (fun hb2 => ?_) (fun hb2 => ?_)
    ·replace hr := inv_posB hb2 hr
     refine T.move .list rfl (wants1 rfl rfl rfl (not_t hb2)) rfl rfl ?_
     refine T.ptrEq (pt := 69) .list rfl (wants1 rfl rfl rfl (not_t hb2)) rfl rfl rfl (by kernel_rfl) (.inr rfl) rfl ?_
     refine T.pickF .list rfl (wants0 rfl) rfl rfl (not_t hb2) rfl ?_
     refine T.move .list rfl (wants0 rfl) rfl rfl ?_
     refine T.leave .list (wantsNot rfl rfl rfl rfl) rfl ?_
     refine T.leave .list (wantsNot rfl rfl rfl rfl) rfl ?_
     refine T.pickT .list rfl (wants0 rfl) rfl rfl rfl rfl ?_
     refine T.nil ?_
     refine T.then_normal ?_
     exact T.le (EnvLe.cons rfl (EnvLe.cons rfl EnvLe.nil)) (T.pick [] 4 rfl rfl (Nat.le_add_left _ _) rfl (J2 () () hr))
    ·replace hr := inv_negB hb2 hr
     refine T.leave .list (wantsNot rfl rfl rfl (not_f hb2)) rfl ?_
     refine T.leave .list (wantsNot rfl rfl rfl (not_f hb2)) rfl ?_
     refine T.pickT .list rfl (wants0 rfl) rfl rfl (not_f hb2) rfl ?_
     refine T.move .list rfl (wants0 rfl) rfl rfl ?_
     refine T.leave .list (wantsNot rfl rfl rfl rfl) rfl ?_
     refine T.leave .list (wantsNot rfl rfl rfl rfl) rfl ?_
     refine T.pickT .list rfl (wants0 rfl) rfl rfl rfl rfl ?_
     refine T.nil ?_
     refine T.then_normal ?_
     exact T.le (EnvLe.cons rfl (EnvLe.cons rfl EnvLe.nil)) (T.pick [] 4 rfl rfl (Nat.le_add_left _ _) rfl (J2 () () hr))
 ·dsimp only at hr
  refine T.call (v := fun (x6 : (Nat) × (Nat) × (Option Addr × Nat) × (Ads)) => .tuple #[.pointer (some ⟨x6.1, 0, none⟩), .int .i64 r1p1]) (hs' := fun x6 => Cl x6.1 69 [.int .i64 r1p0.1.1, .map (some x6.2.1), .slice x6.2.2.1.1 r1p0.2.2.length x6.2.2.1.2, .bool r1p0.1.2.1, .int .i64 r1p0.1.2.2.1, .int .i64 r1p0.1.2.2.2.1, .int .u64 r1p0.1.2.2.2.2.1, .int .i64 r1p0.1.2.2.2.2.2.1, .int .i64 r1p0.1.2.2.2.2.2.2] :: Mp (Elt.slice E8) x6.2.1 r1p0.2.1 :: Hb 71 x6.2.2.1.1 x6.2.2.1.2 x6.2.2.2 r1p0.2.2 :: Bb 5 x6.2.2.2 r1p0.2.2 :: hs) .list (wants0 rfl) rfl (run_callF (vs := [_]) rfl Try.func9 rfl (by decide) rfl) (fun w hS => disk_New.c hS  hg1) (fun x6 => ?_)
  refine T.move .list rfl (wants0 rfl) rfl rfl ?_
  refine T.extract .list rfl (wants0 rfl) rfl rfl rfl ?_
  refine T.extract .list rfl (wants0 rfl) rfl rfl rfl ?_
  refine T.assign .list rfl (wants0 rfl) rfl rfl ?_
  refine T.assign .list rfl (wants0 rfl) rfl rfl ?_
  refine T.nil ?_
  refine T.then_normal ?_
  refine T.seq ?_
  refine T.region ?_
  obtain ⟨r3, hg3, hr⟩ := inv_bind hr
  rcases r3 with ⟨_ | r3p0, r3p1⟩
  ·dsimp only at hr
   refine T.call (v := fun (x7 : (Nat) × (Nat) × (Option Addr × Nat) × (Ads)) => .tuple #[.pointer none, .int .i64 r3p1]) (hs' := fun x7 => Cl x6.1 69 [.int .i64 r1p0.1.1, .map (some x6.2.1), .slice x6.2.2.1.1 r1p0.2.2.length x6.2.2.1.2, .bool r1p0.1.2.1, .int .i64 r1p0.1.2.2.1, .int .i64 r1p0.1.2.2.2.1, .int .u64 r1p0.1.2.2.2.2.1, .int .i64 r1p0.1.2.2.2.2.2.1, .int .i64 r1p0.1.2.2.2.2.2.2] :: Mp (Elt.slice E8) x6.2.1 r1p0.2.1 :: Hb 71 x6.2.2.1.1 x6.2.2.1.2 x6.2.2.2 r1p0.2.2 :: Bb 5 x6.2.2.2 r1p0.2.2 :: hs) .list (wants0 rfl) rfl (run_callF (vs := [_]) rfl Try.func9 rfl (by decide) rfl) (fun w hS => disk_New.c hS  hg3) (fun x7 => ?_)
   refine T.move .list rfl (wants0 rfl) rfl rfl ?_
   refine T.extract .list rfl (wants0 rfl) rfl rfl rfl ?_
   refine T.extract .list rfl (wants0 rfl) rfl rfl rfl ?_
   refine T.assign .list rfl (wants0 rfl) rfl rfl ?_
   refine T.assign .list rfl (wants0 rfl) rfl rfl ?_
   refine T.nil ?_
   refine T.then_normal ?_
   refine T.seq ?_
   refine T.seqJ (fun (s3 : Bool) (x8 : Unit) => [(1, .pointer (some ⟨x6.1, 0, none⟩)), (28, .bool s3)]) (fun s3 x8 => Cl x6.1 69 [.int .i64 r1p0.1.1, .map (some x6.2.1), .slice x6.2.2.1.1 r1p0.2.2.length x6.2.2.1.2, .bool r1p0.1.2.1, .int .i64 r1p0.1.2.2.1, .int .i64 r1p0.1.2.2.2.1, .int .u64 r1p0.1.2.2.2.2.1, .int .i64 r1p0.1.2.2.2.2.2.1, .int .i64 r1p0.1.2.2.2.2.2.2] :: Mp (Elt.slice E8) x6.2.1 r1p0.2.1 :: Hb 71 x6.2.2.1.1 x6.2.2.1.2 x6.2.2.2 r1p0.2.2 :: Bb 5 x6.2.2.2 r1p0.2.2 :: hs) (fun s3 => law3_told.k3 r1p0 s3 = some r) (fun s3 x8 hk3 => ?_) (fun J3 => ?_)
   ·unfold law3_told.k3 at hk3
    refine T.cond rfl (fun hb3 => ?_) (fun hb3 => ?_)
    ·replace hk3 := inv_posB hb3 hk3
     refine T.seq ?_
     refine T.region ?_
     refine T.assign .list rfl (wants0 rfl) rfl rfl ?_
     refine T.nil ?_
     refine T.then_normal ?_
     refine T.ret ?_
     refine T.then_ret ?_
     obtain rfl := inv_some hk3
     refine T.pick [] 4 rfl rfl (Nat.le_add_left _ _) rfl ?_
     refine T.ret1 rfl rfl (fun w hS => ⟨(), rfl, hS⟩)
    ·replace hk3 := inv_negB hb3 hk3
     refine T.skip ?_
     refine T.then_normal ?_
     refine T.seq ?_
     refine T.region ?_
     refine T.move .list rfl (wants0 rfl) rfl rfl ?_
     refine T.lit (E := E8) .list (vals := [(0, .int .u8 1)]) (cells := #[.int .u8 1]) rfl (wants0 rfl) rfl rfl rfl rfl rfl (by kernel_rfl) ([(1 : UInt8)] : List UInt8) rfl (fun _ _ _ _ _ => (Encs.c1 (enc := b8) (h1 := fun _ => rfl) rfl rfl)) (fun b1 => ?_)
     refine T.pick [1, 2, 3, 4, 0] 5 rfl rfl (Nat.le_add_left _ _) (hs' := Cl x6.1 69 [.int .i64 r1p0.1.1, .map (some x6.2.1), .slice x6.2.2.1.1 r1p0.2.2.length x6.2.2.1.2, .bool r1p0.1.2.1, .int .i64 r1p0.1.2.2.1, .int .i64 r1p0.1.2.2.2.1, .int .u64 r1p0.1.2.2.2.2.1, .int .i64 r1p0.1.2.2.2.2.2.1, .int .i64 r1p0.1.2.2.2.2.2.2] :: Mp (Elt.slice E8) x6.2.1 r1p0.2.1 :: Hb 71 x6.2.2.1.1 x6.2.2.1.2 x6.2.2.2 r1p0.2.2 :: Bb 5 x6.2.2.2 r1p0.2.2 :: Bf E8 5 (some ⟨b1, 0, none⟩) 1 (([(1 : UInt8)] : List UInt8)) :: hs) rfl ?_
     obtain ⟨r4, hg4, hk3⟩ := inv_bind hk3
     refine T.call .list (wants0 rfl) rfl (run_callF (vs := [_, _, _]) rfl Try.func11 rfl (by decide) rfl) (fun w hS => disk_Disk_Write.c hS (o0 := (r1p0.1.1, r1p0.1.2.1, r1p0.1.2.2.1, r1p0.1.2.2.2.1, r1p0.1.2.2.2.2.1, r1p0.1.2.2.2.2.2.1, r1p0.1.2.2.2.2.2.2)) (q0b := r1p0.2.1) (q0c := r1p0.2.2) (l2 := ([(1 : UInt8)] : List UInt8))  hg4) (fun x9 => ?_)
     refine T.nil ?_
     refine T.then_normal ?_
     refine T.seq ?_
     refine T.region ?_
     refine T.move .list rfl (wants0 rfl) rfl rfl ?_
     refine T.pick [0, 1, 2, 3, 4] 5 rfl rfl (Nat.le_add_left _ _) (hs' := Cl x6.1 69 [.int .i64 r4.2.1.1, .map (some x6.2.1), .slice x9.1.1 r4.2.2.2.length x9.1.2, .bool r4.2.1.2.1, .int .i64 r4.2.1.2.2.1, .int .i64 r4.2.1.2.2.2.1, .int .u64 r4.2.1.2.2.2.2.1, .int .i64 r4.2.1.2.2.2.2.2.1, .int .i64 r4.2.1.2.2.2.2.2.2] :: Mp (Elt.slice E8) x6.2.1 r4.2.2.1 :: Hb 71 x9.1.1 x9.1.2 x9.2 r4.2.2.2 :: Bb 5 x9.2 r4.2.2.2 :: Bf E8 5 (some ⟨b1, 0, none⟩) 1 (([(1 : UInt8)] : List UInt8)) :: hs) rfl ?_
     obtain ⟨r5, hg5, hk3⟩ := inv_bind hk3
     refine T.call .list (wants0 rfl) rfl (run_callF (vs := [_]) rfl Try.func10 rfl (by decide) rfl) (fun w hS => disk_Disk_Flush.c hS (o0 := (r4.2.1.1, r4.2.1.2.1, r4.2.1.2.2.1, r4.2.1.2.2.2.1, r4.2.1.2.2.2.2.1, r4.2.1.2.2.2.2.2.1, r4.2.1.2.2.2.2.2.2)) (q0b := r4.2.2.1) (q0c := r4.2.2.2)  hg5) (fun x10 => ?_)
     refine T.nil ?_
     refine T.then_normal ?_
     refine T.seq ?_
     refine T.region ?_
     refine T.move .list rfl (wants0 rfl) rfl rfl ?_
     refine T.lit (E := E8) .list (vals := [(0, .int .u8 2)]) (cells := #[.int .u8 2]) rfl (wants0 rfl) rfl rfl rfl rfl rfl (by kernel_rfl) ([(2 : UInt8)] : List UInt8) rfl (fun _ _ _ _ _ => (Encs.c1 (enc := b8) (h1 := fun _ => rfl) rfl rfl)) (fun b2 => ?_)
     refine T.pick [1, 2, 3, 4, 0, 5] 6 rfl rfl (Nat.le_add_left _ _) (hs' := Cl x6.1 69 [.int .i64 r5.2.1.1, .map (some x6.2.1), .slice x10.1.1 r5.2.2.2.length x10.1.2, .bool r5.2.1.2.1, .int .i64 r5.2.1.2.2.1, .int .i64 r5.2.1.2.2.2.1, .int .u64 r5.2.1.2.2.2.2.1, .int .i64 r5.2.1.2.2.2.2.2.1, .int .i64 r5.2.1.2.2.2.2.2.2] :: Mp (Elt.slice E8) x6.2.1 r5.2.2.1 :: Hb 71 x10.1.1 x10.1.2 x10.2 r5.2.2.2 :: Bb 5 x10.2 r5.2.2.2 :: Bf E8 5 (some ⟨b2, 0, none⟩) 1 (([(2 : UInt8)] : List UInt8)) :: Bf E8 5 (some ⟨b1, 0, none⟩) 1 (([(1 : UInt8)] : List UInt8)) :: hs) rfl ?_
     obtain ⟨r6, hg6, hk3⟩ := inv_bind hk3
     refine T.call .list (wants0 rfl) rfl (run_callF (vs := [_, _, _]) rfl Try.func11 rfl (by decide) rfl) (fun w hS => disk_Disk_Write.c hS (o0 := (r5.2.1.1, r5.2.1.2.1, r5.2.1.2.2.1, r5.2.1.2.2.2.1, r5.2.1.2.2.2.2.1, r5.2.1.2.2.2.2.2.1, r5.2.1.2.2.2.2.2.2)) (q0b := r5.2.2.1) (q0c := r5.2.2.2) (l2 := ([(2 : UInt8)] : List UInt8))  hg6) (fun x11 => ?_)
     refine T.nil ?_
     refine T.then_normal ?_
     refine T.seq ?_
     refine T.region ?_
     refine T.move .list rfl (wants0 rfl) rfl rfl ?_
     refine T.lit (E := E8) .list (vals := [(0, .int .u8 3)]) (cells := #[.int .u8 3]) rfl (wants0 rfl) rfl rfl rfl rfl rfl (by kernel_rfl) ([(3 : UInt8)] : List UInt8) rfl (fun _ _ _ _ _ => (Encs.c1 (enc := b8) (h1 := fun _ => rfl) rfl rfl)) (fun b3 => ?_)
     refine T.pick [1, 2, 3, 4, 0, 5, 6] 7 rfl rfl (Nat.le_add_left _ _) (hs' := Cl x6.1 69 [.int .i64 r6.2.1.1, .map (some x6.2.1), .slice x11.1.1 r6.2.2.2.length x11.1.2, .bool r6.2.1.2.1, .int .i64 r6.2.1.2.2.1, .int .i64 r6.2.1.2.2.2.1, .int .u64 r6.2.1.2.2.2.2.1, .int .i64 r6.2.1.2.2.2.2.2.1, .int .i64 r6.2.1.2.2.2.2.2.2] :: Mp (Elt.slice E8) x6.2.1 r6.2.2.1 :: Hb 71 x11.1.1 x11.1.2 x11.2 r6.2.2.2 :: Bb 5 x11.2 r6.2.2.2 :: Bf E8 5 (some ⟨b3, 0, none⟩) 1 (([(3 : UInt8)] : List UInt8)) :: Bf E8 5 (some ⟨b2, 0, none⟩) 1 (([(2 : UInt8)] : List UInt8)) :: Bf E8 5 (some ⟨b1, 0, none⟩) 1 (([(1 : UInt8)] : List UInt8)) :: hs) rfl ?_
     obtain ⟨r7, hg7, hk3⟩ := inv_bind hk3
     refine T.call .list (wants0 rfl) rfl (run_callF (vs := [_, _, _]) rfl Try.func11 rfl (by decide) rfl) (fun w hS => disk_Disk_Write.c hS (o0 := (r6.2.1.1, r6.2.1.2.1, r6.2.1.2.2.1, r6.2.1.2.2.2.1, r6.2.1.2.2.2.2.1, r6.2.1.2.2.2.2.2.1, r6.2.1.2.2.2.2.2.2)) (q0b := r6.2.2.1) (q0c := r6.2.2.2) (l2 := ([(3 : UInt8)] : List UInt8))  hg7) (fun x12 => ?_)
     refine T.nil ?_
     refine T.then_normal ?_
     refine T.seq ?_
     refine T.region ?_
     refine T.move .list rfl (wants0 rfl) rfl rfl ?_
     refine T.build .list (vals := [(1, .int .u64 2), (2, .int .i64 (-1))]) (cells := #[.int .i64 0, .int .u64 2, .int .i64 (-1), .int .i64 0]) rfl (wants0 rfl) rfl rfl (run_buildStruct (sizes := [1, 1, 1, 1]) (by kernel_rfl) (by kernel_rfl)) ?_
     refine T.pick [0, 1, 2, 3, 4, 5, 6] 7 rfl rfl (Nat.le_add_left _ _) (hs' := Cl x6.1 69 [.int .i64 r7.2.1.1, .map (some x6.2.1), .slice x12.1.1 r7.2.2.2.length x12.1.2, .bool r7.2.1.2.1, .int .i64 r7.2.1.2.2.1, .int .i64 r7.2.1.2.2.2.1, .int .u64 r7.2.1.2.2.2.2.1, .int .i64 r7.2.1.2.2.2.2.2.1, .int .i64 r7.2.1.2.2.2.2.2.2] :: Mp (Elt.slice E8) x6.2.1 r7.2.2.1 :: Hb 71 x12.1.1 x12.1.2 x12.2 r7.2.2.2 :: Bb 5 x12.2 r7.2.2.2 :: Bf E8 5 (some ⟨b3, 0, none⟩) 1 (([(3 : UInt8)] : List UInt8)) :: Bf E8 5 (some ⟨b2, 0, none⟩) 1 (([(2 : UInt8)] : List UInt8)) :: Bf E8 5 (some ⟨b1, 0, none⟩) 1 (([(1 : UInt8)] : List UInt8)) :: hs) rfl ?_
     obtain ⟨r8, hg8, hk3⟩ := inv_bind hk3
     refine T.call .list (wants0 rfl) rfl (run_callF (vs := [_, _]) rfl Try.func12 rfl (by decide) rfl) (fun w hS => disk_Disk_Cut.c hS (o0 := (r7.2.1.1, r7.2.1.2.1, r7.2.1.2.2.1, r7.2.1.2.2.2.1, r7.2.1.2.2.2.2.1, r7.2.1.2.2.2.2.2.1, r7.2.1.2.2.2.2.2.2)) (q0b := r7.2.2.1) (q0c := r7.2.2.2) (a1 := (0, 2, -1, 0))  hg8) (fun x13 => ?_)
     refine T.nil ?_
     refine T.then_normal ?_
     refine T.seq ?_
     refine T.region ?_
     refine T.move .list rfl (wants0 rfl) rfl rfl ?_
     refine T.pick [0, 1, 2, 3, 4, 5, 6] 7 rfl rfl (Nat.le_add_left _ _) (hs' := Cl x6.1 69 [.int .i64 r8.1.1, .map (some x6.2.1), .slice x13.1.1 r8.2.2.length x13.1.2, .bool r8.1.2.1, .int .i64 r8.1.2.2.1, .int .i64 r8.1.2.2.2.1, .int .u64 r8.1.2.2.2.2.1, .int .i64 r8.1.2.2.2.2.2.1, .int .i64 r8.1.2.2.2.2.2.2] :: Mp (Elt.slice E8) x6.2.1 r8.2.1 :: Hb 71 x13.1.1 x13.1.2 x13.2 r8.2.2 :: Bb 5 x13.2 r8.2.2 :: Bf E8 5 (some ⟨b3, 0, none⟩) 1 (([(3 : UInt8)] : List UInt8)) :: Bf E8 5 (some ⟨b2, 0, none⟩) 1 (([(2 : UInt8)] : List UInt8)) :: Bf E8 5 (some ⟨b1, 0, none⟩) 1 (([(1 : UInt8)] : List UInt8)) :: hs) rfl ?_
     obtain ⟨r9, hg9, hk3⟩ := inv_bind hk3
     refine T.call .list (wants0 rfl) rfl (run_callF (vs := [_, _]) rfl Try.func14 rfl (by decide) rfl) (fun w hS => disk_Disk_Read.c hS (o0 := (r8.1.1, r8.1.2.1, r8.1.2.2.1, r8.1.2.2.2.1, r8.1.2.2.2.2.1, r8.1.2.2.2.2.2.1, r8.1.2.2.2.2.2.2)) (q0b := r8.2.1) (q0c := r8.2.2)  hg9) (fun x14 => ?_)
     refine T.move .list rfl (wants0 rfl) rfl rfl ?_
     refine T.extract .list rfl (wants0 rfl) rfl rfl rfl ?_
     refine T.extract .list rfl (wants0 rfl) rfl rfl rfl ?_
     refine T.assign .list rfl (wants0 rfl) rfl rfl ?_
     refine T.assign .list rfl (wants0 rfl) rfl rfl ?_
     refine T.nil ?_
     refine T.then_normal ?_
     refine T.seq ?_
     refine T.region ?_
     refine T.move .list rfl (wants0 rfl) rfl rfl ?_
     refine T.pick [1, 2, 3, 4, 0, 5, 6, 7] 8 rfl rfl (Nat.le_add_left _ _) (hs' := Cl x6.1 69 [.int .i64 r8.1.1, .map (some x6.2.1), .slice x13.1.1 r8.2.2.length x13.1.2, .bool r8.1.2.1, .int .i64 r8.1.2.2.1, .int .i64 r8.1.2.2.2.1, .int .u64 r8.1.2.2.2.2.1, .int .i64 r8.1.2.2.2.2.2.1, .int .i64 r8.1.2.2.2.2.2.2] :: Mp (Elt.slice E8) x6.2.1 r8.2.1 :: Hb 71 x13.1.1 x13.1.2 x13.2 r8.2.2 :: Bb 5 x13.2 r8.2.2 :: Bf E8 5 x14.1 x14.2 r9.1 :: Bf E8 5 (some ⟨b3, 0, none⟩) 1 (([(3 : UInt8)] : List UInt8)) :: Bf E8 5 (some ⟨b2, 0, none⟩) 1 (([(2 : UInt8)] : List UInt8)) :: Bf E8 5 (some ⟨b1, 0, none⟩) 1 (([(1 : UInt8)] : List UInt8)) :: hs) rfl ?_
     obtain ⟨r10, hg10, hk3⟩ := inv_bind hk3
     refine T.call .list (wants0 rfl) rfl (run_callF (vs := [_]) rfl Try.func13 rfl (by decide) rfl) (fun w hS => disk_Disk_Restart.c hS (o0 := (r8.1.1, r8.1.2.1, r8.1.2.2.1, r8.1.2.2.2.1, r8.1.2.2.2.2.1, r8.1.2.2.2.2.2.1, r8.1.2.2.2.2.2.2)) (q0b := r8.2.1) (q0c := r8.2.2)  hg10) (fun x15 => ?_)
     refine T.nil ?_
     refine T.then_normal ?_
     refine T.seq ?_
     refine T.region ?_
     refine T.move .list rfl (wants0 rfl) rfl rfl ?_
     refine T.pick [0, 1, 2, 3, 4, 5, 6, 7] 8 rfl rfl (Nat.le_add_left _ _) (hs' := Cl x6.1 69 [.int .i64 r10.1, .map (some x6.2.1), .slice x13.1.1 r8.2.2.length x13.1.2, .bool r10.2.1, .int .i64 r10.2.2.1, .int .i64 r10.2.2.2.1, .int .u64 r10.2.2.2.2.1, .int .i64 r10.2.2.2.2.2.1, .int .i64 r10.2.2.2.2.2.2] :: Mp (Elt.slice E8) x6.2.1 r8.2.1 :: Hb 71 x13.1.1 x13.1.2 x13.2 r8.2.2 :: Bb 5 x13.2 r8.2.2 :: Bf E8 5 x14.1 x14.2 r9.1 :: Bf E8 5 (some ⟨b3, 0, none⟩) 1 (([(3 : UInt8)] : List UInt8)) :: Bf E8 5 (some ⟨b2, 0, none⟩) 1 (([(2 : UInt8)] : List UInt8)) :: Bf E8 5 (some ⟨b1, 0, none⟩) 1 (([(1 : UInt8)] : List UInt8)) :: hs) rfl ?_
     obtain ⟨r11, hg11, hk3⟩ := inv_bind hk3
     refine T.call .list (wants0 rfl) rfl (run_callF (vs := [_, _]) rfl Try.func14 rfl (by decide) rfl) (fun w hS => disk_Disk_Read.c hS (o0 := (r10.1, r10.2.1, r10.2.2.1, r10.2.2.2.1, r10.2.2.2.2.1, r10.2.2.2.2.2.1, r10.2.2.2.2.2.2)) (q0b := r8.2.1) (q0c := r8.2.2)  hg11) (fun x16 => ?_)
     refine T.move .list rfl (wants0 rfl) rfl rfl ?_
     refine T.extract .list rfl (wants0 rfl) rfl rfl rfl ?_
     refine T.extract .list rfl (wants0 rfl) rfl rfl rfl ?_
     refine T.assign .list rfl (wants0 rfl) rfl rfl ?_
     refine T.assign .list rfl (wants0 rfl) rfl rfl ?_
     refine T.nil ?_
     refine T.then_normal ?_
     refine T.seq ?_
     refine T.region ?_
     refine T.move .list rfl (wants0 rfl) rfl rfl ?_
     refine T.pick [1, 2, 3, 4, 0, 5, 6, 7, 8] 9 rfl rfl (Nat.le_add_left _ _) (hs' := Cl x6.1 69 [.int .i64 r10.1, .map (some x6.2.1), .slice x13.1.1 r8.2.2.length x13.1.2, .bool r10.2.1, .int .i64 r10.2.2.1, .int .i64 r10.2.2.2.1, .int .u64 r10.2.2.2.2.1, .int .i64 r10.2.2.2.2.2.1, .int .i64 r10.2.2.2.2.2.2] :: Mp (Elt.slice E8) x6.2.1 r8.2.1 :: Hb 71 x13.1.1 x13.1.2 x13.2 r8.2.2 :: Bb 5 x13.2 r8.2.2 :: Bf E8 5 x16.1 x16.2 r11.1 :: Bf E8 5 x14.1 x14.2 r9.1 :: Bf E8 5 (some ⟨b3, 0, none⟩) 1 (([(3 : UInt8)] : List UInt8)) :: Bf E8 5 (some ⟨b2, 0, none⟩) 1 (([(2 : UInt8)] : List UInt8)) :: Bf E8 5 (some ⟨b1, 0, none⟩) 1 (([(1 : UInt8)] : List UInt8)) :: hs) rfl ?_
     obtain ⟨r12, hg12, hk3⟩ := inv_bind hk3
     refine T.call .list (wants0 rfl) rfl (run_callF (vs := [_, _]) rfl Try.func14 rfl (by decide) rfl) (fun w hS => disk_Disk_Read.c hS (o0 := (r10.1, r10.2.1, r10.2.2.1, r10.2.2.2.1, r10.2.2.2.2.1, r10.2.2.2.2.2.1, r10.2.2.2.2.2.2)) (q0b := r8.2.1) (q0c := r8.2.2)  hg12) (fun x17 => ?_)
     refine T.move .list rfl (wants0 rfl) rfl rfl ?_
     refine T.extract .list rfl (wants0 rfl) rfl rfl rfl ?_
     refine T.extract .list rfl (wants0 rfl) rfl rfl rfl ?_
     refine T.assign .list rfl (wants0 rfl) rfl rfl ?_
     refine T.assign .list rfl (wants0 rfl) rfl rfl ?_
     refine T.nil ?_
     refine T.then_normal ?_
     refine T.seq ?_
     refine T.region ?_
     refine T.move .list rfl (wants0 rfl) rfl rfl ?_
     refine T.bin .list rfl (wants0 rfl) rfl rfl rfl rfl ?_
     refine T.move .list rfl (wants0 rfl) rfl rfl ?_
     refine T.bool (b := (decide (r9.2 = 20))) (fun hb4 => ?_) (fun hb4 => ?_)
     ·replace hk3 := inv_posB hb4 hk3
      refine T.move .list rfl (wants1 rfl rfl rfl hb4) rfl rfl ?_
      refine T.bin .list rfl (wants1 rfl rfl rfl hb4) rfl rfl rfl rfl ?_
      refine T.pickT .list rfl (wants0 rfl) rfl rfl hb4 rfl ?_
      refine T.move .list rfl (wants0 rfl) rfl rfl ?_
      refine T.bool (b := (decide (r12.2 = 0))) (fun hb5 => ?_) (fun hb5 => ?_)
      ·replace hk3 := inv_posB hb5 hk3
       refine T.move .list rfl (wants1 rfl rfl rfl hb5) rfl rfl ?_
       refine T.lenSlice .list rfl (wants1 rfl rfl rfl hb5) rfl rfl ?_
       refine T.bin .list rfl (wants1 rfl rfl rfl hb5) rfl rfl rfl rfl ?_
       refine T.pickT .list rfl (wants0 rfl) rfl rfl hb5 rfl ?_
       refine T.move .list rfl (wants0 rfl) rfl rfl ?_
       refine T.bool (b := (decide ((((r11.1.length : Int))) = 8192))) (fun hb6 => ?_) (fun hb6 => ?_)
       ·replace hk3 := inv_posB hb6 hk3
        refine T.move .list rfl (wants1 rfl rfl rfl hb6) rfl rfl ?_
        refine T.lenSlice .list rfl (wants1 rfl rfl rfl hb6) rfl rfl ?_
        refine T.bin .list rfl (wants1 rfl rfl rfl hb6) rfl rfl rfl rfl ?_
        refine T.pickT .list rfl (wants0 rfl) rfl rfl hb6 rfl ?_
        refine T.move .list rfl (wants0 rfl) rfl rfl ?_
        refine T.bool (b := (decide ((((r12.1.length : Int))) = 8192))) (fun hb7 => ?_) (fun hb7 => ?_)
        ·replace hk3 := inv_posB hb7 hk3
         refine T.move .list rfl (wants1 rfl rfl rfl hb7) rfl rfl ?_
         obtain ⟨hc1, hk3⟩ := inv_chk hk3
         refine T.idxBf .list 5 rfl rfl (wants1 rfl rfl rfl hb7) rfl rfl rfl hc1.1 hc1.2 (Nat.le_refl _) ?_
         refine T.ldBf1 .list 5 rfl rfl (wants1 rfl rfl rfl hb7) rfl rfl hc1.1 hc1.2 ?_
         refine T.bin .list rfl (wants1 rfl rfl rfl hb7) rfl rfl rfl rfl ?_
         refine T.pickT .list rfl (wants0 rfl) rfl rfl hb7 rfl ?_
         refine T.move .list rfl (wants0 rfl) rfl rfl ?_
         refine T.bool (b := (decide ((((((r11.1).getD (0 : Int).toNat default).toNat : Int))) = 1))) (fun hb8 => ?_) (fun hb8 => ?_)
         ·replace hk3 := inv_posB hb8 hk3
          refine T.move .list rfl (wants1 rfl rfl rfl hb8) rfl rfl ?_
          obtain ⟨hc2, hk3⟩ := inv_chk hk3
          refine T.idxBf .list 0 rfl rfl (wants1 rfl rfl rfl hb8) rfl rfl rfl hc2.1 hc2.2 (Nat.le_refl _) ?_
          refine T.ldBf1 .list 0 rfl rfl (wants1 rfl rfl rfl hb8) rfl rfl hc2.1 hc2.2 ?_
          refine T.bin .list rfl (wants1 rfl rfl rfl hb8) rfl rfl rfl rfl ?_
          refine T.pickT .list rfl (wants0 rfl) rfl rfl hb8 rfl ?_
          refine T.move .list rfl (wants0 rfl) rfl rfl ?_
          refine T.bool (b := (decide ((((((r12.1).getD (0 : Int).toNat default).toNat : Int))) = 3))) (fun hb9 => ?_) (fun hb9 => ?_)
          ·replace hk3 := inv_posB hb9 hk3
           refine T.move .list rfl (wants1 rfl rfl rfl hb9) rfl rfl ?_
           refine T.pick [1, 2, 3, 4, 0, 5, 6, 7, 8, 9] 10 rfl rfl (Nat.le_add_left _ _) (hs' := Cl x6.1 69 [.int .i64 r10.1, .map (some x6.2.1), .slice x13.1.1 r8.2.2.length x13.1.2, .bool r10.2.1, .int .i64 r10.2.2.1, .int .i64 r10.2.2.2.1, .int .u64 r10.2.2.2.2.1, .int .i64 r10.2.2.2.2.2.1, .int .i64 r10.2.2.2.2.2.2] :: Mp (Elt.slice E8) x6.2.1 r8.2.1 :: Hb 71 x13.1.1 x13.1.2 x13.2 r8.2.2 :: Bb 5 x13.2 r8.2.2 :: Bf E8 5 x17.1 x17.2 r12.1 :: Bf E8 5 x16.1 x16.2 r11.1 :: Bf E8 5 x14.1 x14.2 r9.1 :: Bf E8 5 (some ⟨b3, 0, none⟩) 1 (([(3 : UInt8)] : List UInt8)) :: Bf E8 5 (some ⟨b2, 0, none⟩) 1 (([(2 : UInt8)] : List UInt8)) :: Bf E8 5 (some ⟨b1, 0, none⟩) 1 (([(1 : UInt8)] : List UInt8)) :: hs) rfl ?_
           obtain ⟨r13, hg13, hk3⟩ := inv_bind hk3
           refine T.call .list (wants1 rfl rfl rfl hb9) rfl (run_callF (vs := [_]) rfl Try.func21 rfl (by decide) rfl) (fun w hS => disk_Disk_Life.c hS (o0 := (r10.1, r10.2.1, r10.2.2.1, r10.2.2.2.1, r10.2.2.2.2.1, r10.2.2.2.2.2.1, r10.2.2.2.2.2.2)) (q0b := r8.2.1) (q0c := r8.2.2)  hg13) (fun x18 => ?_)
           refine T.bin .list rfl (wants1 rfl rfl rfl hb9) rfl rfl rfl rfl ?_
           refine T.pickT .list rfl (wants0 rfl) rfl rfl hb9 rfl ?_
           refine T.move .list rfl (wants0 rfl) rfl rfl ?_
           refine T.bool (b := (decide (r13 = 1))) (fun hb10 => ?_) (fun hb10 => ?_)
           ·replace hk3 := inv_posB hb10 hk3
            refine T.move .list rfl (wants1 rfl rfl rfl hb10) rfl rfl ?_
            refine T.pick [0, 1, 2, 3, 4, 5, 6, 7, 8, 9] 10 rfl rfl (Nat.le_add_left _ _) (hs' := Cl x6.1 69 [.int .i64 r10.1, .map (some x6.2.1), .slice x13.1.1 r8.2.2.length x13.1.2, .bool r10.2.1, .int .i64 r10.2.2.1, .int .i64 r10.2.2.2.1, .int .u64 r10.2.2.2.2.1, .int .i64 r10.2.2.2.2.2.1, .int .i64 r10.2.2.2.2.2.2] :: Mp (Elt.slice E8) x6.2.1 r8.2.1 :: Hb 71 x13.1.1 x13.1.2 x13.2 r8.2.2 :: Bb 5 x13.2 r8.2.2 :: Bf E8 5 x17.1 x17.2 r12.1 :: Bf E8 5 x16.1 x16.2 r11.1 :: Bf E8 5 x14.1 x14.2 r9.1 :: Bf E8 5 (some ⟨b3, 0, none⟩) 1 (([(3 : UInt8)] : List UInt8)) :: Bf E8 5 (some ⟨b2, 0, none⟩) 1 (([(2 : UInt8)] : List UInt8)) :: Bf E8 5 (some ⟨b1, 0, none⟩) 1 (([(1 : UInt8)] : List UInt8)) :: hs) rfl ?_
            obtain ⟨r14, hg14, hk3⟩ := inv_bind hk3
            refine T.call .list (wants1 rfl rfl rfl hb10) rfl (run_callF (vs := [_]) rfl Try.func17 rfl (by decide) rfl) (fun w hS => disk_Disk_Open.c hS (o0 := (r10.1, r10.2.1, r10.2.2.1, r10.2.2.2.1, r10.2.2.2.2.1, r10.2.2.2.2.2.1, r10.2.2.2.2.2.2)) (q0b := r8.2.1) (q0c := r8.2.2)  hg14) (fun x19 => ?_)
            refine T.bin .list rfl (wants1 rfl rfl rfl hb10) rfl rfl rfl rfl ?_
            refine T.pickT .list rfl (wants0 rfl) rfl rfl hb10 rfl ?_
            refine T.assign .list rfl (wants0 rfl) rfl rfl ?_
            refine T.nil ?_
            refine T.then_normal ?_
            refine T.ret ?_
            obtain rfl := inv_some hk3
            refine T.pick [] 10 rfl rfl (Nat.le_add_left _ _) rfl ?_
            refine T.ret1 rfl rfl (fun w hS => ⟨(), rfl, hS⟩)
           ·replace hk3 := inv_negB hb10 hk3
            refine T.leave .list (wantsNot rfl rfl rfl hb10) rfl ?_
            refine T.leave .list (wantsNot rfl rfl rfl hb10) rfl ?_
            refine T.leave .list (wantsNot rfl rfl rfl hb10) rfl ?_
            refine T.pickF .list rfl (wants0 rfl) rfl rfl hb10 rfl ?_
            refine T.assign .list rfl (wants0 rfl) rfl rfl ?_
            refine T.nil ?_
            refine T.then_normal ?_
            refine T.ret ?_
            obtain rfl := inv_some hk3
            refine T.pick [] 10 rfl rfl (Nat.le_add_left _ _) rfl ?_
            refine T.ret1 rfl rfl (fun w hS => ⟨(), rfl, hS⟩)
          ·replace hk3 := inv_negB hb9 hk3
           refine T.leave .list (wantsNot rfl rfl rfl hb9) rfl ?_
           refine T.leave .list (wantsNot rfl rfl rfl hb9) rfl ?_
           refine T.leave .list (wantsNot rfl rfl rfl hb9) rfl ?_
           refine T.pickF .list rfl (wants0 rfl) rfl rfl hb9 rfl ?_
           refine T.move .list rfl (wants0 rfl) rfl rfl ?_
           refine T.leave .list (wantsNot rfl rfl rfl rfl) rfl ?_
           refine T.leave .list (wantsNot rfl rfl rfl rfl) rfl ?_
           refine T.leave .list (wantsNot rfl rfl rfl rfl) rfl ?_
           refine T.pickF .list rfl (wants0 rfl) rfl rfl rfl rfl ?_
           refine T.assign .list rfl (wants0 rfl) rfl rfl ?_
           refine T.nil ?_
           refine T.then_normal ?_
           refine T.ret ?_
           obtain rfl := inv_some hk3
           refine T.pick [] 10 rfl rfl (Nat.le_add_left _ _) rfl ?_
           refine T.ret1 rfl rfl (fun w hS => ⟨(), rfl, hS⟩)
         ·replace hk3 := inv_negB hb8 hk3
          refine T.leave .list (wantsNot rfl rfl rfl hb8) rfl ?_
          refine T.leave .list (wantsNot rfl rfl rfl hb8) rfl ?_
          refine T.leave .list (wantsNot rfl rfl rfl hb8) rfl ?_
          refine T.leave .list (wantsNot rfl rfl rfl hb8) rfl ?_
          refine T.pickF .list rfl (wants0 rfl) rfl rfl hb8 rfl ?_
          refine T.move .list rfl (wants0 rfl) rfl rfl ?_
          refine T.leave .list (wantsNot rfl rfl rfl rfl) rfl ?_
          refine T.leave .list (wantsNot rfl rfl rfl rfl) rfl ?_
          refine T.leave .list (wantsNot rfl rfl rfl rfl) rfl ?_
          refine T.pickF .list rfl (wants0 rfl) rfl rfl rfl rfl ?_
          refine T.move .list rfl (wants0 rfl) rfl rfl ?_
          refine T.leave .list (wantsNot rfl rfl rfl rfl) rfl ?_
          refine T.leave .list (wantsNot rfl rfl rfl rfl) rfl ?_
          refine T.leave .list (wantsNot rfl rfl rfl rfl) rfl ?_
          refine T.pickF .list rfl (wants0 rfl) rfl rfl rfl rfl ?_
          refine T.assign .list rfl (wants0 rfl) rfl rfl ?_
          refine T.nil ?_
          refine T.then_normal ?_
          refine T.ret ?_
          obtain rfl := inv_some hk3
          refine T.pick [] 10 rfl rfl (Nat.le_add_left _ _) rfl ?_
          refine T.ret1 rfl rfl (fun w hS => ⟨(), rfl, hS⟩)
        ·replace hk3 := inv_negB hb7 hk3
         refine T.leave .list (wantsNot rfl rfl rfl hb7) rfl ?_
         refine T.leave .list (wantsNot rfl rfl rfl hb7) rfl ?_
         refine T.leave .list (wantsNot rfl rfl rfl hb7) rfl ?_
         refine T.leave .list (wantsNot rfl rfl rfl hb7) rfl ?_
         refine T.pickF .list rfl (wants0 rfl) rfl rfl hb7 rfl ?_
         refine T.move .list rfl (wants0 rfl) rfl rfl ?_
         refine T.leave .list (wantsNot rfl rfl rfl rfl) rfl ?_
         refine T.leave .list (wantsNot rfl rfl rfl rfl) rfl ?_
         refine T.leave .list (wantsNot rfl rfl rfl rfl) rfl ?_
         refine T.leave .list (wantsNot rfl rfl rfl rfl) rfl ?_
         refine T.pickF .list rfl (wants0 rfl) rfl rfl rfl rfl ?_
         refine T.move .list rfl (wants0 rfl) rfl rfl ?_
         refine T.leave .list (wantsNot rfl rfl rfl rfl) rfl ?_
         refine T.leave .list (wantsNot rfl rfl rfl rfl) rfl ?_
         refine T.leave .list (wantsNot rfl rfl rfl rfl) rfl ?_
         refine T.pickF .list rfl (wants0 rfl) rfl rfl rfl rfl ?_
         refine T.move .list rfl (wants0 rfl) rfl rfl ?_
         refine T.leave .list (wantsNot rfl rfl rfl rfl) rfl ?_
         refine T.leave .list (wantsNot rfl rfl rfl rfl) rfl ?_
         refine T.leave .list (wantsNot rfl rfl rfl rfl) rfl ?_
         refine T.pickF .list rfl (wants0 rfl) rfl rfl rfl rfl ?_
         refine T.assign .list rfl (wants0 rfl) rfl rfl ?_
         refine T.nil ?_
         refine T.then_normal ?_
         refine T.ret ?_
         obtain rfl := inv_some hk3
         refine T.pick [] 10 rfl rfl (Nat.le_add_left _ _) rfl ?_
         refine T.ret1 rfl rfl (fun w hS => ⟨(), rfl, hS⟩)
       ·replace hk3 := inv_negB hb6 hk3
        refine T.leave .list (wantsNot rfl rfl rfl hb6) rfl ?_
        refine T.leave .list (wantsNot rfl rfl rfl hb6) rfl ?_
        refine T.leave .list (wantsNot rfl rfl rfl hb6) rfl ?_
        refine T.pickF .list rfl (wants0 rfl) rfl rfl hb6 rfl ?_
        refine T.move .list rfl (wants0 rfl) rfl rfl ?_
        refine T.leave .list (wantsNot rfl rfl rfl rfl) rfl ?_
        refine T.leave .list (wantsNot rfl rfl rfl rfl) rfl ?_
        refine T.leave .list (wantsNot rfl rfl rfl rfl) rfl ?_
        refine T.leave .list (wantsNot rfl rfl rfl rfl) rfl ?_
        refine T.pickF .list rfl (wants0 rfl) rfl rfl rfl rfl ?_
        refine T.move .list rfl (wants0 rfl) rfl rfl ?_
        refine T.leave .list (wantsNot rfl rfl rfl rfl) rfl ?_
        refine T.leave .list (wantsNot rfl rfl rfl rfl) rfl ?_
        refine T.leave .list (wantsNot rfl rfl rfl rfl) rfl ?_
        refine T.leave .list (wantsNot rfl rfl rfl rfl) rfl ?_
        refine T.pickF .list rfl (wants0 rfl) rfl rfl rfl rfl ?_
        refine T.move .list rfl (wants0 rfl) rfl rfl ?_
        refine T.leave .list (wantsNot rfl rfl rfl rfl) rfl ?_
        refine T.leave .list (wantsNot rfl rfl rfl rfl) rfl ?_
        refine T.leave .list (wantsNot rfl rfl rfl rfl) rfl ?_
        refine T.pickF .list rfl (wants0 rfl) rfl rfl rfl rfl ?_
        refine T.move .list rfl (wants0 rfl) rfl rfl ?_
        refine T.leave .list (wantsNot rfl rfl rfl rfl) rfl ?_
        refine T.leave .list (wantsNot rfl rfl rfl rfl) rfl ?_
        refine T.leave .list (wantsNot rfl rfl rfl rfl) rfl ?_
        refine T.pickF .list rfl (wants0 rfl) rfl rfl rfl rfl ?_
        refine T.assign .list rfl (wants0 rfl) rfl rfl ?_
        refine T.nil ?_
        refine T.then_normal ?_
        refine T.ret ?_
        obtain rfl := inv_some hk3
        refine T.pick [] 10 rfl rfl (Nat.le_add_left _ _) rfl ?_
        refine T.ret1 rfl rfl (fun w hS => ⟨(), rfl, hS⟩)
      ·replace hk3 := inv_negB hb5 hk3
       refine T.leave .list (wantsNot rfl rfl rfl hb5) rfl ?_
       refine T.leave .list (wantsNot rfl rfl rfl hb5) rfl ?_
       refine T.leave .list (wantsNot rfl rfl rfl hb5) rfl ?_
       refine T.pickF .list rfl (wants0 rfl) rfl rfl hb5 rfl ?_
       refine T.move .list rfl (wants0 rfl) rfl rfl ?_
       refine T.leave .list (wantsNot rfl rfl rfl rfl) rfl ?_
       refine T.leave .list (wantsNot rfl rfl rfl rfl) rfl ?_
       refine T.leave .list (wantsNot rfl rfl rfl rfl) rfl ?_
       refine T.pickF .list rfl (wants0 rfl) rfl rfl rfl rfl ?_
       refine T.move .list rfl (wants0 rfl) rfl rfl ?_
       refine T.leave .list (wantsNot rfl rfl rfl rfl) rfl ?_
       refine T.leave .list (wantsNot rfl rfl rfl rfl) rfl ?_
       refine T.leave .list (wantsNot rfl rfl rfl rfl) rfl ?_
       refine T.leave .list (wantsNot rfl rfl rfl rfl) rfl ?_
       refine T.pickF .list rfl (wants0 rfl) rfl rfl rfl rfl ?_
       refine T.move .list rfl (wants0 rfl) rfl rfl ?_
       refine T.leave .list (wantsNot rfl rfl rfl rfl) rfl ?_
       refine T.leave .list (wantsNot rfl rfl rfl rfl) rfl ?_
       refine T.leave .list (wantsNot rfl rfl rfl rfl) rfl ?_
       refine T.leave .list (wantsNot rfl rfl rfl rfl) rfl ?_
       refine T.pickF .list rfl (wants0 rfl) rfl rfl rfl rfl ?_
       refine T.move .list rfl (wants0 rfl) rfl rfl ?_
       refine T.leave .list (wantsNot rfl rfl rfl rfl) rfl ?_
       refine T.leave .list (wantsNot rfl rfl rfl rfl) rfl ?_
       refine T.leave .list (wantsNot rfl rfl rfl rfl) rfl ?_
       refine T.pickF .list rfl (wants0 rfl) rfl rfl rfl rfl ?_
       refine T.move .list rfl (wants0 rfl) rfl rfl ?_
       refine T.leave .list (wantsNot rfl rfl rfl rfl) rfl ?_
       refine T.leave .list (wantsNot rfl rfl rfl rfl) rfl ?_
       refine T.leave .list (wantsNot rfl rfl rfl rfl) rfl ?_
       refine T.pickF .list rfl (wants0 rfl) rfl rfl rfl rfl ?_
       refine T.assign .list rfl (wants0 rfl) rfl rfl ?_
       refine T.nil ?_
       refine T.then_normal ?_
       refine T.ret ?_
       obtain rfl := inv_some hk3
       refine T.pick [] 10 rfl rfl (Nat.le_add_left _ _) rfl ?_
       refine T.ret1 rfl rfl (fun w hS => ⟨(), rfl, hS⟩)
     ·replace hk3 := inv_negB hb4 hk3
      refine T.leave .list (wantsNot rfl rfl rfl hb4) rfl ?_
      refine T.leave .list (wantsNot rfl rfl rfl hb4) rfl ?_
      refine T.pickF .list rfl (wants0 rfl) rfl rfl hb4 rfl ?_
      refine T.move .list rfl (wants0 rfl) rfl rfl ?_
      refine T.leave .list (wantsNot rfl rfl rfl rfl) rfl ?_
      refine T.leave .list (wantsNot rfl rfl rfl rfl) rfl ?_
      refine T.leave .list (wantsNot rfl rfl rfl rfl) rfl ?_
      refine T.pickF .list rfl (wants0 rfl) rfl rfl rfl rfl ?_
      refine T.move .list rfl (wants0 rfl) rfl rfl ?_
      refine T.leave .list (wantsNot rfl rfl rfl rfl) rfl ?_
      refine T.leave .list (wantsNot rfl rfl rfl rfl) rfl ?_
      refine T.leave .list (wantsNot rfl rfl rfl rfl) rfl ?_
      refine T.pickF .list rfl (wants0 rfl) rfl rfl rfl rfl ?_
      refine T.move .list rfl (wants0 rfl) rfl rfl ?_
      refine T.leave .list (wantsNot rfl rfl rfl rfl) rfl ?_
      refine T.leave .list (wantsNot rfl rfl rfl rfl) rfl ?_
      refine T.leave .list (wantsNot rfl rfl rfl rfl) rfl ?_
      refine T.leave .list (wantsNot rfl rfl rfl rfl) rfl ?_
      refine T.pickF .list rfl (wants0 rfl) rfl rfl rfl rfl ?_
      refine T.move .list rfl (wants0 rfl) rfl rfl ?_
      refine T.leave .list (wantsNot rfl rfl rfl rfl) rfl ?_
      refine T.leave .list (wantsNot rfl rfl rfl rfl) rfl ?_
      refine T.leave .list (wantsNot rfl rfl rfl rfl) rfl ?_
      refine T.leave .list (wantsNot rfl rfl rfl rfl) rfl ?_
      refine T.pickF .list rfl (wants0 rfl) rfl rfl rfl rfl ?_
      refine T.move .list rfl (wants0 rfl) rfl rfl ?_
      refine T.leave .list (wantsNot rfl rfl rfl rfl) rfl ?_
      refine T.leave .list (wantsNot rfl rfl rfl rfl) rfl ?_
      refine T.leave .list (wantsNot rfl rfl rfl rfl) rfl ?_
      refine T.pickF .list rfl (wants0 rfl) rfl rfl rfl rfl ?_
      refine T.move .list rfl (wants0 rfl) rfl rfl ?_
      refine T.leave .list (wantsNot rfl rfl rfl rfl) rfl ?_
      refine T.leave .list (wantsNot rfl rfl rfl rfl) rfl ?_
      refine T.leave .list (wantsNot rfl rfl rfl rfl) rfl ?_
      refine T.pickF .list rfl (wants0 rfl) rfl rfl rfl rfl ?_
      refine T.assign .list rfl (wants0 rfl) rfl rfl ?_
      refine T.nil ?_
      refine T.then_normal ?_
      refine T.ret ?_
      obtain rfl := inv_some hk3
      refine T.pick [] 10 rfl rfl (Nat.le_add_left _ _) rfl ?_
      refine T.ret1 rfl rfl (fun w hS => ⟨(), rfl, hS⟩)
   ·refine T.region ?_
    refine T.move .list rfl (wants0 rfl) rfl rfl ?_
    refine T.bin .list rfl (wants0 rfl) rfl rfl rfl rfl ?_
    refine T.move .list rfl (wants0 rfl) rfl rfl ?_
    refine T.bool (b := (decide (r1p1 = 0))) (fun hb11 => ?_) (fun hb11 => ?_)
    ·replace hr := inv_posB hb11 hr
     refine T.move .list rfl (wants1 rfl rfl rfl (not_t hb11)) rfl rfl ?_
     refine T.ptrEq (pt := 69) .list rfl (wants1 rfl rfl rfl (not_t hb11)) rfl rfl rfl (by kernel_rfl) (.inr rfl) rfl ?_
     refine T.pickF .list rfl (wants0 rfl) rfl rfl (not_t hb11) rfl ?_
     refine T.move .list rfl (wants0 rfl) rfl rfl ?_
     refine T.move .list rfl (wants1 rfl rfl rfl rfl) rfl rfl ?_
     refine T.bin .list rfl (wants1 rfl rfl rfl rfl) rfl rfl rfl rfl ?_
     refine T.pickF .list rfl (wants0 rfl) rfl rfl rfl rfl ?_
     refine T.nil ?_
     refine T.then_normal ?_
     exact T.le (EnvLe.cons rfl (EnvLe.cons rfl EnvLe.nil)) (T.pick [0, 1, 2, 3] 4 rfl rfl (Nat.le_add_left _ _) rfl (J3 (!(decide (r3p1 = 1))) () hr))
    ·replace hr := inv_negB hb11 hr
     refine T.leave .list (wantsNot rfl rfl rfl (not_f hb11)) rfl ?_
     refine T.leave .list (wantsNot rfl rfl rfl (not_f hb11)) rfl ?_
     refine T.pickT .list rfl (wants0 rfl) rfl rfl (not_f hb11) rfl ?_
     refine T.move .list rfl (wants0 rfl) rfl rfl ?_
     refine T.leave .list (wantsNot rfl rfl rfl rfl) rfl ?_
     refine T.leave .list (wantsNot rfl rfl rfl rfl) rfl ?_
     refine T.pickT .list rfl (wants0 rfl) rfl rfl rfl rfl ?_
     refine T.nil ?_
     refine T.then_normal ?_
     exact T.le (EnvLe.cons rfl (EnvLe.cons rfl EnvLe.nil)) (T.pick [0, 1, 2, 3] 4 rfl rfl (Nat.le_add_left _ _) rfl (J3 true () hr))
  ·dsimp only at hr
   refine T.call (v := fun (x20 : (Nat) × (Nat) × (Option Addr × Nat) × (Ads)) => .tuple #[.pointer (some ⟨x20.1, 0, none⟩), .int .i64 r3p1]) (hs' := fun x20 => Cl x20.1 69 [.int .i64 r3p0.1.1, .map (some x20.2.1), .slice x20.2.2.1.1 r3p0.2.2.length x20.2.2.1.2, .bool r3p0.1.2.1, .int .i64 r3p0.1.2.2.1, .int .i64 r3p0.1.2.2.2.1, .int .u64 r3p0.1.2.2.2.2.1, .int .i64 r3p0.1.2.2.2.2.2.1, .int .i64 r3p0.1.2.2.2.2.2.2] :: Mp (Elt.slice E8) x20.2.1 r3p0.2.1 :: Hb 71 x20.2.2.1.1 x20.2.2.1.2 x20.2.2.2 r3p0.2.2 :: Bb 5 x20.2.2.2 r3p0.2.2 :: Cl x6.1 69 [.int .i64 r1p0.1.1, .map (some x6.2.1), .slice x6.2.2.1.1 r1p0.2.2.length x6.2.2.1.2, .bool r1p0.1.2.1, .int .i64 r1p0.1.2.2.1, .int .i64 r1p0.1.2.2.2.1, .int .u64 r1p0.1.2.2.2.2.1, .int .i64 r1p0.1.2.2.2.2.2.1, .int .i64 r1p0.1.2.2.2.2.2.2] :: Mp (Elt.slice E8) x6.2.1 r1p0.2.1 :: Hb 71 x6.2.2.1.1 x6.2.2.1.2 x6.2.2.2 r1p0.2.2 :: Bb 5 x6.2.2.2 r1p0.2.2 :: hs) .list (wants0 rfl) rfl (run_callF (vs := [_]) rfl Try.func9 rfl (by decide) rfl) (fun w hS => disk_New.c hS  hg3) (fun x20 => ?_)
   refine T.move .list rfl (wants0 rfl) rfl rfl ?_
   refine T.extract .list rfl (wants0 rfl) rfl rfl rfl ?_
   refine T.extract .list rfl (wants0 rfl) rfl rfl rfl ?_
   refine T.assign .list rfl (wants0 rfl) rfl rfl ?_
   refine T.assign .list rfl (wants0 rfl) rfl rfl ?_
   refine T.nil ?_
   refine T.then_normal ?_
   refine T.seq ?_
   refine T.seqJ (fun (s4 : Bool) (x21 : Unit) => [(1, .pointer (some ⟨x6.1, 0, none⟩)), (28, .bool s4)]) (fun s4 x21 => Cl x6.1 69 [.int .i64 r1p0.1.1, .map (some x6.2.1), .slice x6.2.2.1.1 r1p0.2.2.length x6.2.2.1.2, .bool r1p0.1.2.1, .int .i64 r1p0.1.2.2.1, .int .i64 r1p0.1.2.2.2.1, .int .u64 r1p0.1.2.2.2.2.1, .int .i64 r1p0.1.2.2.2.2.2.1, .int .i64 r1p0.1.2.2.2.2.2.2] :: Mp (Elt.slice E8) x6.2.1 r1p0.2.1 :: Hb 71 x6.2.2.1.1 x6.2.2.1.2 x6.2.2.2 r1p0.2.2 :: Bb 5 x6.2.2.2 r1p0.2.2 :: hs) (fun s4 => law3_told.k4 r1p0 s4 = some r) (fun s4 x21 hk4 => ?_) (fun J4 => ?_)
   ·unfold law3_told.k4 at hk4
    refine T.cond rfl (fun hb12 => ?_) (fun hb12 => ?_)
    ·replace hk4 := inv_posB hb12 hk4
     refine T.seq ?_
     refine T.region ?_
     refine T.assign .list rfl (wants0 rfl) rfl rfl ?_
     refine T.nil ?_
     refine T.then_normal ?_
     refine T.ret ?_
     refine T.then_ret ?_
     obtain rfl := inv_some hk4
     refine T.pick [] 4 rfl rfl (Nat.le_add_left _ _) rfl ?_
     refine T.ret1 rfl rfl (fun w hS => ⟨(), rfl, hS⟩)
    ·replace hk4 := inv_negB hb12 hk4
     refine T.skip ?_
     refine T.then_normal ?_
     refine T.seq ?_
     refine T.region ?_
     refine T.move .list rfl (wants0 rfl) rfl rfl ?_
     refine T.lit (E := E8) .list (vals := [(0, .int .u8 1)]) (cells := #[.int .u8 1]) rfl (wants0 rfl) rfl rfl rfl rfl rfl (by kernel_rfl) ([(1 : UInt8)] : List UInt8) rfl (fun _ _ _ _ _ => (Encs.c1 (enc := b8) (h1 := fun _ => rfl) rfl rfl)) (fun b4 => ?_)
     refine T.pick [1, 2, 3, 4, 0] 5 rfl rfl (Nat.le_add_left _ _) (hs' := Cl x6.1 69 [.int .i64 r1p0.1.1, .map (some x6.2.1), .slice x6.2.2.1.1 r1p0.2.2.length x6.2.2.1.2, .bool r1p0.1.2.1, .int .i64 r1p0.1.2.2.1, .int .i64 r1p0.1.2.2.2.1, .int .u64 r1p0.1.2.2.2.2.1, .int .i64 r1p0.1.2.2.2.2.2.1, .int .i64 r1p0.1.2.2.2.2.2.2] :: Mp (Elt.slice E8) x6.2.1 r1p0.2.1 :: Hb 71 x6.2.2.1.1 x6.2.2.1.2 x6.2.2.2 r1p0.2.2 :: Bb 5 x6.2.2.2 r1p0.2.2 :: Bf E8 5 (some ⟨b4, 0, none⟩) 1 (([(1 : UInt8)] : List UInt8)) :: hs) rfl ?_
     obtain ⟨r15, hg15, hk4⟩ := inv_bind hk4
     refine T.call .list (wants0 rfl) rfl (run_callF (vs := [_, _, _]) rfl Try.func11 rfl (by decide) rfl) (fun w hS => disk_Disk_Write.c hS (o0 := (r1p0.1.1, r1p0.1.2.1, r1p0.1.2.2.1, r1p0.1.2.2.2.1, r1p0.1.2.2.2.2.1, r1p0.1.2.2.2.2.2.1, r1p0.1.2.2.2.2.2.2)) (q0b := r1p0.2.1) (q0c := r1p0.2.2) (l2 := ([(1 : UInt8)] : List UInt8))  hg15) (fun x22 => ?_)
     refine T.nil ?_
     refine T.then_normal ?_
     refine T.seq ?_
     refine T.region ?_
     refine T.move .list rfl (wants0 rfl) rfl rfl ?_
     refine T.pick [0, 1, 2, 3, 4] 5 rfl rfl (Nat.le_add_left _ _) (hs' := Cl x6.1 69 [.int .i64 r15.2.1.1, .map (some x6.2.1), .slice x22.1.1 r15.2.2.2.length x22.1.2, .bool r15.2.1.2.1, .int .i64 r15.2.1.2.2.1, .int .i64 r15.2.1.2.2.2.1, .int .u64 r15.2.1.2.2.2.2.1, .int .i64 r15.2.1.2.2.2.2.2.1, .int .i64 r15.2.1.2.2.2.2.2.2] :: Mp (Elt.slice E8) x6.2.1 r15.2.2.1 :: Hb 71 x22.1.1 x22.1.2 x22.2 r15.2.2.2 :: Bb 5 x22.2 r15.2.2.2 :: Bf E8 5 (some ⟨b4, 0, none⟩) 1 (([(1 : UInt8)] : List UInt8)) :: hs) rfl ?_
     obtain ⟨r16, hg16, hk4⟩ := inv_bind hk4
     refine T.call .list (wants0 rfl) rfl (run_callF (vs := [_]) rfl Try.func10 rfl (by decide) rfl) (fun w hS => disk_Disk_Flush.c hS (o0 := (r15.2.1.1, r15.2.1.2.1, r15.2.1.2.2.1, r15.2.1.2.2.2.1, r15.2.1.2.2.2.2.1, r15.2.1.2.2.2.2.2.1, r15.2.1.2.2.2.2.2.2)) (q0b := r15.2.2.1) (q0c := r15.2.2.2)  hg16) (fun x23 => ?_)
     refine T.nil ?_
     refine T.then_normal ?_
     refine T.seq ?_
     refine T.region ?_
     refine T.move .list rfl (wants0 rfl) rfl rfl ?_
     refine T.lit (E := E8) .list (vals := [(0, .int .u8 2)]) (cells := #[.int .u8 2]) rfl (wants0 rfl) rfl rfl rfl rfl rfl (by kernel_rfl) ([(2 : UInt8)] : List UInt8) rfl (fun _ _ _ _ _ => (Encs.c1 (enc := b8) (h1 := fun _ => rfl) rfl rfl)) (fun b5 => ?_)
     refine T.pick [1, 2, 3, 4, 0, 5] 6 rfl rfl (Nat.le_add_left _ _) (hs' := Cl x6.1 69 [.int .i64 r16.2.1.1, .map (some x6.2.1), .slice x23.1.1 r16.2.2.2.length x23.1.2, .bool r16.2.1.2.1, .int .i64 r16.2.1.2.2.1, .int .i64 r16.2.1.2.2.2.1, .int .u64 r16.2.1.2.2.2.2.1, .int .i64 r16.2.1.2.2.2.2.2.1, .int .i64 r16.2.1.2.2.2.2.2.2] :: Mp (Elt.slice E8) x6.2.1 r16.2.2.1 :: Hb 71 x23.1.1 x23.1.2 x23.2 r16.2.2.2 :: Bb 5 x23.2 r16.2.2.2 :: Bf E8 5 (some ⟨b5, 0, none⟩) 1 (([(2 : UInt8)] : List UInt8)) :: Bf E8 5 (some ⟨b4, 0, none⟩) 1 (([(1 : UInt8)] : List UInt8)) :: hs) rfl ?_
     obtain ⟨r17, hg17, hk4⟩ := inv_bind hk4
     refine T.call .list (wants0 rfl) rfl (run_callF (vs := [_, _, _]) rfl Try.func11 rfl (by decide) rfl) (fun w hS => disk_Disk_Write.c hS (o0 := (r16.2.1.1, r16.2.1.2.1, r16.2.1.2.2.1, r16.2.1.2.2.2.1, r16.2.1.2.2.2.2.1, r16.2.1.2.2.2.2.2.1, r16.2.1.2.2.2.2.2.2)) (q0b := r16.2.2.1) (q0c := r16.2.2.2) (l2 := ([(2 : UInt8)] : List UInt8))  hg17) (fun x24 => ?_)
     refine T.nil ?_
     refine T.then_normal ?_
     refine T.seq ?_
     refine T.region ?_
     refine T.move .list rfl (wants0 rfl) rfl rfl ?_
     refine T.lit (E := E8) .list (vals := [(0, .int .u8 3)]) (cells := #[.int .u8 3]) rfl (wants0 rfl) rfl rfl rfl rfl rfl (by kernel_rfl) ([(3 : UInt8)] : List UInt8) rfl (fun _ _ _ _ _ => (Encs.c1 (enc := b8) (h1 := fun _ => rfl) rfl rfl)) (fun b6 => ?_)
     refine T.pick [1, 2, 3, 4, 0, 5, 6] 7 rfl rfl (Nat.le_add_left _ _) (hs' := Cl x6.1 69 [.int .i64 r17.2.1.1, .map (some x6.2.1), .slice x24.1.1 r17.2.2.2.length x24.1.2, .bool r17.2.1.2.1, .int .i64 r17.2.1.2.2.1, .int .i64 r17.2.1.2.2.2.1, .int .u64 r17.2.1.2.2.2.2.1, .int .i64 r17.2.1.2.2.2.2.2.1, .int .i64 r17.2.1.2.2.2.2.2.2] :: Mp (Elt.slice E8) x6.2.1 r17.2.2.1 :: Hb 71 x24.1.1 x24.1.2 x24.2 r17.2.2.2 :: Bb 5 x24.2 r17.2.2.2 :: Bf E8 5 (some ⟨b6, 0, none⟩) 1 (([(3 : UInt8)] : List UInt8)) :: Bf E8 5 (some ⟨b5, 0, none⟩) 1 (([(2 : UInt8)] : List UInt8)) :: Bf E8 5 (some ⟨b4, 0, none⟩) 1 (([(1 : UInt8)] : List UInt8)) :: hs) rfl ?_
     obtain ⟨r18, hg18, hk4⟩ := inv_bind hk4
     refine T.call .list (wants0 rfl) rfl (run_callF (vs := [_, _, _]) rfl Try.func11 rfl (by decide) rfl) (fun w hS => disk_Disk_Write.c hS (o0 := (r17.2.1.1, r17.2.1.2.1, r17.2.1.2.2.1, r17.2.1.2.2.2.1, r17.2.1.2.2.2.2.1, r17.2.1.2.2.2.2.2.1, r17.2.1.2.2.2.2.2.2)) (q0b := r17.2.2.1) (q0c := r17.2.2.2) (l2 := ([(3 : UInt8)] : List UInt8))  hg18) (fun x25 => ?_)
     refine T.nil ?_
     refine T.then_normal ?_
     refine T.seq ?_
     refine T.region ?_
     refine T.move .list rfl (wants0 rfl) rfl rfl ?_
     refine T.build .list (vals := [(1, .int .u64 2), (2, .int .i64 (-1))]) (cells := #[.int .i64 0, .int .u64 2, .int .i64 (-1), .int .i64 0]) rfl (wants0 rfl) rfl rfl (run_buildStruct (sizes := [1, 1, 1, 1]) (by kernel_rfl) (by kernel_rfl)) ?_
     refine T.pick [0, 1, 2, 3, 4, 5, 6] 7 rfl rfl (Nat.le_add_left _ _) (hs' := Cl x6.1 69 [.int .i64 r18.2.1.1, .map (some x6.2.1), .slice x25.1.1 r18.2.2.2.length x25.1.2, .bool r18.2.1.2.1, .int .i64 r18.2.1.2.2.1, .int .i64 r18.2.1.2.2.2.1, .int .u64 r18.2.1.2.2.2.2.1, .int .i64 r18.2.1.2.2.2.2.2.1, .int .i64 r18.2.1.2.2.2.2.2.2] :: Mp (Elt.slice E8) x6.2.1 r18.2.2.1 :: Hb 71 x25.1.1 x25.1.2 x25.2 r18.2.2.2 :: Bb 5 x25.2 r18.2.2.2 :: Bf E8 5 (some ⟨b6, 0, none⟩) 1 (([(3 : UInt8)] : List UInt8)) :: Bf E8 5 (some ⟨b5, 0, none⟩) 1 (([(2 : UInt8)] : List UInt8)) :: Bf E8 5 (some ⟨b4, 0, none⟩) 1 (([(1 : UInt8)] : List UInt8)) :: hs) rfl ?_
     obtain ⟨r19, hg19, hk4⟩ := inv_bind hk4
     refine T.call .list (wants0 rfl) rfl (run_callF (vs := [_, _]) rfl Try.func12 rfl (by decide) rfl) (fun w hS => disk_Disk_Cut.c hS (o0 := (r18.2.1.1, r18.2.1.2.1, r18.2.1.2.2.1, r18.2.1.2.2.2.1, r18.2.1.2.2.2.2.1, r18.2.1.2.2.2.2.2.1, r18.2.1.2.2.2.2.2.2)) (q0b := r18.2.2.1) (q0c := r18.2.2.2) (a1 := (0, 2, -1, 0))  hg19) (fun x26 => ?_)
     refine T.nil ?_
     refine T.then_normal ?_
     refine T.seq ?_
     refine T.region ?_
     refine T.move .list rfl (wants0 rfl) rfl rfl ?_
     refine T.pick [0, 1, 2, 3, 4, 5, 6] 7 rfl rfl (Nat.le_add_left _ _) (hs' := Cl x6.1 69 [.int .i64 r19.1.1, .map (some x6.2.1), .slice x26.1.1 r19.2.2.length x26.1.2, .bool r19.1.2.1, .int .i64 r19.1.2.2.1, .int .i64 r19.1.2.2.2.1, .int .u64 r19.1.2.2.2.2.1, .int .i64 r19.1.2.2.2.2.2.1, .int .i64 r19.1.2.2.2.2.2.2] :: Mp (Elt.slice E8) x6.2.1 r19.2.1 :: Hb 71 x26.1.1 x26.1.2 x26.2 r19.2.2 :: Bb 5 x26.2 r19.2.2 :: Bf E8 5 (some ⟨b6, 0, none⟩) 1 (([(3 : UInt8)] : List UInt8)) :: Bf E8 5 (some ⟨b5, 0, none⟩) 1 (([(2 : UInt8)] : List UInt8)) :: Bf E8 5 (some ⟨b4, 0, none⟩) 1 (([(1 : UInt8)] : List UInt8)) :: hs) rfl ?_
     obtain ⟨r20, hg20, hk4⟩ := inv_bind hk4
     refine T.call .list (wants0 rfl) rfl (run_callF (vs := [_, _]) rfl Try.func14 rfl (by decide) rfl) (fun w hS => disk_Disk_Read.c hS (o0 := (r19.1.1, r19.1.2.1, r19.1.2.2.1, r19.1.2.2.2.1, r19.1.2.2.2.2.1, r19.1.2.2.2.2.2.1, r19.1.2.2.2.2.2.2)) (q0b := r19.2.1) (q0c := r19.2.2)  hg20) (fun x27 => ?_)
     refine T.move .list rfl (wants0 rfl) rfl rfl ?_
     refine T.extract .list rfl (wants0 rfl) rfl rfl rfl ?_
     refine T.extract .list rfl (wants0 rfl) rfl rfl rfl ?_
     refine T.assign .list rfl (wants0 rfl) rfl rfl ?_
     refine T.assign .list rfl (wants0 rfl) rfl rfl ?_
     refine T.nil ?_
     refine T.then_normal ?_
     refine T.seq ?_
     refine T.region ?_
     refine T.move .list rfl (wants0 rfl) rfl rfl ?_
     refine T.pick [1, 2, 3, 4, 0, 5, 6, 7] 8 rfl rfl (Nat.le_add_left _ _) (hs' := Cl x6.1 69 [.int .i64 r19.1.1, .map (some x6.2.1), .slice x26.1.1 r19.2.2.length x26.1.2, .bool r19.1.2.1, .int .i64 r19.1.2.2.1, .int .i64 r19.1.2.2.2.1, .int .u64 r19.1.2.2.2.2.1, .int .i64 r19.1.2.2.2.2.2.1, .int .i64 r19.1.2.2.2.2.2.2] :: Mp (Elt.slice E8) x6.2.1 r19.2.1 :: Hb 71 x26.1.1 x26.1.2 x26.2 r19.2.2 :: Bb 5 x26.2 r19.2.2 :: Bf E8 5 x27.1 x27.2 r20.1 :: Bf E8 5 (some ⟨b6, 0, none⟩) 1 (([(3 : UInt8)] : List UInt8)) :: Bf E8 5 (some ⟨b5, 0, none⟩) 1 (([(2 : UInt8)] : List UInt8)) :: Bf E8 5 (some ⟨b4, 0, none⟩) 1 (([(1 : UInt8)] : List UInt8)) :: hs) rfl ?_
     obtain ⟨r21, hg21, hk4⟩ := inv_bind hk4
     refine T.call .list (wants0 rfl) rfl (run_callF (vs := [_]) rfl Try.func13 rfl (by decide) rfl) (fun w hS => disk_Disk_Restart.c hS (o0 := (r19.1.1, r19.1.2.1, r19.1.2.2.1, r19.1.2.2.2.1, r19.1.2.2.2.2.1, r19.1.2.2.2.2.2.1, r19.1.2.2.2.2.2.2)) (q0b := r19.2.1) (q0c := r19.2.2)  hg21) (fun x28 => ?_)
     refine T.nil ?_
     refine T.then_normal ?_
     refine T.seq ?_
     refine T.region ?_
     refine T.move .list rfl (wants0 rfl) rfl rfl ?_
     refine T.pick [0, 1, 2, 3, 4, 5, 6, 7] 8 rfl rfl (Nat.le_add_left _ _) (hs' := Cl x6.1 69 [.int .i64 r21.1, .map (some x6.2.1), .slice x26.1.1 r19.2.2.length x26.1.2, .bool r21.2.1, .int .i64 r21.2.2.1, .int .i64 r21.2.2.2.1, .int .u64 r21.2.2.2.2.1, .int .i64 r21.2.2.2.2.2.1, .int .i64 r21.2.2.2.2.2.2] :: Mp (Elt.slice E8) x6.2.1 r19.2.1 :: Hb 71 x26.1.1 x26.1.2 x26.2 r19.2.2 :: Bb 5 x26.2 r19.2.2 :: Bf E8 5 x27.1 x27.2 r20.1 :: Bf E8 5 (some ⟨b6, 0, none⟩) 1 (([(3 : UInt8)] : List UInt8)) :: Bf E8 5 (some ⟨b5, 0, none⟩) 1 (([(2 : UInt8)] : List UInt8)) :: Bf E8 5 (some ⟨b4, 0, none⟩) 1 (([(1 : UInt8)] : List UInt8)) :: hs) rfl ?_
     obtain ⟨r22, hg22, hk4⟩ := inv_bind hk4
     refine T.call .list (wants0 rfl) rfl (run_callF (vs := [_, _]) rfl Try.func14 rfl (by decide) rfl) (fun w hS => disk_Disk_Read.c hS (o0 := (r21.1, r21.2.1, r21.2.2.1, r21.2.2.2.1, r21.2.2.2.2.1, r21.2.2.2.2.2.1, r21.2.2.2.2.2.2)) (q0b := r19.2.1) (q0c := r19.2.2)  hg22) (fun x29 => ?_)
     refine T.move .list rfl (wants0 rfl) rfl rfl ?_
     refine T.extract .list rfl (wants0 rfl) rfl rfl rfl ?_
     refine T.extract .list rfl (wants0 rfl) rfl rfl rfl ?_
     refine T.assign .list rfl (wants0 rfl) rfl rfl ?_
     refine T.assign .list rfl (wants0 rfl) rfl rfl ?_
     refine T.nil ?_
     refine T.then_normal ?_
     refine T.seq ?_
     refine T.region ?_
     refine T.move .list rfl (wants0 rfl) rfl rfl ?_
     refine T.pick [1, 2, 3, 4, 0, 5, 6, 7, 8] 9 rfl rfl (Nat.le_add_left _ _) (hs' := Cl x6.1 69 [.int .i64 r21.1, .map (some x6.2.1), .slice x26.1.1 r19.2.2.length x26.1.2, .bool r21.2.1, .int .i64 r21.2.2.1, .int .i64 r21.2.2.2.1, .int .u64 r21.2.2.2.2.1, .int .i64 r21.2.2.2.2.2.1, .int .i64 r21.2.2.2.2.2.2] :: Mp (Elt.slice E8) x6.2.1 r19.2.1 :: Hb 71 x26.1.1 x26.1.2 x26.2 r19.2.2 :: Bb 5 x26.2 r19.2.2 :: Bf E8 5 x29.1 x29.2 r22.1 :: Bf E8 5 x27.1 x27.2 r20.1 :: Bf E8 5 (some ⟨b6, 0, none⟩) 1 (([(3 : UInt8)] : List UInt8)) :: Bf E8 5 (some ⟨b5, 0, none⟩) 1 (([(2 : UInt8)] : List UInt8)) :: Bf E8 5 (some ⟨b4, 0, none⟩) 1 (([(1 : UInt8)] : List UInt8)) :: hs) rfl ?_
     obtain ⟨r23, hg23, hk4⟩ := inv_bind hk4
     refine T.call .list (wants0 rfl) rfl (run_callF (vs := [_, _]) rfl Try.func14 rfl (by decide) rfl) (fun w hS => disk_Disk_Read.c hS (o0 := (r21.1, r21.2.1, r21.2.2.1, r21.2.2.2.1, r21.2.2.2.2.1, r21.2.2.2.2.2.1, r21.2.2.2.2.2.2)) (q0b := r19.2.1) (q0c := r19.2.2)  hg23) (fun x30 => ?_)
     refine T.move .list rfl (wants0 rfl) rfl rfl ?_
     refine T.extract .list rfl (wants0 rfl) rfl rfl rfl ?_
     refine T.extract .list rfl (wants0 rfl) rfl rfl rfl ?_
     refine T.assign .list rfl (wants0 rfl) rfl rfl ?_
     refine T.assign .list rfl (wants0 rfl) rfl rfl ?_
     refine T.nil ?_
     refine T.then_normal ?_
     refine T.seq ?_
     refine T.region ?_
     refine T.move .list rfl (wants0 rfl) rfl rfl ?_
     refine T.bin .list rfl (wants0 rfl) rfl rfl rfl rfl ?_
     refine T.move .list rfl (wants0 rfl) rfl rfl ?_
     refine T.bool (b := (decide (r20.2 = 20))) (fun hb13 => ?_) (fun hb13 => ?_)
     ·replace hk4 := inv_posB hb13 hk4
      refine T.move .list rfl (wants1 rfl rfl rfl hb13) rfl rfl ?_
      refine T.bin .list rfl (wants1 rfl rfl rfl hb13) rfl rfl rfl rfl ?_
      refine T.pickT .list rfl (wants0 rfl) rfl rfl hb13 rfl ?_
      refine T.move .list rfl (wants0 rfl) rfl rfl ?_
      refine T.bool (b := (decide (r23.2 = 0))) (fun hb14 => ?_) (fun hb14 => ?_)
      ·replace hk4 := inv_posB hb14 hk4
       refine T.move .list rfl (wants1 rfl rfl rfl hb14) rfl rfl ?_
       refine T.lenSlice .list rfl (wants1 rfl rfl rfl hb14) rfl rfl ?_
       refine T.bin .list rfl (wants1 rfl rfl rfl hb14) rfl rfl rfl rfl ?_
       refine T.pickT .list rfl (wants0 rfl) rfl rfl hb14 rfl ?_
       refine T.move .list rfl (wants0 rfl) rfl rfl ?_
       refine T.bool (b := (decide ((((r22.1.length : Int))) = 8192))) (fun hb15 => ?_) (fun hb15 => ?_)
       ·replace hk4 := inv_posB hb15 hk4
        refine T.move .list rfl (wants1 rfl rfl rfl hb15) rfl rfl ?_
        refine T.lenSlice .list rfl (wants1 rfl rfl rfl hb15) rfl rfl ?_
        refine T.bin .list rfl (wants1 rfl rfl rfl hb15) rfl rfl rfl rfl ?_
        refine T.pickT .list rfl (wants0 rfl) rfl rfl hb15 rfl ?_
        refine T.move .list rfl (wants0 rfl) rfl rfl ?_
        refine T.bool (b := (decide ((((r23.1.length : Int))) = 8192))) (fun hb16 => ?_) (fun hb16 => ?_)
        ·replace hk4 := inv_posB hb16 hk4
         refine T.move .list rfl (wants1 rfl rfl rfl hb16) rfl rfl ?_
         obtain ⟨hc3, hk4⟩ := inv_chk hk4
         refine T.idxBf .list 5 rfl rfl (wants1 rfl rfl rfl hb16) rfl rfl rfl hc3.1 hc3.2 (Nat.le_refl _) ?_
         refine T.ldBf1 .list 5 rfl rfl (wants1 rfl rfl rfl hb16) rfl rfl hc3.1 hc3.2 ?_
         refine T.bin .list rfl (wants1 rfl rfl rfl hb16) rfl rfl rfl rfl ?_
         refine T.pickT .list rfl (wants0 rfl) rfl rfl hb16 rfl ?_
         refine T.move .list rfl (wants0 rfl) rfl rfl ?_
         refine T.bool (b := (decide ((((((r22.1).getD (0 : Int).toNat default).toNat : Int))) = 1))) (fun hb17 => ?_) (fun hb17 => ?_)
         ·replace hk4 := inv_posB hb17 hk4
          refine T.move .list rfl (wants1 rfl rfl rfl hb17) rfl rfl ?_
          obtain ⟨hc4, hk4⟩ := inv_chk hk4
          refine T.idxBf .list 0 rfl rfl (wants1 rfl rfl rfl hb17) rfl rfl rfl hc4.1 hc4.2 (Nat.le_refl _) ?_
          refine T.ldBf1 .list 0 rfl rfl (wants1 rfl rfl rfl hb17) rfl rfl hc4.1 hc4.2 ?_
          refine T.bin .list rfl (wants1 rfl rfl rfl hb17) rfl rfl rfl rfl ?_
          refine T.pickT .list rfl (wants0 rfl) rfl rfl hb17 rfl ?_
          refine T.move .list rfl (wants0 rfl) rfl rfl ?_
          refine T.bool (b := (decide ((((((r23.1).getD (0 : Int).toNat default).toNat : Int))) = 3))) (fun hb18 => ?_) (fun hb18 => ?_)
          ·replace hk4 := inv_posB hb18 hk4
           refine T.move .list rfl (wants1 rfl rfl rfl hb18) rfl rfl ?_
           refine T.pick [1, 2, 3, 4, 0, 5, 6, 7, 8, 9] 10 rfl rfl (Nat.le_add_left _ _) (hs' := Cl x6.1 69 [.int .i64 r21.1, .map (some x6.2.1), .slice x26.1.1 r19.2.2.length x26.1.2, .bool r21.2.1, .int .i64 r21.2.2.1, .int .i64 r21.2.2.2.1, .int .u64 r21.2.2.2.2.1, .int .i64 r21.2.2.2.2.2.1, .int .i64 r21.2.2.2.2.2.2] :: Mp (Elt.slice E8) x6.2.1 r19.2.1 :: Hb 71 x26.1.1 x26.1.2 x26.2 r19.2.2 :: Bb 5 x26.2 r19.2.2 :: Bf E8 5 x30.1 x30.2 r23.1 :: Bf E8 5 x29.1 x29.2 r22.1 :: Bf E8 5 x27.1 x27.2 r20.1 :: Bf E8 5 (some ⟨b6, 0, none⟩) 1 (([(3 : UInt8)] : List UInt8)) :: Bf E8 5 (some ⟨b5, 0, none⟩) 1 (([(2 : UInt8)] : List UInt8)) :: Bf E8 5 (some ⟨b4, 0, none⟩) 1 (([(1 : UInt8)] : List UInt8)) :: hs) rfl ?_
           obtain ⟨r24, hg24, hk4⟩ := inv_bind hk4
           refine T.call .list (wants1 rfl rfl rfl hb18) rfl (run_callF (vs := [_]) rfl Try.func21 rfl (by decide) rfl) (fun w hS => disk_Disk_Life.c hS (o0 := (r21.1, r21.2.1, r21.2.2.1, r21.2.2.2.1, r21.2.2.2.2.1, r21.2.2.2.2.2.1, r21.2.2.2.2.2.2)) (q0b := r19.2.1) (q0c := r19.2.2)  hg24) (fun x31 => ?_)
           refine T.bin .list rfl (wants1 rfl rfl rfl hb18) rfl rfl rfl rfl ?_
           refine T.pickT .list rfl (wants0 rfl) rfl rfl hb18 rfl ?_
           refine T.move .list rfl (wants0 rfl) rfl rfl ?_
           refine T.bool (b := (decide (r24 = 1))) (fun hb19 => ?_) (fun hb19 => ?_)
           ·replace hk4 := inv_posB hb19 hk4
            refine T.move .list rfl (wants1 rfl rfl rfl hb19) rfl rfl ?_
            refine T.pick [0, 1, 2, 3, 4, 5, 6, 7, 8, 9] 10 rfl rfl (Nat.le_add_left _ _) (hs' := Cl x6.1 69 [.int .i64 r21.1, .map (some x6.2.1), .slice x26.1.1 r19.2.2.length x26.1.2, .bool r21.2.1, .int .i64 r21.2.2.1, .int .i64 r21.2.2.2.1, .int .u64 r21.2.2.2.2.1, .int .i64 r21.2.2.2.2.2.1, .int .i64 r21.2.2.2.2.2.2] :: Mp (Elt.slice E8) x6.2.1 r19.2.1 :: Hb 71 x26.1.1 x26.1.2 x26.2 r19.2.2 :: Bb 5 x26.2 r19.2.2 :: Bf E8 5 x30.1 x30.2 r23.1 :: Bf E8 5 x29.1 x29.2 r22.1 :: Bf E8 5 x27.1 x27.2 r20.1 :: Bf E8 5 (some ⟨b6, 0, none⟩) 1 (([(3 : UInt8)] : List UInt8)) :: Bf E8 5 (some ⟨b5, 0, none⟩) 1 (([(2 : UInt8)] : List UInt8)) :: Bf E8 5 (some ⟨b4, 0, none⟩) 1 (([(1 : UInt8)] : List UInt8)) :: hs) rfl ?_
            obtain ⟨r25, hg25, hk4⟩ := inv_bind hk4
            refine T.call .list (wants1 rfl rfl rfl hb19) rfl (run_callF (vs := [_]) rfl Try.func17 rfl (by decide) rfl) (fun w hS => disk_Disk_Open.c hS (o0 := (r21.1, r21.2.1, r21.2.2.1, r21.2.2.2.1, r21.2.2.2.2.1, r21.2.2.2.2.2.1, r21.2.2.2.2.2.2)) (q0b := r19.2.1) (q0c := r19.2.2)  hg25) (fun x32 => ?_)
            refine T.bin .list rfl (wants1 rfl rfl rfl hb19) rfl rfl rfl rfl ?_
            refine T.pickT .list rfl (wants0 rfl) rfl rfl hb19 rfl ?_
            refine T.assign .list rfl (wants0 rfl) rfl rfl ?_
            refine T.nil ?_
            refine T.then_normal ?_
            refine T.ret ?_
            obtain rfl := inv_some hk4
            refine T.pick [] 10 rfl rfl (Nat.le_add_left _ _) rfl ?_
            refine T.ret1 rfl rfl (fun w hS => ⟨(), rfl, hS⟩)
           ·replace hk4 := inv_negB hb19 hk4
            refine T.leave .list (wantsNot rfl rfl rfl hb19) rfl ?_
            refine T.leave .list (wantsNot rfl rfl rfl hb19) rfl ?_
            refine T.leave .list (wantsNot rfl rfl rfl hb19) rfl ?_
            refine T.pickF .list rfl (wants0 rfl) rfl rfl hb19 rfl ?_
            refine T.assign .list rfl (wants0 rfl) rfl rfl ?_
            refine T.nil ?_
            refine T.then_normal ?_
            refine T.ret ?_
            obtain rfl := inv_some hk4
            refine T.pick [] 10 rfl rfl (Nat.le_add_left _ _) rfl ?_
            refine T.ret1 rfl rfl (fun w hS => ⟨(), rfl, hS⟩)
          ·replace hk4 := inv_negB hb18 hk4
           refine T.leave .list (wantsNot rfl rfl rfl hb18) rfl ?_
           refine T.leave .list (wantsNot rfl rfl rfl hb18) rfl ?_
           refine T.leave .list (wantsNot rfl rfl rfl hb18) rfl ?_
           refine T.pickF .list rfl (wants0 rfl) rfl rfl hb18 rfl ?_
           refine T.move .list rfl (wants0 rfl) rfl rfl ?_
           refine T.leave .list (wantsNot rfl rfl rfl rfl) rfl ?_
           refine T.leave .list (wantsNot rfl rfl rfl rfl) rfl ?_
           refine T.leave .list (wantsNot rfl rfl rfl rfl) rfl ?_
           refine T.pickF .list rfl (wants0 rfl) rfl rfl rfl rfl ?_
           refine T.assign .list rfl (wants0 rfl) rfl rfl ?_
           refine T.nil ?_
           refine T.then_normal ?_
           refine T.ret ?_
           obtain rfl := inv_some hk4
           refine T.pick [] 10 rfl rfl (Nat.le_add_left _ _) rfl ?_
           refine T.ret1 rfl rfl (fun w hS => ⟨(), rfl, hS⟩)
         ·replace hk4 := inv_negB hb17 hk4
          refine T.leave .list (wantsNot rfl rfl rfl hb17) rfl ?_
          refine T.leave .list (wantsNot rfl rfl rfl hb17) rfl ?_
          refine T.leave .list (wantsNot rfl rfl rfl hb17) rfl ?_
          refine T.leave .list (wantsNot rfl rfl rfl hb17) rfl ?_
          refine T.pickF .list rfl (wants0 rfl) rfl rfl hb17 rfl ?_
          refine T.move .list rfl (wants0 rfl) rfl rfl ?_
          refine T.leave .list (wantsNot rfl rfl rfl rfl) rfl ?_
          refine T.leave .list (wantsNot rfl rfl rfl rfl) rfl ?_
          refine T.leave .list (wantsNot rfl rfl rfl rfl) rfl ?_
          refine T.pickF .list rfl (wants0 rfl) rfl rfl rfl rfl ?_
          refine T.move .list rfl (wants0 rfl) rfl rfl ?_
          refine T.leave .list (wantsNot rfl rfl rfl rfl) rfl ?_
          refine T.leave .list (wantsNot rfl rfl rfl rfl) rfl ?_
          refine T.leave .list (wantsNot rfl rfl rfl rfl) rfl ?_
          refine T.pickF .list rfl (wants0 rfl) rfl rfl rfl rfl ?_
          refine T.assign .list rfl (wants0 rfl) rfl rfl ?_
          refine T.nil ?_
          refine T.then_normal ?_
          refine T.ret ?_
          obtain rfl := inv_some hk4
          refine T.pick [] 10 rfl rfl (Nat.le_add_left _ _) rfl ?_
          refine T.ret1 rfl rfl (fun w hS => ⟨(), rfl, hS⟩)
        ·replace hk4 := inv_negB hb16 hk4
         refine T.leave .list (wantsNot rfl rfl rfl hb16) rfl ?_
         refine T.leave .list (wantsNot rfl rfl rfl hb16) rfl ?_
         refine T.leave .list (wantsNot rfl rfl rfl hb16) rfl ?_
         refine T.leave .list (wantsNot rfl rfl rfl hb16) rfl ?_
         refine T.pickF .list rfl (wants0 rfl) rfl rfl hb16 rfl ?_
         refine T.move .list rfl (wants0 rfl) rfl rfl ?_
         refine T.leave .list (wantsNot rfl rfl rfl rfl) rfl ?_
         refine T.leave .list (wantsNot rfl rfl rfl rfl) rfl ?_
         refine T.leave .list (wantsNot rfl rfl rfl rfl) rfl ?_
         refine T.leave .list (wantsNot rfl rfl rfl rfl) rfl ?_
         refine T.pickF .list rfl (wants0 rfl) rfl rfl rfl rfl ?_
         refine T.move .list rfl (wants0 rfl) rfl rfl ?_
         refine T.leave .list (wantsNot rfl rfl rfl rfl) rfl ?_
         refine T.leave .list (wantsNot rfl rfl rfl rfl) rfl ?_
         refine T.leave .list (wantsNot rfl rfl rfl rfl) rfl ?_
         refine T.pickF .list rfl (wants0 rfl) rfl rfl rfl rfl ?_
         refine T.move .list rfl (wants0 rfl) rfl rfl ?_
         refine T.leave .list (wantsNot rfl rfl rfl rfl) rfl ?_
         refine T.leave .list (wantsNot rfl rfl rfl rfl) rfl ?_
         refine T.leave .list (wantsNot rfl rfl rfl rfl) rfl ?_
         refine T.pickF .list rfl (wants0 rfl) rfl rfl rfl rfl ?_
         refine T.assign .list rfl (wants0 rfl) rfl rfl ?_
         refine T.nil ?_
         refine T.then_normal ?_
         refine T.ret ?_
         obtain rfl := inv_some hk4
         refine T.pick [] 10 rfl rfl (Nat.le_add_left _ _) rfl ?_
         refine T.ret1 rfl rfl (fun w hS => ⟨(), rfl, hS⟩)
       ·replace hk4 := inv_negB hb15 hk4
        refine T.leave .list (wantsNot rfl rfl rfl hb15) rfl ?_
        refine T.leave .list (wantsNot rfl rfl rfl hb15) rfl ?_
        refine T.leave .list (wantsNot rfl rfl rfl hb15) rfl ?_
        refine T.pickF .list rfl (wants0 rfl) rfl rfl hb15 rfl ?_
        refine T.move .list rfl (wants0 rfl) rfl rfl ?_
        refine T.leave .list (wantsNot rfl rfl rfl rfl) rfl ?_
        refine T.leave .list (wantsNot rfl rfl rfl rfl) rfl ?_
        refine T.leave .list (wantsNot rfl rfl rfl rfl) rfl ?_
        refine T.leave .list (wantsNot rfl rfl rfl rfl) rfl ?_
        refine T.pickF .list rfl (wants0 rfl) rfl rfl rfl rfl ?_
        refine T.move .list rfl (wants0 rfl) rfl rfl ?_
        refine T.leave .list (wantsNot rfl rfl rfl rfl) rfl ?_
        refine T.leave .list (wantsNot rfl rfl rfl rfl) rfl ?_
        refine T.leave .list (wantsNot rfl rfl rfl rfl) rfl ?_
        refine T.leave .list (wantsNot rfl rfl rfl rfl) rfl ?_
        refine T.pickF .list rfl (wants0 rfl) rfl rfl rfl rfl ?_
        refine T.move .list rfl (wants0 rfl) rfl rfl ?_
        refine T.leave .list (wantsNot rfl rfl rfl rfl) rfl ?_
        refine T.leave .list (wantsNot rfl rfl rfl rfl) rfl ?_
        refine T.leave .list (wantsNot rfl rfl rfl rfl) rfl ?_
        refine T.pickF .list rfl (wants0 rfl) rfl rfl rfl rfl ?_
        refine T.move .list rfl (wants0 rfl) rfl rfl ?_
        refine T.leave .list (wantsNot rfl rfl rfl rfl) rfl ?_
        refine T.leave .list (wantsNot rfl rfl rfl rfl) rfl ?_
        refine T.leave .list (wantsNot rfl rfl rfl rfl) rfl ?_
        refine T.pickF .list rfl (wants0 rfl) rfl rfl rfl rfl ?_
        refine T.assign .list rfl (wants0 rfl) rfl rfl ?_
        refine T.nil ?_
        refine T.then_normal ?_
        refine T.ret ?_
        obtain rfl := inv_some hk4
        refine T.pick [] 10 rfl rfl (Nat.le_add_left _ _) rfl ?_
        refine T.ret1 rfl rfl (fun w hS => ⟨(), rfl, hS⟩)
      ·replace hk4 := inv_negB hb14 hk4
       refine T.leave .list (wantsNot rfl rfl rfl hb14) rfl ?_
       refine T.leave .list (wantsNot rfl rfl rfl hb14) rfl ?_
       refine T.leave .list (wantsNot rfl rfl rfl hb14) rfl ?_
       refine T.pickF .list rfl (wants0 rfl) rfl rfl hb14 rfl ?_
       refine T.move .list rfl (wants0 rfl) rfl rfl ?_
       refine T.leave .list (wantsNot rfl rfl rfl rfl) rfl ?_
       refine T.leave .list (wantsNot rfl rfl rfl rfl) rfl ?_
       refine T.leave .list (wantsNot rfl rfl rfl rfl) rfl ?_
       refine T.pickF .list rfl (wants0 rfl) rfl rfl rfl rfl ?_
       refine T.move .list rfl (wants0 rfl) rfl rfl ?_
       refine T.leave .list (wantsNot rfl rfl rfl rfl) rfl ?_
       refine T.leave .list (wantsNot rfl rfl rfl rfl) rfl ?_
       refine T.leave .list (wantsNot rfl rfl rfl rfl) rfl ?_
       refine T.leave .list (wantsNot rfl rfl rfl rfl) rfl ?_
       refine T.pickF .list rfl (wants0 rfl) rfl rfl rfl rfl ?_
       refine T.move .list rfl (wants0 rfl) rfl rfl ?_
       refine T.leave .list (wantsNot rfl rfl rfl rfl) rfl ?_
       refine T.leave .list (wantsNot rfl rfl rfl rfl) rfl ?_
       refine T.leave .list (wantsNot rfl rfl rfl rfl) rfl ?_
       refine T.leave .list (wantsNot rfl rfl rfl rfl) rfl ?_
       refine T.pickF .list rfl (wants0 rfl) rfl rfl rfl rfl ?_
       refine T.move .list rfl (wants0 rfl) rfl rfl ?_
       refine T.leave .list (wantsNot rfl rfl rfl rfl) rfl ?_
       refine T.leave .list (wantsNot rfl rfl rfl rfl) rfl ?_
       refine T.leave .list (wantsNot rfl rfl rfl rfl) rfl ?_
       refine T.pickF .list rfl (wants0 rfl) rfl rfl rfl rfl ?_
       refine T.move .list rfl (wants0 rfl) rfl rfl ?_
       refine T.leave .list (wantsNot rfl rfl rfl rfl) rfl ?_
       refine T.leave .list (wantsNot rfl rfl rfl rfl) rfl ?_
       refine T.leave .list (wantsNot rfl rfl rfl rfl) rfl ?_
       refine T.pickF .list rfl (wants0 rfl) rfl rfl rfl rfl ?_
       refine T.assign .list rfl (wants0 rfl) rfl rfl ?_
       refine T.nil ?_
       refine T.then_normal ?_
       refine T.ret ?_
       obtain rfl := inv_some hk4
       refine T.pick [] 10 rfl rfl (Nat.le_add_left _ _) rfl ?_
       refine T.ret1 rfl rfl (fun w hS => ⟨(), rfl, hS⟩)
     ·replace hk4 := inv_negB hb13 hk4
      refine T.leave .list (wantsNot rfl rfl rfl hb13) rfl ?_
      refine T.leave .list (wantsNot rfl rfl rfl hb13) rfl ?_
      refine T.pickF .list rfl (wants0 rfl) rfl rfl hb13 rfl ?_
      refine T.move .list rfl (wants0 rfl) rfl rfl ?_
      refine T.leave .list (wantsNot rfl rfl rfl rfl) rfl ?_
      refine T.leave .list (wantsNot rfl rfl rfl rfl) rfl ?_
      refine T.leave .list (wantsNot rfl rfl rfl rfl) rfl ?_
      refine T.pickF .list rfl (wants0 rfl) rfl rfl rfl rfl ?_
      refine T.move .list rfl (wants0 rfl) rfl rfl ?_
      refine T.leave .list (wantsNot rfl rfl rfl rfl) rfl ?_
      refine T.leave .list (wantsNot rfl rfl rfl rfl) rfl ?_
      refine T.leave .list (wantsNot rfl rfl rfl rfl) rfl ?_
      refine T.pickF .list rfl (wants0 rfl) rfl rfl rfl rfl ?_
      refine T.move .list rfl (wants0 rfl) rfl rfl ?_
      refine T.leave .list (wantsNot rfl rfl rfl rfl) rfl ?_
      refine T.leave .list (wantsNot rfl rfl rfl rfl) rfl ?_
      refine T.leave .list (wantsNot rfl rfl rfl rfl) rfl ?_
      refine T.leave .list (wantsNot rfl rfl rfl rfl) rfl ?_
      refine T.pickF .list rfl (wants0 rfl) rfl rfl rfl rfl ?_
      refine T.move .list rfl (wants0 rfl) rfl rfl ?_
      refine T.leave .list (wantsNot rfl rfl rfl rfl) rfl ?_
      refine T.leave .list (wantsNot rfl rfl rfl rfl) rfl ?_
      refine T.leave .list (wantsNot rfl rfl rfl rfl) rfl ?_
      refine T.leave .list (wantsNot rfl rfl rfl rfl) rfl ?_
      refine T.pickF .list rfl (wants0 rfl) rfl rfl rfl rfl ?_
      refine T.move .list rfl (wants0 rfl) rfl rfl ?_
      refine T.leave .list (wantsNot rfl rfl rfl rfl) rfl ?_
      refine T.leave .list (wantsNot rfl rfl rfl rfl) rfl ?_
      refine T.leave .list (wantsNot rfl rfl rfl rfl) rfl ?_
      refine T.pickF .list rfl (wants0 rfl) rfl rfl rfl rfl ?_
      refine T.move .list rfl (wants0 rfl) rfl rfl ?_
      refine T.leave .list (wantsNot rfl rfl rfl rfl) rfl ?_
      refine T.leave .list (wantsNot rfl rfl rfl rfl) rfl ?_
      refine T.leave .list (wantsNot rfl rfl rfl rfl) rfl ?_
      refine T.pickF .list rfl (wants0 rfl) rfl rfl rfl rfl ?_
      refine T.assign .list rfl (wants0 rfl) rfl rfl ?_
      refine T.nil ?_
      refine T.then_normal ?_
      refine T.ret ?_
      obtain rfl := inv_some hk4
      refine T.pick [] 10 rfl rfl (Nat.le_add_left _ _) rfl ?_
      refine T.ret1 rfl rfl (fun w hS => ⟨(), rfl, hS⟩)
   ·refine T.region ?_
    refine T.move .list rfl (wants0 rfl) rfl rfl ?_
    refine T.bin .list rfl (wants0 rfl) rfl rfl rfl rfl ?_
    refine T.move .list rfl (wants0 rfl) rfl rfl ?_
    refine T.bool (b := (decide (r1p1 = 0))) (fun hb20 => ?_) (fun hb20 => ?_)
    ·replace hr := inv_posB hb20 hr
     refine T.move .list rfl (wants1 rfl rfl rfl (not_t hb20)) rfl rfl ?_
     refine T.ptrEq (pt := 69) .list rfl (wants1 rfl rfl rfl (not_t hb20)) rfl rfl rfl (by kernel_rfl) (.inr rfl) rfl ?_
     refine T.pickF .list rfl (wants0 rfl) rfl rfl (not_t hb20) rfl ?_
     refine T.move .list rfl (wants0 rfl) rfl rfl ?_
     refine T.move .list rfl (wants1 rfl rfl rfl rfl) rfl rfl ?_
     refine T.bin .list rfl (wants1 rfl rfl rfl rfl) rfl rfl rfl rfl ?_
     refine T.pickF .list rfl (wants0 rfl) rfl rfl rfl rfl ?_
     refine T.nil ?_
     refine T.then_normal ?_
     exact T.le (EnvLe.cons rfl (EnvLe.cons rfl EnvLe.nil)) (T.pick [4, 5, 6, 7] 8 rfl rfl (Nat.le_add_left _ _) rfl (J4 (!(decide (r3p1 = 1))) () hr))
    ·replace hr := inv_negB hb20 hr
     refine T.leave .list (wantsNot rfl rfl rfl (not_f hb20)) rfl ?_
     refine T.leave .list (wantsNot rfl rfl rfl (not_f hb20)) rfl ?_
     refine T.pickT .list rfl (wants0 rfl) rfl rfl (not_f hb20) rfl ?_
     refine T.move .list rfl (wants0 rfl) rfl rfl ?_
     refine T.leave .list (wantsNot rfl rfl rfl rfl) rfl ?_
     refine T.leave .list (wantsNot rfl rfl rfl rfl) rfl ?_
     refine T.pickT .list rfl (wants0 rfl) rfl rfl rfl rfl ?_
     refine T.nil ?_
     refine T.then_normal ?_
     exact T.le (EnvLe.cons rfl (EnvLe.cons rfl EnvLe.nil)) (T.pick [4, 5, 6, 7] 8 rfl rfl (Nat.le_add_left _ _) rfl (J4 true () hr))

noncomputable def law3_bytes.k1 (a0 : Int × Int × Int × (List UInt8) × (Int × Int × Int × Int)) (s1 : List UInt8) : Option (List UInt8) :=
  (if ((decide (((bitsOf .and .i64 a0.2.2.1 31)) = 31))) = true then chk ((s1.length + (([(1 : UInt8)] : List UInt8)).length) * 1 ≤ 140737488355328) (some (s1 ++ (([(1 : UInt8)] : List UInt8)))) else some s1)
noncomputable def law3_bytes.impl (a0 : Int × Int × Int × (List UInt8) × (Int × Int × Int × Int)) : Option (List UInt8) :=
  chk (0 ≤ (min ((a0.2.2.2.1.length : Int)) 40) ∧ (min ((a0.2.2.2.1.length : Int)) 40) ≤ (a0.2.2.2.1.length : Int)) (chk (((([] : List UInt8)).length + (subl a0.2.2.2.1 0 (min ((a0.2.2.2.1.length : Int)) 40)).length) * 1 ≤ 140737488355328) ((if ((decide (((bitsOf .and .i64 a0.2.2.1 7)) = 7))) = true then chk (0 ≤ (IntKind.i64.wrap (8192 - (((((([] : List UInt8)) ++ (subl a0.2.2.2.1 0 (min ((a0.2.2.2.1.length : Int)) 40)))).length : Int)))) ∧ (((((([] : List UInt8)) ++ (subl a0.2.2.2.1 0 (min ((a0.2.2.2.1.length : Int)) 40)))).length : Int) + (IntKind.i64.wrap (8192 - (((((([] : List UInt8)) ++ (subl a0.2.2.2.1 0 (min ((a0.2.2.2.1.length : Int)) 40)))).length : Int))))) ≤ 140737488355328) (chk (0 ≤ (8191 : Int) ∧ (8191 : Int) < ((((((([] : List UInt8)) ++ (subl a0.2.2.2.1 0 (min ((a0.2.2.2.1.length : Int)) 40)))) ++ List.replicate (IntKind.i64.wrap (8192 - (((((([] : List UInt8)) ++ (subl a0.2.2.2.1 0 (min ((a0.2.2.2.1.length : Int)) 40)))).length : Int))) : Int).toNat 0)).length : Int)) (law3_bytes.k1 a0 ((((((([] : List UInt8)) ++ (subl a0.2.2.2.1 0 (min ((a0.2.2.2.1.length : Int)) 40)))) ++ List.replicate (IntKind.i64.wrap (8192 - (((((([] : List UInt8)) ++ (subl a0.2.2.2.1 0 (min ((a0.2.2.2.1.length : Int)) 40)))).length : Int))) : Int).toNat 0)).set (8191 : Int).toNat (u8 (IntKind.u8.wrap (IntKind.i64.wrap (a0.2.1 + 1))))))) else law3_bytes.k1 a0 ((([] : List UInt8)) ++ (subl a0.2.2.2.1 0 (min ((a0.2.2.2.1.length : Int)) 40))))))
set_option maxRecDepth 100000 in
set_option maxHeartbeats 4000000 in
theorem law3_bytes.c {B : World} {hs : List MP} {w : World} {a0 : Int × Int × Int × (List UInt8) × (Int × Int × Int × Int)} {i0a c0a : Nat} {A0a : Option Addr} (hS : St B (hs) w) (h0a : (hs)[i0a]? = some (Ro E8 A0a c0a a0.2.2.2.1)) {r : List UInt8} (hr : law3_bytes.impl a0 = some r) :
    Calls Try.prog 22 #[.agg #[.int .i64 a0.1, .int .i64 a0.2.1, .int .i64 a0.2.2.1, .slice A0a a0.2.2.2.1.length c0a, .int .i64 a0.2.2.2.2.1, .int .u64 a0.2.2.2.2.2.1, .int .i64 a0.2.2.2.2.2.2.1, .int .i64 a0.2.2.2.2.2.2.2]] w fun e w' => ∃ x : (Option Addr × Nat), e = .returned (.slice x.1 r.length x.2) ∧ St B (Bf E8 5 x.1 x.2 r :: hs) w' := by
 unfold law3_bytes.impl at hr
 refine calls_T Try.func22 rfl rfl rfl hS ?_
 refine T.front i0a h0a ?_
 refine T.seq ?_
 refine T.region ?_
 refine T.boxS .list rfl (wants0 rfl) rfl rfl (cs := [.int .i64 a0.1, .int .i64 a0.2.1, .int .i64 a0.2.2.1, .slice A0a a0.2.2.2.1.length c0a, .int .i64 a0.2.2.2.2.1, .int .u64 a0.2.2.2.2.2.1, .int .i64 a0.2.2.2.2.2.2.1, .int .i64 a0.2.2.2.2.2.2.2]) rfl (fun b1 => ?_)
 refine T.assign .list rfl (wants0 rfl) rfl rfl ?_
 refine T.nil ?_
 refine T.then_normal ?_
 refine T.seq ?_
 refine T.region ?_
 refine T.assign .list rfl (wants0 rfl) rfl rfl ?_
 refine T.nil ?_
 refine T.then_normal ?_
 refine T.seq ?_
 refine T.region ?_
 refine T.move .list rfl (wants0 rfl) rfl rfl ?_
 refine T.field .list rfl (wants0 rfl) rfl rfl ?_
 refine T.load .list 0 rfl rfl (wants0 rfl) rfl rfl rfl ?_
 refine T.field .list rfl (wants0 rfl) rfl rfl ?_
 refine T.load .list 0 rfl rfl (wants0 rfl) rfl rfl rfl ?_
 refine T.lenSlice .list rfl (wants0 rfl) rfl rfl ?_
 refine T.min2 .list rfl (wants0 rfl) rfl rfl rfl ?_
 obtain ⟨hc1, hr⟩ := inv_chk hr
 refine T.cut0 .list 1 rfl rfl rfl (wants0 rfl) rfl rfl (.inl rfl) (.inr ⟨_, _, rfl, rfl⟩) hc1.1 hc1.2 ?_
 refine T.nilBf E8 5 ?_
 obtain ⟨hc2, hr⟩ := inv_chk hr
 refine T.appRo .list 0 1 rfl rfl rfl rfl rfl (wants0 rfl) rfl rfl rfl rfl rfl rfl hc2 (fun _ _ => rfl) (fun A2 c2 => ?_)
 refine T.assign .list rfl (wants0 rfl) rfl rfl ?_
 refine T.nil ?_
 refine T.then_normal ?_
 refine T.seqJ (fun (s1 : List UInt8) (x1 : (Option Addr × Nat)) => [(1, .pointer (some ⟨b1, 0, none⟩)), (3, .slice x1.1 s1.length x1.2)]) (fun s1 x1 => Cl b1 35 [.int .i64 a0.1, .int .i64 a0.2.1, .int .i64 a0.2.2.1, .slice A0a a0.2.2.2.1.length c0a, .int .i64 a0.2.2.2.2.1, .int .u64 a0.2.2.2.2.2.1, .int .i64 a0.2.2.2.2.2.2.1, .int .i64 a0.2.2.2.2.2.2.2] :: Ro E8 A0a c0a a0.2.2.2.1 :: Bf E8 5 x1.1 x1.2 s1 :: hs) (fun s1 => law3_bytes.k1 a0 s1 = some r) (fun s1 x1 hk1 => ?_) (fun J1 => ?_)
 ·unfold law3_bytes.k1 at hk1
  refine T.seq ?_
  refine T.seq ?_
  refine T.region ?_
  refine T.field .list rfl (wants0 rfl) rfl rfl ?_
  refine T.load .list 0 rfl rfl (wants0 rfl) rfl rfl rfl ?_
  refine T.bin .list rfl (wants0 rfl) rfl rfl rfl rfl ?_
  refine T.bin .list rfl (wants0 rfl) rfl rfl rfl rfl ?_
  refine T.nil ?_
  refine T.then_normal ?_
  refine T.cond rfl (fun hb1 => ?_) (fun hb1 => ?_)
  ·replace hk1 := inv_posB hb1 hk1
   refine T.region ?_
   refine T.move .list rfl (wants0 rfl) rfl rfl ?_
   refine T.lit (E := E8) .list (vals := [(0, .int .u8 1)]) (cells := #[.int .u8 1]) rfl (wants0 rfl) rfl rfl rfl rfl rfl (by kernel_rfl) ([(1 : UInt8)] : List UInt8) rfl (fun _ _ _ _ _ => (Encs.c1 (enc := b8) (h1 := fun _ => rfl) rfl rfl)) (fun b2 => ?_)
   obtain ⟨hc3, hk1⟩ := inv_chk hk1
   refine T.appBf .list 3 0 rfl rfl rfl rfl rfl (wants0 rfl) rfl rfl rfl rfl rfl rfl hc3 (fun _ _ => rfl) (fun A3 c3 => ?_)
   refine T.assign .list rfl (wants0 rfl) rfl rfl ?_
   refine T.nil ?_
   refine T.then_normal ?_
   refine T.seq ?_
   refine T.region ?_
   refine T.move .list rfl (wants0 rfl) rfl rfl ?_
   refine T.assign .list rfl (wants0 rfl) rfl rfl ?_
   refine T.nil ?_
   refine T.then_normal ?_
   refine T.ret ?_
   obtain rfl := inv_some hk1
   refine T.pick [3] 4 rfl rfl (Nat.le_add_left _ _) rfl ?_
   refine T.ret1 rfl rfl (fun w hS => ⟨(A3, c3), rfl, hS⟩)
  ·replace hk1 := inv_negB hb1 hk1
   refine T.skip ?_
   refine T.then_normal ?_
   refine T.seq ?_
   refine T.region ?_
   refine T.move .list rfl (wants0 rfl) rfl rfl ?_
   refine T.assign .list rfl (wants0 rfl) rfl rfl ?_
   refine T.nil ?_
   refine T.then_normal ?_
   refine T.ret ?_
   obtain rfl := inv_some hk1
   refine T.pick [2] 3 rfl rfl (Nat.le_add_left _ _) rfl ?_
   refine T.ret1 rfl rfl (fun w hS => ⟨(x1.1, x1.2), rfl, hS⟩)
 ·refine T.seq ?_
  refine T.region ?_
  refine T.field .list rfl (wants0 rfl) rfl rfl ?_
  refine T.load .list 2 rfl rfl (wants0 rfl) rfl rfl rfl ?_
  refine T.bin .list rfl (wants0 rfl) rfl rfl rfl rfl ?_
  refine T.bin .list rfl (wants0 rfl) rfl rfl rfl rfl ?_
  refine T.nil ?_
  refine T.then_normal ?_
  refine T.cond rfl (fun hb2 => ?_) (fun hb2 => ?_)
  ·replace hr := inv_posB hb2 hr
   refine T.seq ?_
   refine T.region ?_
   refine T.move .list rfl (wants0 rfl) rfl rfl ?_
   refine T.move .list rfl (wants0 rfl) rfl rfl ?_
   refine T.lenSlice .list rfl (wants0 rfl) rfl rfl ?_
   refine T.bin .list rfl (wants0 rfl) rfl rfl rfl rfl ?_
   obtain ⟨hc4, hr⟩ := inv_chk hr
   refine T.appZero .list 0 (ts := 9) rfl rfl (wants0 rfl) rfl rfl rfl rfl hc4.1 (by omega) (fun _ _ => rfl) (fun A4 c4 => ?_)
   refine T.assign .list rfl (wants0 rfl) rfl rfl ?_
   refine T.nil ?_
   refine T.then_normal ?_
   refine T.region ?_
   refine T.move .list rfl (wants0 rfl) rfl rfl ?_
   refine T.field .list rfl (wants0 rfl) rfl rfl ?_
   refine T.load .list 2 rfl rfl (wants0 rfl) rfl rfl rfl ?_
   refine T.bin .list rfl (wants0 rfl) rfl rfl rfl rfl ?_
   refine T.conv .list rfl (wants0 rfl) rfl rfl rfl ?_
   obtain ⟨hc5, hr⟩ := inv_chk hr
   refine T.idxBf .list 0 rfl rfl (wants0 rfl) rfl rfl rfl hc5.1 hc5.2 (Nat.le_refl _) ?_
   refine T.stBf .list 0 rfl rfl (wants0 rfl) rfl rfl rfl (b8_wrap _) hc5.1 hc5.2 rfl ?_
   refine T.nil ?_
   refine T.then_normal ?_
   refine T.env1 3 rfl (slc (n' := (((((((([] : List UInt8)) ++ (subl a0.2.2.2.1 0 (min ((a0.2.2.2.1.length : Int)) 40)))) ++ List.replicate (IntKind.i64.wrap (8192 - (((((([] : List UInt8)) ++ (subl a0.2.2.2.1 0 (min ((a0.2.2.2.1.length : Int)) 40)))).length : Int))) : Int).toNat 0)).set (8191 : Int).toNat (u8 (IntKind.u8.wrap (IntKind.i64.wrap (a0.2.1 + 1)))))).length) (by simp only [List.length_set])) ?_
   exact T.le (EnvLe.cons rfl (EnvLe.cons rfl EnvLe.nil)) (T.pick [2, 3, 0] 4 rfl rfl (Nat.le_add_left _ _) rfl (J1 ((((((([] : List UInt8)) ++ (subl a0.2.2.2.1 0 (min ((a0.2.2.2.1.length : Int)) 40)))) ++ List.replicate (IntKind.i64.wrap (8192 - (((((([] : List UInt8)) ++ (subl a0.2.2.2.1 0 (min ((a0.2.2.2.1.length : Int)) 40)))).length : Int))) : Int).toNat 0)).set (8191 : Int).toNat (u8 (IntKind.u8.wrap (IntKind.i64.wrap (a0.2.1 + 1))))) (A4, c4) hr))
  ·replace hr := inv_negB hb2 hr
   refine T.skip ?_
   refine T.then_normal ?_
   exact T.le (EnvLe.cons rfl (EnvLe.cons rfl EnvLe.nil)) (T.pick [2, 3, 0] 4 rfl rfl (Nat.le_add_left _ _) rfl (J1 ((([] : List UInt8)) ++ (subl a0.2.2.2.1 0 (min ((a0.2.2.2.1.length : Int)) 40))) (A2, c2) hr))
end Go.Proofs.Ytfdogeebkbaadaa
