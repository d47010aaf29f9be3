/- LawT: what the functions compute, and that the program computes it; printed by a program of ours. -/
import Derived.Test.YtccifnjlfhdpiaaStore
set_option linter.unusedVariables false
set_option linter.unusedSimpArgs false
namespace Go.Proofs.Ytccifnjlfhdpiaa
open Go.RowKit
noncomputable def law4_told.k1 (s1 : Unit) : Option Bool :=
  some false
noncomputable def law4_told.k2 (r2p0 : (Int × Int × Int × Int) × (List (Int × Int))) (r1p0 : (Int × Bool × Int × Int × Int × Int × Int) × (List (Int × (List UInt8))) × (List (Int × (List UInt8)))) (s2 : Bool) : Option Bool :=
  (if s2 = true then some false else (page_Store_Put.impl ((r2p0.1.1, r2p0.1.2.1, r2p0.1.2.2.1, r2p0.1.2.2.2)) r2p0.2 ((r1p0.1.1, r1p0.1.2.1, r1p0.1.2.2.1, r1p0.1.2.2.2.1, r1p0.1.2.2.2.2.1, r1p0.1.2.2.2.2.2.1, r1p0.1.2.2.2.2.2.2)) r1p0.2.1 r1p0.2.2 (([(1 : UInt8)] : List UInt8))).bind fun r3 => (page_Store_Put.impl ((r2p0.1.1, r2p0.1.2.1, r2p0.1.2.2.1, r2p0.1.2.2.2)) r3.2.2.1 ((r3.2.2.2.1.1, r3.2.2.2.1.2.1, r3.2.2.2.1.2.2.1, r3.2.2.2.1.2.2.2.1, r3.2.2.2.1.2.2.2.2.1, r3.2.2.2.1.2.2.2.2.2.1, r3.2.2.2.1.2.2.2.2.2.2)) r3.2.2.2.2.1 r3.2.2.2.2.2 (([(2 : UInt8)] : List UInt8))).bind fun r4 => (page_Store_Commit.impl ((r2p0.1.1, r2p0.1.2.1, r2p0.1.2.2.1, r2p0.1.2.2.2)) r4.2.2.1 ((r4.2.2.2.1.1, r4.2.2.2.1.2.1, r4.2.2.2.1.2.2.1, r4.2.2.2.1.2.2.2.1, r4.2.2.2.1.2.2.2.2.1, r4.2.2.2.1.2.2.2.2.2.1, r4.2.2.2.1.2.2.2.2.2.2)) r4.2.2.2.2.1 r4.2.2.2.2.2 r4.1).bind fun r5 => (page_Store_Free.impl ((r5.2.1.1, r5.2.1.2.1, r5.2.1.2.2.1, r5.2.1.2.2.2)) r5.2.2.1 ((r5.2.2.2.1.1, r5.2.2.2.1.2.1, r5.2.2.2.1.2.2.1, r5.2.2.2.1.2.2.2.1, r5.2.2.2.1.2.2.2.2.1, r5.2.2.2.1.2.2.2.2.2.1, r5.2.2.2.1.2.2.2.2.2.2)) r5.2.2.2.2.1 r5.2.2.2.2.2 r3.1).bind fun r6 => (page_Store_Put.impl ((r5.2.1.1, r5.2.1.2.1, r5.2.1.2.2.1, r5.2.1.2.2.2)) r6.2 ((r5.2.2.2.1.1, r5.2.2.2.1.2.1, r5.2.2.2.1.2.2.1, r5.2.2.2.1.2.2.2.1, r5.2.2.2.1.2.2.2.2.1, r5.2.2.2.1.2.2.2.2.2.1, r5.2.2.2.1.2.2.2.2.2.2)) r5.2.2.2.2.1 r5.2.2.2.2.2 (([(3 : UInt8)] : List UInt8))).bind fun r7 => (page_Store_Put.impl ((r5.2.1.1, r5.2.1.2.1, r5.2.1.2.2.1, r5.2.1.2.2.2)) r7.2.2.1 ((r7.2.2.2.1.1, r7.2.2.2.1.2.1, r7.2.2.2.1.2.2.1, r7.2.2.2.1.2.2.2.1, r7.2.2.2.1.2.2.2.2.1, r7.2.2.2.1.2.2.2.2.2.1, r7.2.2.2.1.2.2.2.2.2.2)) r7.2.2.2.2.1 r7.2.2.2.2.2 (([(4 : UInt8)] : List UInt8))).bind fun r8 => (page_Open.impl ((r8.2.2.2.1.1, r8.2.2.2.1.2.1, r8.2.2.2.1.2.2.1, r8.2.2.2.1.2.2.2.1, r8.2.2.2.1.2.2.2.2.1, r8.2.2.2.1.2.2.2.2.2.1, r8.2.2.2.1.2.2.2.2.2.2)) r8.2.2.2.2.1 r8.2.2.2.2.2).bind fun r9 => (match r9 with | (none, r9p1) => ((page_Store_Get.impl ((r5.2.1.1, r5.2.1.2.1, r5.2.1.2.2.1, r5.2.1.2.2.2)) r8.2.2.1 ((r8.2.2.2.1.1, r8.2.2.2.1.2.1, r8.2.2.2.1.2.2.1, r8.2.2.2.1.2.2.2.1, r8.2.2.2.1.2.2.2.2.1, r8.2.2.2.1.2.2.2.2.2.1, r8.2.2.2.1.2.2.2.2.2.2)) r8.2.2.2.2.1 r8.2.2.2.2.2 r4.1).bind fun r10 => (if ((decide (r3.1 = 2))) = true then (if ((decide (r4.1 = 3))) = true then (if ((decide (r7.1 = 4))) = true then (if ((decide (r5.1 = 0))) = true then (if ((decide (r8.2.1 = 21))) = true then (if ((decide (r9p1 = 0))) = true then some false else some false) else some false) else some false) else some false) else some false) else some false)) | (some r9p0, r9p1) => ((page_Store_Get.impl ((r5.2.1.1, r5.2.1.2.1, r5.2.1.2.2.1, r5.2.1.2.2.2)) r8.2.2.1 ((r8.2.2.2.1.1, r8.2.2.2.1.2.1, r8.2.2.2.1.2.2.1, r8.2.2.2.1.2.2.2.1, r8.2.2.2.1.2.2.2.2.1, r8.2.2.2.1.2.2.2.2.2.1, r8.2.2.2.1.2.2.2.2.2.2)) r8.2.2.2.2.1 r8.2.2.2.2.2 r4.1).bind fun r11 => (if ((decide (r3.1 = 2))) = true then (if ((decide (r4.1 = 3))) = true then (if ((decide (r7.1 = 4))) = true then (if ((decide (r5.1 = 0))) = true then (if ((decide (r8.2.1 = 21))) = true then (if ((decide (r9p1 = 0))) = true then (page_Store_Root.impl ((r9p0.1.1, r9p0.1.2.1, r9p0.1.2.2.1, r9p0.1.2.2.2)) r9p0.2 ((r8.2.2.2.1.1, r8.2.2.2.1.2.1, r8.2.2.2.1.2.2.1, r8.2.2.2.1.2.2.2.1, r8.2.2.2.1.2.2.2.2.1, r8.2.2.2.1.2.2.2.2.2.1, r8.2.2.2.1.2.2.2.2.2.2)) r8.2.2.2.2.1 r8.2.2.2.2.2).bind fun r12 => (if ((decide (r12 = 3))) = true then (page_Store_Number.impl ((r9p0.1.1, r9p0.1.2.1, r9p0.1.2.2.1, r9p0.1.2.2.2)) r9p0.2 ((r8.2.2.2.1.1, r8.2.2.2.1.2.1, r8.2.2.2.1.2.2.1, r8.2.2.2.1.2.2.2.1, r8.2.2.2.1.2.2.2.2.1, r8.2.2.2.1.2.2.2.2.2.1, r8.2.2.2.1.2.2.2.2.2.2)) r8.2.2.2.2.1 r8.2.2.2.2.2).bind fun r13 => (if ((decide (r13 = 1))) = true then (if ((decide (r11.2 = 0))) = true then some (decide (r11.1 = ([2] : List UInt8))) else some false) else some false) else some false) else some false) else some false) else some false) else some false) else some false) else some false))))
noncomputable def law4_told.impl  : Option Bool :=
  (disk_New.impl 5).bind fun r1 => (match r1 with | (none, r1p1) => (some false) | (some r1p0, r1p1) => ((page_Open.impl ((r1p0.1.1, r1p0.1.2.1, r1p0.1.2.2.1, r1p0.1.2.2.2.1, r1p0.1.2.2.2.2.1, r1p0.1.2.2.2.2.2.1, r1p0.1.2.2.2.2.2.2)) r1p0.2.1 r1p0.2.2).bind fun r2 => (match r2 with | (none, r2p1) => ((if ((decide (r2p1 = 0))) = true then law4_told.k1 () else law4_told.k1 ())) | (some r2p0, r2p1) => ((if ((decide (r2p1 = 0))) = true then law4_told.k2 r2p0 r1p0 false else law4_told.k2 r2p0 r1p0 true)))))
set_option maxRecDepth 100000 in
set_option maxHeartbeats 4000000 in
theorem law4_told.c {B : World} {hs : List MP} {w : World} (hS : St B (hs) w) {r : Bool} (hr : law4_told.impl  = some r) :
    Calls Try.prog 14 #[] w fun e w' => ∃ x : Unit, e = .returned (.bool r) ∧ St B (hs) w' := by
 unfold law4_told.impl at hr
 refine calls_T Try.func14 rfl rfl rfl hS ?_
 refine T.seq ?_
 refine T.region ?_
 refine T.assign .list rfl (wants0 rfl) rfl rfl ?_
 refine T.nil ?_
 refine T.then_normal ?_
 refine T.seq ?_
 refine T.region ?_
 obtain ⟨r1, hg1, hr⟩ := inv_bind hr
 rcases r1 with ⟨_ | r1p0, r1p1⟩
 ·dsimp only at hr
  refine T.call (v := fun (x1 : (Nat) × (Nat) × (Option Addr × Nat) × (Ads)) => .tuple #[.pointer none, .int .i64 r1p1]) (hs' := fun x1 => hs) .list (wants0 rfl) rfl (run_callF (vs := [_]) rfl Try.func7 rfl (by decide) rfl) (fun w hS => disk_New.c hS  hg1) (fun x1 => ?_)
  refine T.move .list rfl (wants0 rfl) rfl rfl ?_
  refine T.extract .list rfl (wants0 rfl) rfl rfl rfl ?_
  refine T.extract .list rfl (wants0 rfl) rfl rfl rfl ?_
  refine T.assign .list rfl (wants0 rfl) rfl rfl ?_
  refine T.assign .list rfl (wants0 rfl) rfl rfl ?_
  refine T.nil ?_
  refine T.then_normal ?_
  refine T.seq ?_
  refine T.seq ?_
  refine T.region ?_
  refine T.move .list rfl (wants0 rfl) rfl rfl ?_
  refine T.ptrEq (pt := 68) .list rfl (wants0 rfl) rfl rfl rfl (by kernel_rfl) (.inr rfl) rfl ?_
  refine T.nil ?_
  refine T.then_normal ?_
  refine T.condT rfl rfl ?_
  refine T.seq ?_
  refine T.region ?_
  refine T.assign .list rfl (wants0 rfl) rfl rfl ?_
  refine T.nil ?_
  refine T.then_normal ?_
  refine T.ret ?_
  refine T.then_ret ?_
  obtain rfl := inv_some hr
  refine T.pick [] 0 rfl rfl (Nat.le_add_left _ _) rfl ?_
  refine T.ret1 rfl rfl (fun w hS => ⟨(), rfl, hS⟩)
 ·dsimp only at hr
  refine T.call (v := fun (x2 : (Nat) × (Nat) × (Option Addr × Nat) × (Ads)) => .tuple #[.pointer (some ⟨x2.1, 0, none⟩), .int .i64 r1p1]) (hs' := fun x2 => Cl x2.1 68 [.int .i64 r1p0.1.1, .map (some x2.2.1), .slice x2.2.2.1.1 r1p0.2.2.length x2.2.2.1.2, .bool r1p0.1.2.1, .int .i64 r1p0.1.2.2.1, .int .i64 r1p0.1.2.2.2.1, .int .u64 r1p0.1.2.2.2.2.1, .int .i64 r1p0.1.2.2.2.2.2.1, .int .i64 r1p0.1.2.2.2.2.2.2] :: Mp (Elt.slice E8) x2.2.1 r1p0.2.1 :: Hb 82 x2.2.2.1.1 x2.2.2.1.2 x2.2.2.2 r1p0.2.2 :: Bb 5 x2.2.2.2 r1p0.2.2 :: hs) .list (wants0 rfl) rfl (run_callF (vs := [_]) rfl Try.func7 rfl (by decide) rfl) (fun w hS => disk_New.c hS  hg1) (fun x2 => ?_)
  refine T.move .list rfl (wants0 rfl) rfl rfl ?_
  refine T.extract .list rfl (wants0 rfl) rfl rfl rfl ?_
  refine T.extract .list rfl (wants0 rfl) rfl rfl rfl ?_
  refine T.assign .list rfl (wants0 rfl) rfl rfl ?_
  refine T.assign .list rfl (wants0 rfl) rfl rfl ?_
  refine T.nil ?_
  refine T.then_normal ?_
  refine T.seq ?_
  refine T.seq ?_
  refine T.region ?_
  refine T.move .list rfl (wants0 rfl) rfl rfl ?_
  refine T.ptrEq (pt := 68) .list rfl (wants0 rfl) rfl rfl rfl (by kernel_rfl) (.inr rfl) rfl ?_
  refine T.nil ?_
  refine T.then_normal ?_
  refine T.condF rfl rfl ?_
  refine T.skip ?_
  refine T.then_normal ?_
  refine T.seq ?_
  refine T.region ?_
  refine T.move .list rfl (wants0 rfl) rfl rfl ?_
  obtain ⟨r2, hg2, hr⟩ := inv_bind hr
  rcases r2 with ⟨_ | r2p0, r2p1⟩
  ·dsimp only at hr
   refine T.pick [0, 1, 2, 3] 4 rfl rfl (Nat.le_add_left _ _) (hs' := Cl x2.1 68 [.int .i64 r1p0.1.1, .map (some x2.2.1), .slice x2.2.2.1.1 r1p0.2.2.length x2.2.2.1.2, .bool r1p0.1.2.1, .int .i64 r1p0.1.2.2.1, .int .i64 r1p0.1.2.2.2.1, .int .u64 r1p0.1.2.2.2.2.1, .int .i64 r1p0.1.2.2.2.2.2.1, .int .i64 r1p0.1.2.2.2.2.2.2] :: Mp (Elt.slice E8) x2.2.1 r1p0.2.1 :: Hb 82 x2.2.2.1.1 x2.2.2.1.2 x2.2.2.2 r1p0.2.2 :: Bb 5 x2.2.2.2 r1p0.2.2 :: hs) rfl ?_
   refine T.call (v := fun (x3 : (Nat) × (Nat)) => .tuple #[.pointer none, .int .i64 r2p1]) (hs' := fun x3 => Cl x2.1 68 [.int .i64 r1p0.1.1, .map (some x2.2.1), .slice x2.2.2.1.1 r1p0.2.2.length x2.2.2.1.2, .bool r1p0.1.2.1, .int .i64 r1p0.1.2.2.1, .int .i64 r1p0.1.2.2.2.1, .int .u64 r1p0.1.2.2.2.2.1, .int .i64 r1p0.1.2.2.2.2.2.1, .int .i64 r1p0.1.2.2.2.2.2.2] :: Mp (Elt.slice E8) x2.2.1 r1p0.2.1 :: Hb 82 x2.2.2.1.1 x2.2.2.1.2 x2.2.2.2 r1p0.2.2 :: Bb 5 x2.2.2.2 r1p0.2.2 :: hs) .list (wants0 rfl) rfl (run_callF (vs := [_]) rfl Try.func8 rfl (by decide) rfl) (fun w hS => page_Open.c hS (o0 := (r1p0.1.1, r1p0.1.2.1, r1p0.1.2.2.1, r1p0.1.2.2.2.1, r1p0.1.2.2.2.2.1, r1p0.1.2.2.2.2.2.1, r1p0.1.2.2.2.2.2.2)) (q0b := r1p0.2.1) (q0c := r1p0.2.2)  hg2) (fun x3 => ?_)
   refine T.move .list rfl (wants0 rfl) rfl rfl ?_
   refine T.extract .list rfl (wants0 rfl) rfl rfl rfl ?_
   refine T.extract .list rfl (wants0 rfl) rfl rfl rfl ?_
   refine T.assign .list rfl (wants0 rfl) rfl rfl ?_
   refine T.assign .list rfl (wants0 rfl) rfl rfl ?_
   refine T.nil ?_
   refine T.then_normal ?_
   refine T.seq ?_
   refine T.seqJ (fun (s1 : Unit) (x4 : Unit) => [(1, .pointer (some ⟨x2.1, 0, none⟩)), (3, .pointer none), (34, .bool true)]) (fun s1 x4 => Cl x2.1 68 [.int .i64 r1p0.1.1, .map (some x2.2.1), .slice x2.2.2.1.1 r1p0.2.2.length x2.2.2.1.2, .bool r1p0.1.2.1, .int .i64 r1p0.1.2.2.1, .int .i64 r1p0.1.2.2.2.1, .int .u64 r1p0.1.2.2.2.2.1, .int .i64 r1p0.1.2.2.2.2.2.1, .int .i64 r1p0.1.2.2.2.2.2.2] :: Mp (Elt.slice E8) x2.2.1 r1p0.2.1 :: Hb 82 x2.2.2.1.1 x2.2.2.1.2 x2.2.2.2 r1p0.2.2 :: Bb 5 x2.2.2.2 r1p0.2.2 :: hs) (fun s1 => law4_told.k1 s1 = some r) (fun s1 x4 hk1 => ?_) (fun J1 => ?_)
   ·unfold law4_told.k1 at hk1
    refine T.condT rfl rfl ?_
    refine T.seq ?_
    refine T.region ?_
    refine T.assign .list rfl (wants0 rfl) rfl rfl ?_
    refine T.nil ?_
    refine T.then_normal ?_
    refine T.ret ?_
    refine T.then_ret ?_
    obtain rfl := inv_some hk1
    refine T.pick [] 4 rfl rfl (Nat.le_add_left _ _) rfl ?_
    refine T.ret1 rfl rfl (fun w hS => ⟨(), rfl, hS⟩)
   ·refine T.region ?_
    refine T.move .list rfl (wants0 rfl) rfl rfl ?_
    refine T.bin .list rfl (wants0 rfl) rfl rfl rfl rfl ?_
    refine T.move .list rfl (wants0 rfl) rfl rfl ?_
    refine T.bool (b := (decide (r2p1 = 0))) (fun hb1 => ?_) (fun hb1 => ?_)
    ·replace hr := inv_posB hb1 hr
     refine T.move .list rfl (wants1 rfl rfl rfl (not_t hb1)) rfl rfl ?_
     refine T.ptrEq (pt := 45) .list rfl (wants1 rfl rfl rfl (not_t hb1)) rfl rfl rfl (by kernel_rfl) (.inr rfl) rfl ?_
     refine T.pickF .list rfl (wants0 rfl) rfl rfl (not_t hb1) rfl ?_
     refine T.nil ?_
     refine T.then_normal ?_
     exact T.le (EnvLe.cons rfl (EnvLe.cons rfl (EnvLe.cons rfl EnvLe.nil))) (T.pick [0, 1, 2, 3] 4 rfl rfl (Nat.le_add_left _ _) rfl (J1 () () hr))
    ·replace hr := inv_negB hb1 hr
     refine T.leave .list (wantsNot rfl rfl rfl (not_f hb1)) rfl ?_
     refine T.leave .list (wantsNot rfl rfl rfl (not_f hb1)) rfl ?_
     refine T.pickT .list rfl (wants0 rfl) rfl rfl (not_f hb1) rfl ?_
     refine T.nil ?_
     refine T.then_normal ?_
     exact T.le (EnvLe.cons rfl (EnvLe.cons rfl (EnvLe.cons rfl EnvLe.nil))) (T.pick [0, 1, 2, 3] 4 rfl rfl (Nat.le_add_left _ _) rfl (J1 () () hr))
  ·dsimp only at hr
   refine T.pick [0, 1, 2, 3] 4 rfl rfl (Nat.le_add_left _ _) (hs' := Cl x2.1 68 [.int .i64 r1p0.1.1, .map (some x2.2.1), .slice x2.2.2.1.1 r1p0.2.2.length x2.2.2.1.2, .bool r1p0.1.2.1, .int .i64 r1p0.1.2.2.1, .int .i64 r1p0.1.2.2.2.1, .int .u64 r1p0.1.2.2.2.2.1, .int .i64 r1p0.1.2.2.2.2.2.1, .int .i64 r1p0.1.2.2.2.2.2.2] :: Mp (Elt.slice E8) x2.2.1 r1p0.2.1 :: Hb 82 x2.2.2.1.1 x2.2.2.1.2 x2.2.2.2 r1p0.2.2 :: Bb 5 x2.2.2.2 r1p0.2.2 :: hs) rfl ?_
   refine T.call (v := fun (x5 : (Nat) × (Nat)) => .tuple #[.pointer (some ⟨x5.1, 0, none⟩), .int .i64 r2p1]) (hs' := fun x5 => Cl x2.1 68 [.int .i64 r1p0.1.1, .map (some x2.2.1), .slice x2.2.2.1.1 r1p0.2.2.length x2.2.2.1.2, .bool r1p0.1.2.1, .int .i64 r1p0.1.2.2.1, .int .i64 r1p0.1.2.2.2.1, .int .u64 r1p0.1.2.2.2.2.1, .int .i64 r1p0.1.2.2.2.2.2.1, .int .i64 r1p0.1.2.2.2.2.2.2] :: Mp (Elt.slice E8) x2.2.1 r1p0.2.1 :: Hb 82 x2.2.2.1.1 x2.2.2.1.2 x2.2.2.2 r1p0.2.2 :: Bb 5 x2.2.2.2 r1p0.2.2 :: Cl x5.1 45 [.int .i64 r2p0.1.1, .map (some x5.2), .pointer (some ⟨x2.1, 0, none⟩), .int .i64 r2p0.1.2.1, .int .u64 r2p0.1.2.2.1, .int .i64 r2p0.1.2.2.2] :: Mp E64 x5.2 r2p0.2 :: hs) .list (wants0 rfl) rfl (run_callF (vs := [_]) rfl Try.func8 rfl (by decide) rfl) (fun w hS => page_Open.c hS (o0 := (r1p0.1.1, r1p0.1.2.1, r1p0.1.2.2.1, r1p0.1.2.2.2.1, r1p0.1.2.2.2.2.1, r1p0.1.2.2.2.2.2.1, r1p0.1.2.2.2.2.2.2)) (q0b := r1p0.2.1) (q0c := r1p0.2.2)  hg2) (fun x5 => ?_)
   refine T.move .list rfl (wants0 rfl) rfl rfl ?_
   refine T.extract .list rfl (wants0 rfl) rfl rfl rfl ?_
   refine T.extract .list rfl (wants0 rfl) rfl rfl rfl ?_
   refine T.assign .list rfl (wants0 rfl) rfl rfl ?_
   refine T.assign .list rfl (wants0 rfl) rfl rfl ?_
   refine T.nil ?_
   refine T.then_normal ?_
   refine T.seq ?_
   refine T.seqJ (fun (s2 : Bool) (x6 : Unit) => [(1, .pointer (some ⟨x2.1, 0, none⟩)), (3, .pointer (some ⟨x5.1, 0, none⟩)), (34, .bool s2)]) (fun s2 x6 => Cl x2.1 68 [.int .i64 r1p0.1.1, .map (some x2.2.1), .slice x2.2.2.1.1 r1p0.2.2.length x2.2.2.1.2, .bool r1p0.1.2.1, .int .i64 r1p0.1.2.2.1, .int .i64 r1p0.1.2.2.2.1, .int .u64 r1p0.1.2.2.2.2.1, .int .i64 r1p0.1.2.2.2.2.2.1, .int .i64 r1p0.1.2.2.2.2.2.2] :: Mp (Elt.slice E8) x2.2.1 r1p0.2.1 :: Hb 82 x2.2.2.1.1 x2.2.2.1.2 x2.2.2.2 r1p0.2.2 :: Bb 5 x2.2.2.2 r1p0.2.2 :: Cl x5.1 45 [.int .i64 r2p0.1.1, .map (some x5.2), .pointer (some ⟨x2.1, 0, none⟩), .int .i64 r2p0.1.2.1, .int .u64 r2p0.1.2.2.1, .int .i64 r2p0.1.2.2.2] :: Mp E64 x5.2 r2p0.2 :: hs) (fun s2 => law4_told.k2 r2p0 r1p0 s2 = some r) (fun s2 x6 hk2 => ?_) (fun J2 => ?_)
   ·unfold law4_told.k2 at hk2
    refine T.cond rfl (fun hb2 => ?_) (fun hb2 => ?_)
    ·replace hk2 := inv_posB hb2 hk2
     refine T.seq ?_
     refine T.region ?_
     refine T.assign .list rfl (wants0 rfl) rfl rfl ?_
     refine T.nil ?_
     refine T.then_normal ?_
     refine T.ret ?_
     refine T.then_ret ?_
     obtain rfl := inv_some hk2
     refine T.pick [] 6 rfl rfl (Nat.le_add_left _ _) rfl ?_
     refine T.ret1 rfl rfl (fun w hS => ⟨(), rfl, hS⟩)
    ·replace hk2 := inv_negB hb2 hk2
     refine T.skip ?_
     refine T.then_normal ?_
     refine T.seq ?_
     refine T.region ?_
     refine T.move .list rfl (wants0 rfl) rfl rfl ?_
     refine T.lit (E := E8) .list (vals := [(0, .int .u8 1)]) (cells := #[.int .u8 1]) rfl (wants0 rfl) rfl rfl rfl rfl rfl (by kernel_rfl) ([(1 : UInt8)] : List UInt8) rfl (fun _ _ _ _ _ => (Encs.c1 (enc := b8) (h1 := fun _ => rfl) rfl rfl)) (fun b1 => ?_)
     refine T.freeze 0 rfl rfl rfl ?_
     refine T.pick [5, 6, 1, 2, 3, 4, 0] 7 rfl rfl (Nat.le_add_left _ _) (hs' := Cl x5.1 45 [.int .i64 r2p0.1.1, .map (some x5.2), .pointer (some ⟨x2.1, 0, none⟩), .int .i64 r2p0.1.2.1, .int .u64 r2p0.1.2.2.1, .int .i64 r2p0.1.2.2.2] :: Mp E64 x5.2 r2p0.2 :: Cl x2.1 68 [.int .i64 r1p0.1.1, .map (some x2.2.1), .slice x2.2.2.1.1 r1p0.2.2.length x2.2.2.1.2, .bool r1p0.1.2.1, .int .i64 r1p0.1.2.2.1, .int .i64 r1p0.1.2.2.2.1, .int .u64 r1p0.1.2.2.2.2.1, .int .i64 r1p0.1.2.2.2.2.2.1, .int .i64 r1p0.1.2.2.2.2.2.2] :: Mp (Elt.slice E8) x2.2.1 r1p0.2.1 :: Hb 82 x2.2.2.1.1 x2.2.2.1.2 x2.2.2.2 r1p0.2.2 :: Bb 5 x2.2.2.2 r1p0.2.2 :: Ro E8 (some ⟨b1, 0, none⟩) 1 (([(1 : UInt8)] : List UInt8)) :: hs) rfl ?_
     obtain ⟨r3, hg3, hk2⟩ := inv_bind hk2
     refine T.call .list (wants0 rfl) rfl (run_callF (vs := [_, _]) rfl Try.func9 rfl (by decide) rfl) (fun w hS => page_Store_Put.c hS (i1 := 6) (o0 := (r2p0.1.1, r2p0.1.2.1, r2p0.1.2.2.1, r2p0.1.2.2.2)) (q0b := r2p0.2) (o0c := (r1p0.1.1, r1p0.1.2.1, r1p0.1.2.2.1, r1p0.1.2.2.2.1, r1p0.1.2.2.2.2.1, r1p0.1.2.2.2.2.2.1, r1p0.1.2.2.2.2.2.2)) (q0cb := r1p0.2.1) (q0cc := r1p0.2.2) rfl hg3) (fun x7 => ?_)
     refine T.move .list rfl (wants0 rfl) rfl rfl ?_
     refine T.extract .list rfl (wants0 rfl) rfl rfl rfl ?_
     refine T.extract .list rfl (wants0 rfl) rfl rfl rfl ?_
     refine T.assign .list rfl (wants0 rfl) rfl rfl ?_
     refine T.assign .list rfl (wants0 rfl) rfl rfl ?_
     refine T.nil ?_
     refine T.then_normal ?_
     refine T.seq ?_
     refine T.region ?_
     refine T.move .list rfl (wants0 rfl) rfl rfl ?_
     refine T.lit (E := E8) .list (vals := [(0, .int .u8 2)]) (cells := #[.int .u8 2]) rfl (wants0 rfl) rfl rfl rfl rfl rfl (by kernel_rfl) ([(2 : UInt8)] : List UInt8) rfl (fun _ _ _ _ _ => (Encs.c1 (enc := b8) (h1 := fun _ => rfl) rfl rfl)) (fun b2 => ?_)
     refine T.freeze 0 rfl rfl rfl ?_
     refine T.pick [1, 2, 3, 4, 5, 6, 0, 7] 8 rfl rfl (Nat.le_add_left _ _) (hs' := Cl x5.1 45 [.int .i64 r2p0.1.1, .map (some x5.2), .pointer (some ⟨x2.1, 0, none⟩), .int .i64 r2p0.1.2.1, .int .u64 r2p0.1.2.2.1, .int .i64 r2p0.1.2.2.2] :: Mp E64 x5.2 r3.2.2.1 :: Cl x2.1 68 [.int .i64 r3.2.2.2.1.1, .map (some x2.2.1), .slice x7.1.1 r3.2.2.2.2.2.length x7.1.2, .bool r3.2.2.2.1.2.1, .int .i64 r3.2.2.2.1.2.2.1, .int .i64 r3.2.2.2.1.2.2.2.1, .int .u64 r3.2.2.2.1.2.2.2.2.1, .int .i64 r3.2.2.2.1.2.2.2.2.2.1, .int .i64 r3.2.2.2.1.2.2.2.2.2.2] :: Mp (Elt.slice E8) x2.2.1 r3.2.2.2.2.1 :: Hb 82 x7.1.1 x7.1.2 x7.2 r3.2.2.2.2.2 :: Bb 5 x7.2 r3.2.2.2.2.2 :: Ro E8 (some ⟨b2, 0, none⟩) 1 (([(2 : UInt8)] : List UInt8)) :: Ro E8 (some ⟨b1, 0, none⟩) 1 (([(1 : UInt8)] : List UInt8)) :: hs) rfl ?_
     obtain ⟨r4, hg4, hk2⟩ := inv_bind hk2
     refine T.call .list (wants0 rfl) rfl (run_callF (vs := [_, _]) rfl Try.func9 rfl (by decide) rfl) (fun w hS => page_Store_Put.c hS (i1 := 6) (o0 := (r2p0.1.1, r2p0.1.2.1, r2p0.1.2.2.1, r2p0.1.2.2.2)) (q0b := r3.2.2.1) (o0c := (r3.2.2.2.1.1, r3.2.2.2.1.2.1, r3.2.2.2.1.2.2.1, r3.2.2.2.1.2.2.2.1, r3.2.2.2.1.2.2.2.2.1, r3.2.2.2.1.2.2.2.2.2.1, r3.2.2.2.1.2.2.2.2.2.2)) (q0cb := r3.2.2.2.2.1) (q0cc := r3.2.2.2.2.2) rfl hg4) (fun x8 => ?_)
     refine T.move .list rfl (wants0 rfl) rfl rfl ?_
     refine T.extract .list rfl (wants0 rfl) rfl rfl rfl ?_
     refine T.extract .list rfl (wants0 rfl) rfl rfl rfl ?_
     refine T.assign .list rfl (wants0 rfl) rfl rfl ?_
     refine T.assign .list rfl (wants0 rfl) rfl rfl ?_
     refine T.nil ?_
     refine T.then_normal ?_
     refine T.seq ?_
     refine T.region ?_
     refine T.move .list rfl (wants0 rfl) rfl rfl ?_
     refine T.move .list rfl (wants0 rfl) rfl rfl ?_
     refine T.pick [0, 1, 2, 3, 4, 5, 6, 7] 8 rfl rfl (Nat.le_add_left _ _) (hs' := Cl x5.1 45 [.int .i64 r2p0.1.1, .map (some x5.2), .pointer (some ⟨x2.1, 0, none⟩), .int .i64 r2p0.1.2.1, .int .u64 r2p0.1.2.2.1, .int .i64 r2p0.1.2.2.2] :: Mp E64 x5.2 r4.2.2.1 :: Cl x2.1 68 [.int .i64 r4.2.2.2.1.1, .map (some x2.2.1), .slice x8.1.1 r4.2.2.2.2.2.length x8.1.2, .bool r4.2.2.2.1.2.1, .int .i64 r4.2.2.2.1.2.2.1, .int .i64 r4.2.2.2.1.2.2.2.1, .int .u64 r4.2.2.2.1.2.2.2.2.1, .int .i64 r4.2.2.2.1.2.2.2.2.2.1, .int .i64 r4.2.2.2.1.2.2.2.2.2.2] :: Mp (Elt.slice E8) x2.2.1 r4.2.2.2.2.1 :: Hb 82 x8.1.1 x8.1.2 x8.2 r4.2.2.2.2.2 :: Bb 5 x8.2 r4.2.2.2.2.2 :: Ro E8 (some ⟨b2, 0, none⟩) 1 (([(2 : UInt8)] : List UInt8)) :: Ro E8 (some ⟨b1, 0, none⟩) 1 (([(1 : UInt8)] : List UInt8)) :: hs) rfl ?_
     obtain ⟨r5, hg5, hk2⟩ := inv_bind hk2
     refine T.call .list (wants0 rfl) rfl (run_callF (vs := [_, _]) rfl Try.func10 rfl (by decide) rfl) (fun w hS => page_Store_Commit.c hS (o0 := (r2p0.1.1, r2p0.1.2.1, r2p0.1.2.2.1, r2p0.1.2.2.2)) (q0b := r4.2.2.1) (o0c := (r4.2.2.2.1.1, r4.2.2.2.1.2.1, r4.2.2.2.1.2.2.1, r4.2.2.2.1.2.2.2.1, r4.2.2.2.1.2.2.2.2.1, r4.2.2.2.1.2.2.2.2.2.1, r4.2.2.2.1.2.2.2.2.2.2)) (q0cb := r4.2.2.2.2.1) (q0cc := r4.2.2.2.2.2)  hg5) (fun x9 => ?_)
     refine T.assign .list rfl (wants0 rfl) rfl rfl ?_
     refine T.nil ?_
     refine T.then_normal ?_
     refine T.seq ?_
     refine T.region ?_
     refine T.move .list rfl (wants0 rfl) rfl rfl ?_
     refine T.move .list rfl (wants0 rfl) rfl rfl ?_
     refine T.pick [0, 1, 2, 3, 4, 5, 6, 7] 8 rfl rfl (Nat.le_add_left _ _) (hs' := Cl x5.1 45 [.int .i64 r5.2.1.1, .map (some x5.2), .pointer (some ⟨x2.1, 0, none⟩), .int .i64 r5.2.1.2.1, .int .u64 r5.2.1.2.2.1, .int .i64 r5.2.1.2.2.2] :: Mp E64 x5.2 r5.2.2.1 :: Cl x2.1 68 [.int .i64 r5.2.2.2.1.1, .map (some x2.2.1), .slice x9.1.1 r5.2.2.2.2.2.length x9.1.2, .bool r5.2.2.2.1.2.1, .int .i64 r5.2.2.2.1.2.2.1, .int .i64 r5.2.2.2.1.2.2.2.1, .int .u64 r5.2.2.2.1.2.2.2.2.1, .int .i64 r5.2.2.2.1.2.2.2.2.2.1, .int .i64 r5.2.2.2.1.2.2.2.2.2.2] :: Mp (Elt.slice E8) x2.2.1 r5.2.2.2.2.1 :: Hb 82 x9.1.1 x9.1.2 x9.2 r5.2.2.2.2.2 :: Bb 5 x9.2 r5.2.2.2.2.2 :: Ro E8 (some ⟨b2, 0, none⟩) 1 (([(2 : UInt8)] : List UInt8)) :: Ro E8 (some ⟨b1, 0, none⟩) 1 (([(1 : UInt8)] : List UInt8)) :: hs) rfl ?_
     obtain ⟨r6, hg6, hk2⟩ := inv_bind hk2
     refine T.call .list (wants0 rfl) rfl (run_callF (vs := [_, _]) rfl Try.func11 rfl (by decide) rfl) (fun w hS => page_Store_Free.c hS (o0 := (r5.2.1.1, r5.2.1.2.1, r5.2.1.2.2.1, r5.2.1.2.2.2)) (q0b := r5.2.2.1) (o0c := (r5.2.2.2.1.1, r5.2.2.2.1.2.1, r5.2.2.2.1.2.2.1, r5.2.2.2.1.2.2.2.1, r5.2.2.2.1.2.2.2.2.1, r5.2.2.2.1.2.2.2.2.2.1, r5.2.2.2.1.2.2.2.2.2.2)) (q0cb := r5.2.2.2.2.1) (q0cc := r5.2.2.2.2.2)  hg6) (fun x10 => ?_)
     refine T.nil ?_
     refine T.then_normal ?_
     refine T.seq ?_
     refine T.region ?_
     refine T.move .list rfl (wants0 rfl) rfl rfl ?_
     refine T.lit (E := E8) .list (vals := [(0, .int .u8 3)]) (cells := #[.int .u8 3]) rfl (wants0 rfl) rfl rfl rfl rfl rfl (by kernel_rfl) ([(3 : UInt8)] : List UInt8) rfl (fun _ _ _ _ _ => (Encs.c1 (enc := b8) (h1 := fun _ => rfl) rfl rfl)) (fun b3 => ?_)
     refine T.freeze 0 rfl rfl rfl ?_
     refine T.pick [1, 2, 3, 4, 5, 6, 0, 7, 8] 9 rfl rfl (Nat.le_add_left _ _) (hs' := Cl x5.1 45 [.int .i64 r5.2.1.1, .map (some x5.2), .pointer (some ⟨x2.1, 0, none⟩), .int .i64 r5.2.1.2.1, .int .u64 r5.2.1.2.2.1, .int .i64 r5.2.1.2.2.2] :: Mp E64 x5.2 r6.2 :: Cl x2.1 68 [.int .i64 r5.2.2.2.1.1, .map (some x2.2.1), .slice x9.1.1 r5.2.2.2.2.2.length x9.1.2, .bool r5.2.2.2.1.2.1, .int .i64 r5.2.2.2.1.2.2.1, .int .i64 r5.2.2.2.1.2.2.2.1, .int .u64 r5.2.2.2.1.2.2.2.2.1, .int .i64 r5.2.2.2.1.2.2.2.2.2.1, .int .i64 r5.2.2.2.1.2.2.2.2.2.2] :: Mp (Elt.slice E8) x2.2.1 r5.2.2.2.2.1 :: Hb 82 x9.1.1 x9.1.2 x9.2 r5.2.2.2.2.2 :: Bb 5 x9.2 r5.2.2.2.2.2 :: Ro E8 (some ⟨b3, 0, none⟩) 1 (([(3 : UInt8)] : List UInt8)) :: Ro E8 (some ⟨b2, 0, none⟩) 1 (([(2 : UInt8)] : List UInt8)) :: Ro E8 (some ⟨b1, 0, none⟩) 1 (([(1 : UInt8)] : List UInt8)) :: hs) rfl ?_
     obtain ⟨r7, hg7, hk2⟩ := inv_bind hk2
     refine T.call .list (wants0 rfl) rfl (run_callF (vs := [_, _]) rfl Try.func9 rfl (by decide) rfl) (fun w hS => page_Store_Put.c hS (i1 := 6) (o0 := (r5.2.1.1, r5.2.1.2.1, r5.2.1.2.2.1, r5.2.1.2.2.2)) (q0b := r6.2) (o0c := (r5.2.2.2.1.1, r5.2.2.2.1.2.1, r5.2.2.2.1.2.2.1, r5.2.2.2.1.2.2.2.1, r5.2.2.2.1.2.2.2.2.1, r5.2.2.2.1.2.2.2.2.2.1, r5.2.2.2.1.2.2.2.2.2.2)) (q0cb := r5.2.2.2.2.1) (q0cc := r5.2.2.2.2.2) rfl hg7) (fun x11 => ?_)
     refine T.move .list rfl (wants0 rfl) rfl rfl ?_
     refine T.extract .list rfl (wants0 rfl) rfl rfl rfl ?_
     refine T.extract .list rfl (wants0 rfl) rfl rfl rfl ?_
     refine T.assign .list rfl (wants0 rfl) rfl rfl ?_
     refine T.assign .list rfl (wants0 rfl) rfl rfl ?_
     refine T.nil ?_
     refine T.then_normal ?_
     refine T.seq ?_
     refine T.region ?_
     refine T.move .list rfl (wants0 rfl) rfl rfl ?_
     refine T.lit (E := E8) .list (vals := [(0, .int .u8 4)]) (cells := #[.int .u8 4]) rfl (wants0 rfl) rfl rfl rfl rfl rfl (by kernel_rfl) ([(4 : UInt8)] : List UInt8) rfl (fun _ _ _ _ _ => (Encs.c1 (enc := b8) (h1 := fun _ => rfl) rfl rfl)) (fun b4 => ?_)
     refine T.freeze 0 rfl rfl rfl ?_
     refine T.pick [1, 2, 3, 4, 5, 6, 0, 7, 8, 9] 10 rfl rfl (Nat.le_add_left _ _) (hs' := Cl x5.1 45 [.int .i64 r5.2.1.1, .map (some x5.2), .pointer (some ⟨x2.1, 0, none⟩), .int .i64 r5.2.1.2.1, .int .u64 r5.2.1.2.2.1, .int .i64 r5.2.1.2.2.2] :: Mp E64 x5.2 r7.2.2.1 :: Cl x2.1 68 [.int .i64 r7.2.2.2.1.1, .map (some x2.2.1), .slice x11.1.1 r7.2.2.2.2.2.length x11.1.2, .bool r7.2.2.2.1.2.1, .int .i64 r7.2.2.2.1.2.2.1, .int .i64 r7.2.2.2.1.2.2.2.1, .int .u64 r7.2.2.2.1.2.2.2.2.1, .int .i64 r7.2.2.2.1.2.2.2.2.2.1, .int .i64 r7.2.2.2.1.2.2.2.2.2.2] :: Mp (Elt.slice E8) x2.2.1 r7.2.2.2.2.1 :: Hb 82 x11.1.1 x11.1.2 x11.2 r7.2.2.2.2.2 :: Bb 5 x11.2 r7.2.2.2.2.2 :: Ro E8 (some ⟨b4, 0, none⟩) 1 (([(4 : UInt8)] : List UInt8)) :: Ro E8 (some ⟨b3, 0, none⟩) 1 (([(3 : UInt8)] : List UInt8)) :: Ro E8 (some ⟨b2, 0, none⟩) 1 (([(2 : UInt8)] : List UInt8)) :: Ro E8 (some ⟨b1, 0, none⟩) 1 (([(1 : UInt8)] : List UInt8)) :: hs) rfl ?_
     obtain ⟨r8, hg8, hk2⟩ := inv_bind hk2
     refine T.call .list (wants0 rfl) rfl (run_callF (vs := [_, _]) rfl Try.func9 rfl (by decide) rfl) (fun w hS => page_Store_Put.c hS (i1 := 6) (o0 := (r5.2.1.1, r5.2.1.2.1, r5.2.1.2.2.1, r5.2.1.2.2.2)) (q0b := r7.2.2.1) (o0c := (r7.2.2.2.1.1, r7.2.2.2.1.2.1, r7.2.2.2.1.2.2.1, r7.2.2.2.1.2.2.2.1, r7.2.2.2.1.2.2.2.2.1, r7.2.2.2.1.2.2.2.2.2.1, r7.2.2.2.1.2.2.2.2.2.2)) (q0cb := r7.2.2.2.2.1) (q0cc := r7.2.2.2.2.2) rfl hg8) (fun x12 => ?_)
     refine T.move .list rfl (wants0 rfl) rfl rfl ?_
     refine T.extract .list rfl (wants0 rfl) rfl rfl rfl ?_
     refine T.extract .list rfl (wants0 rfl) rfl rfl rfl ?_
     refine T.assign .list rfl (wants0 rfl) rfl rfl ?_
     refine T.assign .list rfl (wants0 rfl) rfl rfl ?_
     refine T.nil ?_
     refine T.then_normal ?_
     refine T.seq ?_
     refine T.region ?_
     refine T.move .list rfl (wants0 rfl) rfl rfl ?_
     obtain ⟨r9, hg9, hk2⟩ := inv_bind hk2
     rcases r9 with ⟨_ | r9p0, r9p1⟩
     ·dsimp only at hk2
      refine T.pick [2, 3, 4, 5, 0, 1, 6, 7, 8, 9] 10 rfl rfl (Nat.le_add_left _ _) (hs' := Cl x2.1 68 [.int .i64 r8.2.2.2.1.1, .map (some x2.2.1), .slice x12.1.1 r8.2.2.2.2.2.length x12.1.2, .bool r8.2.2.2.1.2.1, .int .i64 r8.2.2.2.1.2.2.1, .int .i64 r8.2.2.2.1.2.2.2.1, .int .u64 r8.2.2.2.1.2.2.2.2.1, .int .i64 r8.2.2.2.1.2.2.2.2.2.1, .int .i64 r8.2.2.2.1.2.2.2.2.2.2] :: Mp (Elt.slice E8) x2.2.1 r8.2.2.2.2.1 :: Hb 82 x12.1.1 x12.1.2 x12.2 r8.2.2.2.2.2 :: Bb 5 x12.2 r8.2.2.2.2.2 :: Cl x5.1 45 [.int .i64 r5.2.1.1, .map (some x5.2), .pointer (some ⟨x2.1, 0, none⟩), .int .i64 r5.2.1.2.1, .int .u64 r5.2.1.2.2.1, .int .i64 r5.2.1.2.2.2] :: Mp E64 x5.2 r8.2.2.1 :: Ro E8 (some ⟨b4, 0, none⟩) 1 (([(4 : UInt8)] : List UInt8)) :: Ro E8 (some ⟨b3, 0, none⟩) 1 (([(3 : UInt8)] : List UInt8)) :: Ro E8 (some ⟨b2, 0, none⟩) 1 (([(2 : UInt8)] : List UInt8)) :: Ro E8 (some ⟨b1, 0, none⟩) 1 (([(1 : UInt8)] : List UInt8)) :: hs) rfl ?_
      refine T.call (v := fun (x13 : (Nat) × (Nat)) => .tuple #[.pointer none, .int .i64 r9p1]) (hs' := fun x13 => Cl x2.1 68 [.int .i64 r8.2.2.2.1.1, .map (some x2.2.1), .slice x12.1.1 r8.2.2.2.2.2.length x12.1.2, .bool r8.2.2.2.1.2.1, .int .i64 r8.2.2.2.1.2.2.1, .int .i64 r8.2.2.2.1.2.2.2.1, .int .u64 r8.2.2.2.1.2.2.2.2.1, .int .i64 r8.2.2.2.1.2.2.2.2.2.1, .int .i64 r8.2.2.2.1.2.2.2.2.2.2] :: Mp (Elt.slice E8) x2.2.1 r8.2.2.2.2.1 :: Hb 82 x12.1.1 x12.1.2 x12.2 r8.2.2.2.2.2 :: Bb 5 x12.2 r8.2.2.2.2.2 :: Cl x5.1 45 [.int .i64 r5.2.1.1, .map (some x5.2), .pointer (some ⟨x2.1, 0, none⟩), .int .i64 r5.2.1.2.1, .int .u64 r5.2.1.2.2.1, .int .i64 r5.2.1.2.2.2] :: Mp E64 x5.2 r8.2.2.1 :: Ro E8 (some ⟨b4, 0, none⟩) 1 (([(4 : UInt8)] : List UInt8)) :: Ro E8 (some ⟨b3, 0, none⟩) 1 (([(3 : UInt8)] : List UInt8)) :: Ro E8 (some ⟨b2, 0, none⟩) 1 (([(2 : UInt8)] : List UInt8)) :: Ro E8 (some ⟨b1, 0, none⟩) 1 (([(1 : UInt8)] : List UInt8)) :: hs) .list (wants0 rfl) rfl (run_callF (vs := [_]) rfl Try.func8 rfl (by decide) rfl) (fun w hS => page_Open.c hS (o0 := (r8.2.2.2.1.1, r8.2.2.2.1.2.1, r8.2.2.2.1.2.2.1, r8.2.2.2.1.2.2.2.1, r8.2.2.2.1.2.2.2.2.1, r8.2.2.2.1.2.2.2.2.2.1, r8.2.2.2.1.2.2.2.2.2.2)) (q0b := r8.2.2.2.2.1) (q0c := r8.2.2.2.2.2)  hg9) (fun x13 => ?_)
      refine T.move .list rfl (wants0 rfl) rfl rfl ?_
      refine T.extract .list rfl (wants0 rfl) rfl rfl rfl ?_
      refine T.extract .list rfl (wants0 rfl) rfl rfl rfl ?_
      refine T.assign .list rfl (wants0 rfl) rfl rfl ?_
      refine T.assign .list rfl (wants0 rfl) rfl rfl ?_
      refine T.nil ?_
      refine T.then_normal ?_
      refine T.seq ?_
      refine T.region ?_
      refine T.move .list rfl (wants0 rfl) rfl rfl ?_
      refine T.move .list rfl (wants0 rfl) rfl rfl ?_
      refine T.pick [4, 5, 0, 1, 2, 3, 6, 7, 8, 9] 10 rfl rfl (Nat.le_add_left _ _) (hs' := Cl x5.1 45 [.int .i64 r5.2.1.1, .map (some x5.2), .pointer (some ⟨x2.1, 0, none⟩), .int .i64 r5.2.1.2.1, .int .u64 r5.2.1.2.2.1, .int .i64 r5.2.1.2.2.2] :: Mp E64 x5.2 r8.2.2.1 :: Cl x2.1 68 [.int .i64 r8.2.2.2.1.1, .map (some x2.2.1), .slice x12.1.1 r8.2.2.2.2.2.length x12.1.2, .bool r8.2.2.2.1.2.1, .int .i64 r8.2.2.2.1.2.2.1, .int .i64 r8.2.2.2.1.2.2.2.1, .int .u64 r8.2.2.2.1.2.2.2.2.1, .int .i64 r8.2.2.2.1.2.2.2.2.2.1, .int .i64 r8.2.2.2.1.2.2.2.2.2.2] :: Mp (Elt.slice E8) x2.2.1 r8.2.2.2.2.1 :: Hb 82 x12.1.1 x12.1.2 x12.2 r8.2.2.2.2.2 :: Bb 5 x12.2 r8.2.2.2.2.2 :: Ro E8 (some ⟨b4, 0, none⟩) 1 (([(4 : UInt8)] : List UInt8)) :: Ro E8 (some ⟨b3, 0, none⟩) 1 (([(3 : UInt8)] : List UInt8)) :: Ro E8 (some ⟨b2, 0, none⟩) 1 (([(2 : UInt8)] : List UInt8)) :: Ro E8 (some ⟨b1, 0, none⟩) 1 (([(1 : UInt8)] : List UInt8)) :: hs) rfl ?_
      obtain ⟨r10, hg10, hk2⟩ := inv_bind hk2
      refine T.call .list (wants0 rfl) rfl (run_callF (vs := [_, _]) rfl Try.func13 rfl (by decide) rfl) (fun w hS => page_Store_Get.c hS (o0 := (r5.2.1.1, r5.2.1.2.1, r5.2.1.2.2.1, r5.2.1.2.2.2)) (q0b := r8.2.2.1) (o0c := (r8.2.2.2.1.1, r8.2.2.2.1.2.1, r8.2.2.2.1.2.2.1, r8.2.2.2.1.2.2.2.1, r8.2.2.2.1.2.2.2.2.1, r8.2.2.2.1.2.2.2.2.2.1, r8.2.2.2.1.2.2.2.2.2.2)) (q0cb := r8.2.2.2.2.1) (q0cc := r8.2.2.2.2.2)  hg10) (fun x14 => ?_)
      refine T.move .list rfl (wants0 rfl) rfl rfl ?_
      refine T.extract .list rfl (wants0 rfl) rfl rfl rfl ?_
      refine T.extract .list rfl (wants0 rfl) rfl rfl rfl ?_
      refine T.assign .list rfl (wants0 rfl) rfl rfl ?_
      refine T.assign .list rfl (wants0 rfl) rfl rfl ?_
      refine T.nil ?_
      refine T.then_normal ?_
      refine T.seq ?_
      refine T.region ?_
      refine T.move .list rfl (wants0 rfl) rfl rfl ?_
      refine T.bin .list rfl (wants0 rfl) rfl rfl rfl rfl ?_
      refine T.move .list rfl (wants0 rfl) rfl rfl ?_
      refine T.bool (b := (decide (r3.1 = 2))) (fun hb3 => ?_) (fun hb3 => ?_)
      ·replace hk2 := inv_posB hb3 hk2
       refine T.move .list rfl (wants1 rfl rfl rfl hb3) rfl rfl ?_
       refine T.bin .list rfl (wants1 rfl rfl rfl hb3) rfl rfl rfl rfl ?_
       refine T.pickT .list rfl (wants0 rfl) rfl rfl hb3 rfl ?_
       refine T.move .list rfl (wants0 rfl) rfl rfl ?_
       refine T.bool (b := (decide (r4.1 = 3))) (fun hb4 => ?_) (fun hb4 => ?_)
       ·replace hk2 := inv_posB hb4 hk2
        refine T.move .list rfl (wants1 rfl rfl rfl hb4) rfl rfl ?_
        refine T.bin .list rfl (wants1 rfl rfl rfl hb4) rfl rfl rfl rfl ?_
        refine T.pickT .list rfl (wants0 rfl) rfl rfl hb4 rfl ?_
        refine T.move .list rfl (wants0 rfl) rfl rfl ?_
        refine T.bool (b := (decide (r7.1 = 4))) (fun hb5 => ?_) (fun hb5 => ?_)
        ·replace hk2 := inv_posB hb5 hk2
         refine T.move .list rfl (wants1 rfl rfl rfl hb5) rfl rfl ?_
         refine T.bin .list rfl (wants1 rfl rfl rfl hb5) rfl rfl rfl rfl ?_
         refine T.pickT .list rfl (wants0 rfl) rfl rfl hb5 rfl ?_
         refine T.move .list rfl (wants0 rfl) rfl rfl ?_
         refine T.bool (b := (decide (r5.1 = 0))) (fun hb6 => ?_) (fun hb6 => ?_)
         ·replace hk2 := inv_posB hb6 hk2
          refine T.move .list rfl (wants1 rfl rfl rfl hb6) rfl rfl ?_
          refine T.bin .list rfl (wants1 rfl rfl rfl hb6) rfl rfl rfl rfl ?_
          refine T.pickT .list rfl (wants0 rfl) rfl rfl hb6 rfl ?_
          refine T.move .list rfl (wants0 rfl) rfl rfl ?_
          refine T.bool (b := (decide (r8.2.1 = 21))) (fun hb7 => ?_) (fun hb7 => ?_)
          ·replace hk2 := inv_posB hb7 hk2
           refine T.move .list rfl (wants1 rfl rfl rfl hb7) rfl rfl ?_
           refine T.bin .list rfl (wants1 rfl rfl rfl hb7) rfl rfl rfl rfl ?_
           refine T.pickT .list rfl (wants0 rfl) rfl rfl hb7 rfl ?_
           refine T.move .list rfl (wants0 rfl) rfl rfl ?_
           refine T.bool (b := (decide (r9p1 = 0))) (fun hb8 => ?_) (fun hb8 => ?_)
           ·replace hk2 := inv_posB hb8 hk2
            refine T.move .list rfl (wants1 rfl rfl rfl hb8) rfl rfl ?_
            refine T.ptrNe (pt := 45) .list rfl (wants1 rfl rfl rfl hb8) rfl rfl rfl (by kernel_rfl) (.inr rfl) rfl ?_
            refine T.pickT .list rfl (wants0 rfl) rfl rfl hb8 rfl ?_
            refine T.move .list rfl (wants0 rfl) rfl rfl ?_
            refine T.leave .list (wantsNot rfl rfl rfl rfl) rfl ?_
            refine T.leave .list (wantsNot rfl rfl rfl rfl) rfl ?_
            refine T.leave .list (wantsNot rfl rfl rfl rfl) rfl ?_
            refine T.pickF .list rfl (wants0 rfl) rfl rfl rfl rfl ?_
            refine T.move .list rfl (wants0 rfl) rfl rfl ?_
            refine T.leave .list (wantsNot rfl rfl rfl rfl) rfl ?_
            refine T.leave .list (wantsNot rfl rfl rfl rfl) rfl ?_
            refine T.leave .list (wantsNot rfl rfl rfl rfl) rfl ?_
            refine T.pickF .list rfl (wants0 rfl) rfl rfl rfl rfl ?_
            refine T.move .list rfl (wants0 rfl) rfl rfl ?_
            refine T.leave .list (wantsNot rfl rfl rfl rfl) rfl ?_
            refine T.leave .list (wantsNot rfl rfl rfl rfl) rfl ?_
            refine T.pickF .list rfl (wants0 rfl) rfl rfl rfl rfl ?_
            refine T.move .list rfl (wants0 rfl) rfl rfl ?_
            refine T.leave .list (wantsNot rfl rfl rfl rfl) rfl ?_
            refine T.leave .list (wantsNot rfl rfl rfl rfl) rfl ?_
            refine T.leave .list (wantsNot rfl rfl rfl rfl) rfl ?_
            refine T.pickF .list rfl (wants0 rfl) rfl rfl rfl rfl ?_
            refine T.assign .list rfl (wants0 rfl) rfl rfl ?_
            refine T.nil ?_
            refine T.then_normal ?_
            refine T.ret ?_
            obtain rfl := inv_some hk2
            refine T.pick [] 11 rfl rfl (Nat.le_add_left _ _) rfl ?_
            refine T.ret1 rfl rfl (fun w hS => ⟨(), rfl, hS⟩)
           ·replace hk2 := inv_negB hb8 hk2
            refine T.leave .list (wantsNot rfl rfl rfl hb8) rfl ?_
            refine T.leave .list (wantsNot rfl rfl rfl hb8) rfl ?_
            refine T.pickF .list rfl (wants0 rfl) rfl rfl hb8 rfl ?_
            refine T.move .list rfl (wants0 rfl) rfl rfl ?_
            refine T.leave .list (wantsNot rfl rfl rfl rfl) rfl ?_
            refine T.leave .list (wantsNot rfl rfl rfl rfl) rfl ?_
            refine T.leave .list (wantsNot rfl rfl rfl rfl) rfl ?_
            refine T.pickF .list rfl (wants0 rfl) rfl rfl rfl rfl ?_
            refine T.move .list rfl (wants0 rfl) rfl rfl ?_
            refine T.leave .list (wantsNot rfl rfl rfl rfl) rfl ?_
            refine T.leave .list (wantsNot rfl rfl rfl rfl) rfl ?_
            refine T.leave .list (wantsNot rfl rfl rfl rfl) rfl ?_
            refine T.pickF .list rfl (wants0 rfl) rfl rfl rfl rfl ?_
            refine T.move .list rfl (wants0 rfl) rfl rfl ?_
            refine T.leave .list (wantsNot rfl rfl rfl rfl) rfl ?_
            refine T.leave .list (wantsNot rfl rfl rfl rfl) rfl ?_
            refine T.pickF .list rfl (wants0 rfl) rfl rfl rfl rfl ?_
            refine T.move .list rfl (wants0 rfl) rfl rfl ?_
            refine T.leave .list (wantsNot rfl rfl rfl rfl) rfl ?_
            refine T.leave .list (wantsNot rfl rfl rfl rfl) rfl ?_
            refine T.leave .list (wantsNot rfl rfl rfl rfl) rfl ?_
            refine T.pickF .list rfl (wants0 rfl) rfl rfl rfl rfl ?_
            refine T.assign .list rfl (wants0 rfl) rfl rfl ?_
            refine T.nil ?_
            refine T.then_normal ?_
            refine T.ret ?_
            obtain rfl := inv_some hk2
            refine T.pick [] 11 rfl rfl (Nat.le_add_left _ _) rfl ?_
            refine T.ret1 rfl rfl (fun w hS => ⟨(), rfl, hS⟩)
          ·replace hk2 := inv_negB hb7 hk2
           refine T.leave .list (wantsNot rfl rfl rfl hb7) rfl ?_
           refine T.leave .list (wantsNot rfl rfl rfl hb7) rfl ?_
           refine T.pickF .list rfl (wants0 rfl) rfl rfl hb7 rfl ?_
           refine T.move .list rfl (wants0 rfl) rfl rfl ?_
           refine T.leave .list (wantsNot rfl rfl rfl rfl) rfl ?_
           refine T.leave .list (wantsNot rfl rfl rfl rfl) rfl ?_
           refine T.pickF .list rfl (wants0 rfl) rfl rfl rfl rfl ?_
           refine T.move .list rfl (wants0 rfl) rfl rfl ?_
           refine T.leave .list (wantsNot rfl rfl rfl rfl) rfl ?_
           refine T.leave .list (wantsNot rfl rfl rfl rfl) rfl ?_
           refine T.leave .list (wantsNot rfl rfl rfl rfl) rfl ?_
           refine T.pickF .list rfl (wants0 rfl) rfl rfl rfl rfl ?_
           refine T.move .list rfl (wants0 rfl) rfl rfl ?_
           refine T.leave .list (wantsNot rfl rfl rfl rfl) rfl ?_
           refine T.leave .list (wantsNot rfl rfl rfl rfl) rfl ?_
           refine T.leave .list (wantsNot rfl rfl rfl rfl) rfl ?_
           refine T.pickF .list rfl (wants0 rfl) rfl rfl rfl rfl ?_
           refine T.move .list rfl (wants0 rfl) rfl rfl ?_
           refine T.leave .list (wantsNot rfl rfl rfl rfl) rfl ?_
           refine T.leave .list (wantsNot rfl rfl rfl rfl) rfl ?_
           refine T.pickF .list rfl (wants0 rfl) rfl rfl rfl rfl ?_
           refine T.move .list rfl (wants0 rfl) rfl rfl ?_
           refine T.leave .list (wantsNot rfl rfl rfl rfl) rfl ?_
           refine T.leave .list (wantsNot rfl rfl rfl rfl) rfl ?_
           refine T.leave .list (wantsNot rfl rfl rfl rfl) rfl ?_
           refine T.pickF .list rfl (wants0 rfl) rfl rfl rfl rfl ?_
           refine T.assign .list rfl (wants0 rfl) rfl rfl ?_
           refine T.nil ?_
           refine T.then_normal ?_
           refine T.ret ?_
           obtain rfl := inv_some hk2
           refine T.pick [] 11 rfl rfl (Nat.le_add_left _ _) rfl ?_
           refine T.ret1 rfl rfl (fun w hS => ⟨(), rfl, hS⟩)
         ·replace hk2 := inv_negB hb6 hk2
          refine T.leave .list (wantsNot rfl rfl rfl hb6) rfl ?_
          refine T.leave .list (wantsNot rfl rfl rfl hb6) rfl ?_
          refine T.pickF .list rfl (wants0 rfl) rfl rfl hb6 rfl ?_
          refine T.move .list rfl (wants0 rfl) rfl rfl ?_
          refine T.leave .list (wantsNot rfl rfl rfl rfl) rfl ?_
          refine T.leave .list (wantsNot rfl rfl rfl rfl) rfl ?_
          refine T.pickF .list rfl (wants0 rfl) rfl rfl rfl rfl ?_
          refine T.move .list rfl (wants0 rfl) rfl rfl ?_
          refine T.leave .list (wantsNot rfl rfl rfl rfl) rfl ?_
          refine T.leave .list (wantsNot rfl rfl rfl rfl) rfl ?_
          refine T.pickF .list rfl (wants0 rfl) rfl rfl rfl rfl ?_
          refine T.move .list rfl (wants0 rfl) rfl rfl ?_
          refine T.leave .list (wantsNot rfl rfl rfl rfl) rfl ?_
          refine T.leave .list (wantsNot rfl rfl rfl rfl) rfl ?_
          refine T.leave .list (wantsNot rfl rfl rfl rfl) rfl ?_
          refine T.pickF .list rfl (wants0 rfl) rfl rfl rfl rfl ?_
          refine T.move .list rfl (wants0 rfl) rfl rfl ?_
          refine T.leave .list (wantsNot rfl rfl rfl rfl) rfl ?_
          refine T.leave .list (wantsNot rfl rfl rfl rfl) rfl ?_
          refine T.leave .list (wantsNot rfl rfl rfl rfl) rfl ?_
          refine T.pickF .list rfl (wants0 rfl) rfl rfl rfl rfl ?_
          refine T.move .list rfl (wants0 rfl) rfl rfl ?_
          refine T.leave .list (wantsNot rfl rfl rfl rfl) rfl ?_
          refine T.leave .list (wantsNot rfl rfl rfl rfl) rfl ?_
          refine T.pickF .list rfl (wants0 rfl) rfl rfl rfl rfl ?_
          refine T.move .list rfl (wants0 rfl) rfl rfl ?_
          refine T.leave .list (wantsNot rfl rfl rfl rfl) rfl ?_
          refine T.leave .list (wantsNot rfl rfl rfl rfl) rfl ?_
          refine T.leave .list (wantsNot rfl rfl rfl rfl) rfl ?_
          refine T.pickF .list rfl (wants0 rfl) rfl rfl rfl rfl ?_
          refine T.assign .list rfl (wants0 rfl) rfl rfl ?_
          refine T.nil ?_
          refine T.then_normal ?_
          refine T.ret ?_
          obtain rfl := inv_some hk2
          refine T.pick [] 11 rfl rfl (Nat.le_add_left _ _) rfl ?_
          refine T.ret1 rfl rfl (fun w hS => ⟨(), rfl, hS⟩)
        ·replace hk2 := inv_negB hb5 hk2
         refine T.leave .list (wantsNot rfl rfl rfl hb5) rfl ?_
         refine T.leave .list (wantsNot rfl rfl rfl hb5) rfl ?_
         refine T.pickF .list rfl (wants0 rfl) rfl rfl hb5 rfl ?_
         refine T.move .list rfl (wants0 rfl) rfl rfl ?_
         refine T.leave .list (wantsNot rfl rfl rfl rfl) rfl ?_
         refine T.leave .list (wantsNot rfl rfl rfl rfl) rfl ?_
         refine T.pickF .list rfl (wants0 rfl) rfl rfl rfl rfl ?_
         refine T.move .list rfl (wants0 rfl) rfl rfl ?_
         refine T.leave .list (wantsNot rfl rfl rfl rfl) rfl ?_
         refine T.leave .list (wantsNot rfl rfl rfl rfl) rfl ?_
         refine T.pickF .list rfl (wants0 rfl) rfl rfl rfl rfl ?_
         refine T.move .list rfl (wants0 rfl) rfl rfl ?_
         refine T.leave .list (wantsNot rfl rfl rfl rfl) rfl ?_
         refine T.leave .list (wantsNot rfl rfl rfl rfl) rfl ?_
         refine T.pickF .list rfl (wants0 rfl) rfl rfl rfl rfl ?_
         refine T.move .list rfl (wants0 rfl) rfl rfl ?_
         refine T.leave .list (wantsNot rfl rfl rfl rfl) rfl ?_
         refine T.leave .list (wantsNot rfl rfl rfl rfl) rfl ?_
         refine T.leave .list (wantsNot rfl rfl rfl rfl) rfl ?_
         refine T.pickF .list rfl (wants0 rfl) rfl rfl rfl rfl ?_
         refine T.move .list rfl (wants0 rfl) rfl rfl ?_
         refine T.leave .list (wantsNot rfl rfl rfl rfl) rfl ?_
         refine T.leave .list (wantsNot rfl rfl rfl rfl) rfl ?_
         refine T.leave .list (wantsNot rfl rfl rfl rfl) rfl ?_
         refine T.pickF .list rfl (wants0 rfl) rfl rfl rfl rfl ?_
         refine T.move .list rfl (wants0 rfl) rfl rfl ?_
         refine T.leave .list (wantsNot rfl rfl rfl rfl) rfl ?_
         refine T.leave .list (wantsNot rfl rfl rfl rfl) rfl ?_
         refine T.pickF .list rfl (wants0 rfl) rfl rfl rfl rfl ?_
         refine T.move .list rfl (wants0 rfl) rfl rfl ?_
         refine T.leave .list (wantsNot rfl rfl rfl rfl) rfl ?_
         refine T.leave .list (wantsNot rfl rfl rfl rfl) rfl ?_
         refine T.leave .list (wantsNot rfl rfl rfl rfl) rfl ?_
         refine T.pickF .list rfl (wants0 rfl) rfl rfl rfl rfl ?_
         refine T.assign .list rfl (wants0 rfl) rfl rfl ?_
         refine T.nil ?_
         refine T.then_normal ?_
         refine T.ret ?_
         obtain rfl := inv_some hk2
         refine T.pick [] 11 rfl rfl (Nat.le_add_left _ _) rfl ?_
         refine T.ret1 rfl rfl (fun w hS => ⟨(), rfl, hS⟩)
       ·replace hk2 := inv_negB hb4 hk2
        refine T.leave .list (wantsNot rfl rfl rfl hb4) rfl ?_
        refine T.leave .list (wantsNot rfl rfl rfl hb4) rfl ?_
        refine T.pickF .list rfl (wants0 rfl) rfl rfl hb4 rfl ?_
        refine T.move .list rfl (wants0 rfl) rfl rfl ?_
        refine T.leave .list (wantsNot rfl rfl rfl rfl) rfl ?_
        refine T.leave .list (wantsNot rfl rfl rfl rfl) rfl ?_
        refine T.pickF .list rfl (wants0 rfl) rfl rfl rfl rfl ?_
        refine T.move .list rfl (wants0 rfl) rfl rfl ?_
        refine T.leave .list (wantsNot rfl rfl rfl rfl) rfl ?_
        refine T.leave .list (wantsNot rfl rfl rfl rfl) rfl ?_
        refine T.pickF .list rfl (wants0 rfl) rfl rfl rfl rfl ?_
        refine T.move .list rfl (wants0 rfl) rfl rfl ?_
        refine T.leave .list (wantsNot rfl rfl rfl rfl) rfl ?_
        refine T.leave .list (wantsNot rfl rfl rfl rfl) rfl ?_
        refine T.pickF .list rfl (wants0 rfl) rfl rfl rfl rfl ?_
        refine T.move .list rfl (wants0 rfl) rfl rfl ?_
        refine T.leave .list (wantsNot rfl rfl rfl rfl) rfl ?_
        refine T.leave .list (wantsNot rfl rfl rfl rfl) rfl ?_
        refine T.pickF .list rfl (wants0 rfl) rfl rfl rfl rfl ?_
        refine T.move .list rfl (wants0 rfl) rfl rfl ?_
        refine T.leave .list (wantsNot rfl rfl rfl rfl) rfl ?_
        refine T.leave .list (wantsNot rfl rfl rfl rfl) rfl ?_
        refine T.leave .list (wantsNot rfl rfl rfl rfl) rfl ?_
        refine T.pickF .list rfl (wants0 rfl) rfl rfl rfl rfl ?_
        refine T.move .list rfl (wants0 rfl) rfl rfl ?_
        refine T.leave .list (wantsNot rfl rfl rfl rfl) rfl ?_
        refine T.leave .list (wantsNot rfl rfl rfl rfl) rfl ?_
        refine T.leave .list (wantsNot rfl rfl rfl rfl) rfl ?_
        refine T.pickF .list rfl (wants0 rfl) rfl rfl rfl rfl ?_
        refine T.move .list rfl (wants0 rfl) rfl rfl ?_
        refine T.leave .list (wantsNot rfl rfl rfl rfl) rfl ?_
        refine T.leave .list (wantsNot rfl rfl rfl rfl) rfl ?_
        refine T.pickF .list rfl (wants0 rfl) rfl rfl rfl rfl ?_
        refine T.move .list rfl (wants0 rfl) rfl rfl ?_
        refine T.leave .list (wantsNot rfl rfl rfl rfl) rfl ?_
        refine T.leave .list (wantsNot rfl rfl rfl rfl) rfl ?_
        refine T.leave .list (wantsNot rfl rfl rfl rfl) rfl ?_
        refine T.pickF .list rfl (wants0 rfl) rfl rfl rfl rfl ?_
        refine T.assign .list rfl (wants0 rfl) rfl rfl ?_
        refine T.nil ?_
        refine T.then_normal ?_
        refine T.ret ?_
        obtain rfl := inv_some hk2
        refine T.pick [] 11 rfl rfl (Nat.le_add_left _ _) rfl ?_
        refine T.ret1 rfl rfl (fun w hS => ⟨(), rfl, hS⟩)
      ·replace hk2 := inv_negB hb3 hk2
       refine T.leave .list (wantsNot rfl rfl rfl hb3) rfl ?_
       refine T.leave .list (wantsNot rfl rfl rfl hb3) rfl ?_
       refine T.pickF .list rfl (wants0 rfl) rfl rfl hb3 rfl ?_
       refine T.move .list rfl (wants0 rfl) rfl rfl ?_
       refine T.leave .list (wantsNot rfl rfl rfl rfl) rfl ?_
       refine T.leave .list (wantsNot rfl rfl rfl rfl) rfl ?_
       refine T.pickF .list rfl (wants0 rfl) rfl rfl rfl rfl ?_
       refine T.move .list rfl (wants0 rfl) rfl rfl ?_
       refine T.leave .list (wantsNot rfl rfl rfl rfl) rfl ?_
       refine T.leave .list (wantsNot rfl rfl rfl rfl) rfl ?_
       refine T.pickF .list rfl (wants0 rfl) rfl rfl rfl rfl ?_
       refine T.move .list rfl (wants0 rfl) rfl rfl ?_
       refine T.leave .list (wantsNot rfl rfl rfl rfl) rfl ?_
       refine T.leave .list (wantsNot rfl rfl rfl rfl) rfl ?_
       refine T.pickF .list rfl (wants0 rfl) rfl rfl rfl rfl ?_
       refine T.move .list rfl (wants0 rfl) rfl rfl ?_
       refine T.leave .list (wantsNot rfl rfl rfl rfl) rfl ?_
       refine T.leave .list (wantsNot rfl rfl rfl rfl) rfl ?_
       refine T.pickF .list rfl (wants0 rfl) rfl rfl rfl rfl ?_
       refine T.move .list rfl (wants0 rfl) rfl rfl ?_
       refine T.leave .list (wantsNot rfl rfl rfl rfl) rfl ?_
       refine T.leave .list (wantsNot rfl rfl rfl rfl) rfl ?_
       refine T.pickF .list rfl (wants0 rfl) rfl rfl rfl rfl ?_
       refine T.move .list rfl (wants0 rfl) rfl rfl ?_
       refine T.leave .list (wantsNot rfl rfl rfl rfl) rfl ?_
       refine T.leave .list (wantsNot rfl rfl rfl rfl) rfl ?_
       refine T.leave .list (wantsNot rfl rfl rfl rfl) rfl ?_
       refine T.pickF .list rfl (wants0 rfl) rfl rfl rfl rfl ?_
       refine T.move .list rfl (wants0 rfl) rfl rfl ?_
       refine T.leave .list (wantsNot rfl rfl rfl rfl) rfl ?_
       refine T.leave .list (wantsNot rfl rfl rfl rfl) rfl ?_
       refine T.leave .list (wantsNot rfl rfl rfl rfl) rfl ?_
       refine T.pickF .list rfl (wants0 rfl) rfl rfl rfl rfl ?_
       refine T.move .list rfl (wants0 rfl) rfl rfl ?_
       refine T.leave .list (wantsNot rfl rfl rfl rfl) rfl ?_
       refine T.leave .list (wantsNot rfl rfl rfl rfl) rfl ?_
       refine T.pickF .list rfl (wants0 rfl) rfl rfl rfl rfl ?_
       refine T.move .list rfl (wants0 rfl) rfl rfl ?_
       refine T.leave .list (wantsNot rfl rfl rfl rfl) rfl ?_
       refine T.leave .list (wantsNot rfl rfl rfl rfl) rfl ?_
       refine T.leave .list (wantsNot rfl rfl rfl rfl) rfl ?_
       refine T.pickF .list rfl (wants0 rfl) rfl rfl rfl rfl ?_
       refine T.assign .list rfl (wants0 rfl) rfl rfl ?_
       refine T.nil ?_
       refine T.then_normal ?_
       refine T.ret ?_
       obtain rfl := inv_some hk2
       refine T.pick [] 11 rfl rfl (Nat.le_add_left _ _) rfl ?_
       refine T.ret1 rfl rfl (fun w hS => ⟨(), rfl, hS⟩)
     ·dsimp only at hk2
      refine T.pick [2, 3, 4, 5, 0, 1, 6, 7, 8, 9] 10 rfl rfl (Nat.le_add_left _ _) (hs' := Cl x2.1 68 [.int .i64 r8.2.2.2.1.1, .map (some x2.2.1), .slice x12.1.1 r8.2.2.2.2.2.length x12.1.2, .bool r8.2.2.2.1.2.1, .int .i64 r8.2.2.2.1.2.2.1, .int .i64 r8.2.2.2.1.2.2.2.1, .int .u64 r8.2.2.2.1.2.2.2.2.1, .int .i64 r8.2.2.2.1.2.2.2.2.2.1, .int .i64 r8.2.2.2.1.2.2.2.2.2.2] :: Mp (Elt.slice E8) x2.2.1 r8.2.2.2.2.1 :: Hb 82 x12.1.1 x12.1.2 x12.2 r8.2.2.2.2.2 :: Bb 5 x12.2 r8.2.2.2.2.2 :: Cl x5.1 45 [.int .i64 r5.2.1.1, .map (some x5.2), .pointer (some ⟨x2.1, 0, none⟩), .int .i64 r5.2.1.2.1, .int .u64 r5.2.1.2.2.1, .int .i64 r5.2.1.2.2.2] :: Mp E64 x5.2 r8.2.2.1 :: Ro E8 (some ⟨b4, 0, none⟩) 1 (([(4 : UInt8)] : List UInt8)) :: Ro E8 (some ⟨b3, 0, none⟩) 1 (([(3 : UInt8)] : List UInt8)) :: Ro E8 (some ⟨b2, 0, none⟩) 1 (([(2 : UInt8)] : List UInt8)) :: Ro E8 (some ⟨b1, 0, none⟩) 1 (([(1 : UInt8)] : List UInt8)) :: hs) rfl ?_
      refine T.call (v := fun (x15 : (Nat) × (Nat)) => .tuple #[.pointer (some ⟨x15.1, 0, none⟩), .int .i64 r9p1]) (hs' := fun x15 => Cl x2.1 68 [.int .i64 r8.2.2.2.1.1, .map (some x2.2.1), .slice x12.1.1 r8.2.2.2.2.2.length x12.1.2, .bool r8.2.2.2.1.2.1, .int .i64 r8.2.2.2.1.2.2.1, .int .i64 r8.2.2.2.1.2.2.2.1, .int .u64 r8.2.2.2.1.2.2.2.2.1, .int .i64 r8.2.2.2.1.2.2.2.2.2.1, .int .i64 r8.2.2.2.1.2.2.2.2.2.2] :: Mp (Elt.slice E8) x2.2.1 r8.2.2.2.2.1 :: Hb 82 x12.1.1 x12.1.2 x12.2 r8.2.2.2.2.2 :: Bb 5 x12.2 r8.2.2.2.2.2 :: Cl x15.1 45 [.int .i64 r9p0.1.1, .map (some x15.2), .pointer (some ⟨x2.1, 0, none⟩), .int .i64 r9p0.1.2.1, .int .u64 r9p0.1.2.2.1, .int .i64 r9p0.1.2.2.2] :: Mp E64 x15.2 r9p0.2 :: Cl x5.1 45 [.int .i64 r5.2.1.1, .map (some x5.2), .pointer (some ⟨x2.1, 0, none⟩), .int .i64 r5.2.1.2.1, .int .u64 r5.2.1.2.2.1, .int .i64 r5.2.1.2.2.2] :: Mp E64 x5.2 r8.2.2.1 :: Ro E8 (some ⟨b4, 0, none⟩) 1 (([(4 : UInt8)] : List UInt8)) :: Ro E8 (some ⟨b3, 0, none⟩) 1 (([(3 : UInt8)] : List UInt8)) :: Ro E8 (some ⟨b2, 0, none⟩) 1 (([(2 : UInt8)] : List UInt8)) :: Ro E8 (some ⟨b1, 0, none⟩) 1 (([(1 : UInt8)] : List UInt8)) :: hs) .list (wants0 rfl) rfl (run_callF (vs := [_]) rfl Try.func8 rfl (by decide) rfl) (fun w hS => page_Open.c hS (o0 := (r8.2.2.2.1.1, r8.2.2.2.1.2.1, r8.2.2.2.1.2.2.1, r8.2.2.2.1.2.2.2.1, r8.2.2.2.1.2.2.2.2.1, r8.2.2.2.1.2.2.2.2.2.1, r8.2.2.2.1.2.2.2.2.2.2)) (q0b := r8.2.2.2.2.1) (q0c := r8.2.2.2.2.2)  hg9) (fun x15 => ?_)
      refine T.move .list rfl (wants0 rfl) rfl rfl ?_
      refine T.extract .list rfl (wants0 rfl) rfl rfl rfl ?_
      refine T.extract .list rfl (wants0 rfl) rfl rfl rfl ?_
      refine T.assign .list rfl (wants0 rfl) rfl rfl ?_
      refine T.assign .list rfl (wants0 rfl) rfl rfl ?_
      refine T.nil ?_
      refine T.then_normal ?_
      refine T.seq ?_
      refine T.region ?_
      refine T.move .list rfl (wants0 rfl) rfl rfl ?_
      refine T.move .list rfl (wants0 rfl) rfl rfl ?_
      refine T.pick [6, 7, 0, 1, 2, 3, 4, 5, 8, 9, 10, 11] 12 rfl rfl (Nat.le_add_left _ _) (hs' := Cl x5.1 45 [.int .i64 r5.2.1.1, .map (some x5.2), .pointer (some ⟨x2.1, 0, none⟩), .int .i64 r5.2.1.2.1, .int .u64 r5.2.1.2.2.1, .int .i64 r5.2.1.2.2.2] :: Mp E64 x5.2 r8.2.2.1 :: Cl x2.1 68 [.int .i64 r8.2.2.2.1.1, .map (some x2.2.1), .slice x12.1.1 r8.2.2.2.2.2.length x12.1.2, .bool r8.2.2.2.1.2.1, .int .i64 r8.2.2.2.1.2.2.1, .int .i64 r8.2.2.2.1.2.2.2.1, .int .u64 r8.2.2.2.1.2.2.2.2.1, .int .i64 r8.2.2.2.1.2.2.2.2.2.1, .int .i64 r8.2.2.2.1.2.2.2.2.2.2] :: Mp (Elt.slice E8) x2.2.1 r8.2.2.2.2.1 :: Hb 82 x12.1.1 x12.1.2 x12.2 r8.2.2.2.2.2 :: Bb 5 x12.2 r8.2.2.2.2.2 :: Cl x15.1 45 [.int .i64 r9p0.1.1, .map (some x15.2), .pointer (some ⟨x2.1, 0, none⟩), .int .i64 r9p0.1.2.1, .int .u64 r9p0.1.2.2.1, .int .i64 r9p0.1.2.2.2] :: Mp E64 x15.2 r9p0.2 :: Ro E8 (some ⟨b4, 0, none⟩) 1 (([(4 : UInt8)] : List UInt8)) :: Ro E8 (some ⟨b3, 0, none⟩) 1 (([(3 : UInt8)] : List UInt8)) :: Ro E8 (some ⟨b2, 0, none⟩) 1 (([(2 : UInt8)] : List UInt8)) :: Ro E8 (some ⟨b1, 0, none⟩) 1 (([(1 : UInt8)] : List UInt8)) :: hs) rfl ?_
      obtain ⟨r11, hg11, hk2⟩ := inv_bind hk2
      refine T.call .list (wants0 rfl) rfl (run_callF (vs := [_, _]) rfl Try.func13 rfl (by decide) rfl) (fun w hS => page_Store_Get.c hS (o0 := (r5.2.1.1, r5.2.1.2.1, r5.2.1.2.2.1, r5.2.1.2.2.2)) (q0b := r8.2.2.1) (o0c := (r8.2.2.2.1.1, r8.2.2.2.1.2.1, r8.2.2.2.1.2.2.1, r8.2.2.2.1.2.2.2.1, r8.2.2.2.1.2.2.2.2.1, r8.2.2.2.1.2.2.2.2.2.1, r8.2.2.2.1.2.2.2.2.2.2)) (q0cb := r8.2.2.2.2.1) (q0cc := r8.2.2.2.2.2)  hg11) (fun x16 => ?_)
      refine T.move .list rfl (wants0 rfl) rfl rfl ?_
      refine T.extract .list rfl (wants0 rfl) rfl rfl rfl ?_
      refine T.extract .list rfl (wants0 rfl) rfl rfl rfl ?_
      refine T.assign .list rfl (wants0 rfl) rfl rfl ?_
      refine T.assign .list rfl (wants0 rfl) rfl rfl ?_
      refine T.nil ?_
      refine T.then_normal ?_
      refine T.seq ?_
      refine T.region ?_
      refine T.move .list rfl (wants0 rfl) rfl rfl ?_
      refine T.bin .list rfl (wants0 rfl) rfl rfl rfl rfl ?_
      refine T.move .list rfl (wants0 rfl) rfl rfl ?_
      refine T.bool (b := (decide (r3.1 = 2))) (fun hb9 => ?_) (fun hb9 => ?_)
      ·replace hk2 := inv_posB hb9 hk2
       refine T.move .list rfl (wants1 rfl rfl rfl hb9) rfl rfl ?_
       refine T.bin .list rfl (wants1 rfl rfl rfl hb9) rfl rfl rfl rfl ?_
       refine T.pickT .list rfl (wants0 rfl) rfl rfl hb9 rfl ?_
       refine T.move .list rfl (wants0 rfl) rfl rfl ?_
       refine T.bool (b := (decide (r4.1 = 3))) (fun hb10 => ?_) (fun hb10 => ?_)
       ·replace hk2 := inv_posB hb10 hk2
        refine T.move .list rfl (wants1 rfl rfl rfl hb10) rfl rfl ?_
        refine T.bin .list rfl (wants1 rfl rfl rfl hb10) rfl rfl rfl rfl ?_
        refine T.pickT .list rfl (wants0 rfl) rfl rfl hb10 rfl ?_
        refine T.move .list rfl (wants0 rfl) rfl rfl ?_
        refine T.bool (b := (decide (r7.1 = 4))) (fun hb11 => ?_) (fun hb11 => ?_)
        ·replace hk2 := inv_posB hb11 hk2
         refine T.move .list rfl (wants1 rfl rfl rfl hb11) rfl rfl ?_
         refine T.bin .list rfl (wants1 rfl rfl rfl hb11) rfl rfl rfl rfl ?_
         refine T.pickT .list rfl (wants0 rfl) rfl rfl hb11 rfl ?_
         refine T.move .list rfl (wants0 rfl) rfl rfl ?_
         refine T.bool (b := (decide (r5.1 = 0))) (fun hb12 => ?_) (fun hb12 => ?_)
         ·replace hk2 := inv_posB hb12 hk2
          refine T.move .list rfl (wants1 rfl rfl rfl hb12) rfl rfl ?_
          refine T.bin .list rfl (wants1 rfl rfl rfl hb12) rfl rfl rfl rfl ?_
          refine T.pickT .list rfl (wants0 rfl) rfl rfl hb12 rfl ?_
          refine T.move .list rfl (wants0 rfl) rfl rfl ?_
          refine T.bool (b := (decide (r8.2.1 = 21))) (fun hb13 => ?_) (fun hb13 => ?_)
          ·replace hk2 := inv_posB hb13 hk2
           refine T.move .list rfl (wants1 rfl rfl rfl hb13) rfl rfl ?_
           refine T.bin .list rfl (wants1 rfl rfl rfl hb13) rfl rfl rfl rfl ?_
           refine T.pickT .list rfl (wants0 rfl) rfl rfl hb13 rfl ?_
           refine T.move .list rfl (wants0 rfl) rfl rfl ?_
           refine T.bool (b := (decide (r9p1 = 0))) (fun hb14 => ?_) (fun hb14 => ?_)
           ·replace hk2 := inv_posB hb14 hk2
            refine T.move .list rfl (wants1 rfl rfl rfl hb14) rfl rfl ?_
            refine T.ptrNe (pt := 45) .list rfl (wants1 rfl rfl rfl hb14) rfl rfl rfl (by kernel_rfl) (.inr rfl) rfl ?_
            refine T.pickT .list rfl (wants0 rfl) rfl rfl hb14 rfl ?_
            refine T.move .list rfl (wants0 rfl) rfl rfl ?_
            refine T.move .list rfl (wants1 rfl rfl rfl rfl) rfl rfl ?_
            refine T.pick [7, 8, 3, 4, 5, 6, 0, 1, 2, 9, 10, 11, 12] 13 rfl rfl (Nat.le_add_left _ _) (hs' := Cl x15.1 45 [.int .i64 r9p0.1.1, .map (some x15.2), .pointer (some ⟨x2.1, 0, none⟩), .int .i64 r9p0.1.2.1, .int .u64 r9p0.1.2.2.1, .int .i64 r9p0.1.2.2.2] :: Mp E64 x15.2 r9p0.2 :: Cl x2.1 68 [.int .i64 r8.2.2.2.1.1, .map (some x2.2.1), .slice x12.1.1 r8.2.2.2.2.2.length x12.1.2, .bool r8.2.2.2.1.2.1, .int .i64 r8.2.2.2.1.2.2.1, .int .i64 r8.2.2.2.1.2.2.2.1, .int .u64 r8.2.2.2.1.2.2.2.2.1, .int .i64 r8.2.2.2.1.2.2.2.2.2.1, .int .i64 r8.2.2.2.1.2.2.2.2.2.2] :: Mp (Elt.slice E8) x2.2.1 r8.2.2.2.2.1 :: Hb 82 x12.1.1 x12.1.2 x12.2 r8.2.2.2.2.2 :: Bb 5 x12.2 r8.2.2.2.2.2 :: Ro E8 x16.1 x16.2 r11.1 :: Cl x5.1 45 [.int .i64 r5.2.1.1, .map (some x5.2), .pointer (some ⟨x2.1, 0, none⟩), .int .i64 r5.2.1.2.1, .int .u64 r5.2.1.2.2.1, .int .i64 r5.2.1.2.2.2] :: Mp E64 x5.2 r8.2.2.1 :: Ro E8 (some ⟨b4, 0, none⟩) 1 (([(4 : UInt8)] : List UInt8)) :: Ro E8 (some ⟨b3, 0, none⟩) 1 (([(3 : UInt8)] : List UInt8)) :: Ro E8 (some ⟨b2, 0, none⟩) 1 (([(2 : UInt8)] : List UInt8)) :: Ro E8 (some ⟨b1, 0, none⟩) 1 (([(1 : UInt8)] : List UInt8)) :: hs) rfl ?_
            obtain ⟨r12, hg12, hk2⟩ := inv_bind hk2
            refine T.call .list (wants1 rfl rfl rfl rfl) rfl (run_callF (vs := [_]) rfl Try.func21 rfl (by decide) rfl) (fun w hS => page_Store_Root.c hS (o0 := (r9p0.1.1, r9p0.1.2.1, r9p0.1.2.2.1, r9p0.1.2.2.2)) (q0b := r9p0.2) (o0c := (r8.2.2.2.1.1, r8.2.2.2.1.2.1, r8.2.2.2.1.2.2.1, r8.2.2.2.1.2.2.2.1, r8.2.2.2.1.2.2.2.2.1, r8.2.2.2.1.2.2.2.2.2.1, r8.2.2.2.1.2.2.2.2.2.2)) (q0cb := r8.2.2.2.2.1) (q0cc := r8.2.2.2.2.2)  hg12) (fun x17 => ?_)
            refine T.bin .list rfl (wants1 rfl rfl rfl rfl) rfl rfl rfl rfl ?_
            refine T.pickT .list rfl (wants0 rfl) rfl rfl rfl rfl ?_
            refine T.move .list rfl (wants0 rfl) rfl rfl ?_
            refine T.bool (b := (decide (r12 = 3))) (fun hb15 => ?_) (fun hb15 => ?_)
            ·replace hk2 := inv_posB hb15 hk2
             refine T.move .list rfl (wants1 rfl rfl rfl hb15) rfl rfl ?_
             refine T.pick [0, 1, 2, 3, 4, 5, 6, 7, 8, 9, 10, 11, 12] 13 rfl rfl (Nat.le_add_left _ _) (hs' := Cl x15.1 45 [.int .i64 r9p0.1.1, .map (some x15.2), .pointer (some ⟨x2.1, 0, none⟩), .int .i64 r9p0.1.2.1, .int .u64 r9p0.1.2.2.1, .int .i64 r9p0.1.2.2.2] :: Mp E64 x15.2 r9p0.2 :: Cl x2.1 68 [.int .i64 r8.2.2.2.1.1, .map (some x2.2.1), .slice x12.1.1 r8.2.2.2.2.2.length x12.1.2, .bool r8.2.2.2.1.2.1, .int .i64 r8.2.2.2.1.2.2.1, .int .i64 r8.2.2.2.1.2.2.2.1, .int .u64 r8.2.2.2.1.2.2.2.2.1, .int .i64 r8.2.2.2.1.2.2.2.2.2.1, .int .i64 r8.2.2.2.1.2.2.2.2.2.2] :: Mp (Elt.slice E8) x2.2.1 r8.2.2.2.2.1 :: Hb 82 x12.1.1 x12.1.2 x12.2 r8.2.2.2.2.2 :: Bb 5 x12.2 r8.2.2.2.2.2 :: Ro E8 x16.1 x16.2 r11.1 :: Cl x5.1 45 [.int .i64 r5.2.1.1, .map (some x5.2), .pointer (some ⟨x2.1, 0, none⟩), .int .i64 r5.2.1.2.1, .int .u64 r5.2.1.2.2.1, .int .i64 r5.2.1.2.2.2] :: Mp E64 x5.2 r8.2.2.1 :: Ro E8 (some ⟨b4, 0, none⟩) 1 (([(4 : UInt8)] : List UInt8)) :: Ro E8 (some ⟨b3, 0, none⟩) 1 (([(3 : UInt8)] : List UInt8)) :: Ro E8 (some ⟨b2, 0, none⟩) 1 (([(2 : UInt8)] : List UInt8)) :: Ro E8 (some ⟨b1, 0, none⟩) 1 (([(1 : UInt8)] : List UInt8)) :: hs) rfl ?_
             obtain ⟨r13, hg13, hk2⟩ := inv_bind hk2
             refine T.call .list (wants1 rfl rfl rfl hb15) rfl (run_callF (vs := [_]) rfl Try.func15 rfl (by decide) rfl) (fun w hS => page_Store_Number.c hS (o0 := (r9p0.1.1, r9p0.1.2.1, r9p0.1.2.2.1, r9p0.1.2.2.2)) (q0b := r9p0.2) (o0c := (r8.2.2.2.1.1, r8.2.2.2.1.2.1, r8.2.2.2.1.2.2.1, r8.2.2.2.1.2.2.2.1, r8.2.2.2.1.2.2.2.2.1, r8.2.2.2.1.2.2.2.2.2.1, r8.2.2.2.1.2.2.2.2.2.2)) (q0cb := r8.2.2.2.2.1) (q0cc := r8.2.2.2.2.2)  hg13) (fun x18 => ?_)
             refine T.bin .list rfl (wants1 rfl rfl rfl hb15) rfl rfl rfl rfl ?_
             refine T.pickT .list rfl (wants0 rfl) rfl rfl hb15 rfl ?_
             refine T.move .list rfl (wants0 rfl) rfl rfl ?_
             refine T.bool (b := (decide (r13 = 1))) (fun hb16 => ?_) (fun hb16 => ?_)
             ·replace hk2 := inv_posB hb16 hk2
              refine T.move .list rfl (wants1 rfl rfl rfl hb16) rfl rfl ?_
              refine T.bin .list rfl (wants1 rfl rfl rfl hb16) rfl rfl rfl rfl ?_
              refine T.pickT .list rfl (wants0 rfl) rfl rfl hb16 rfl ?_
              refine T.move .list rfl (wants0 rfl) rfl rfl ?_
              refine T.bool (b := (decide (r11.2 = 0))) (fun hb17 => ?_) (fun hb17 => ?_)
              ·replace hk2 := inv_posB hb17 hk2
               refine T.move .list rfl (wants1 rfl rfl rfl hb17) rfl rfl ?_
               refine T.strRo .list 6 rfl rfl (wants1 rfl rfl rfl hb17) rfl rfl rfl ?_
               refine T.strEq .list rfl (wants1 rfl rfl rfl hb17) rfl (l := r11.1) (l' := ([2])) rfl rfl ?_
               refine T.pickT .list rfl (wants0 rfl) rfl rfl hb17 rfl ?_
               refine T.assign .list rfl (wants0 rfl) rfl rfl ?_
               refine T.nil ?_
               refine T.then_normal ?_
               refine T.ret ?_
               obtain rfl := inv_some hk2
               refine T.pick [] 13 rfl rfl (Nat.le_add_left _ _) rfl ?_
               refine T.ret1 rfl rfl (fun w hS => ⟨(), rfl, hS⟩)
              ·replace hk2 := inv_negB hb17 hk2
               refine T.leave .list (wantsNot rfl rfl rfl hb17) rfl ?_
               refine T.leave .list (wantsNot rfl rfl rfl hb17) rfl ?_
               refine T.leave .list (wantsNot rfl rfl rfl hb17) rfl ?_
               refine T.pickF .list rfl (wants0 rfl) rfl rfl hb17 rfl ?_
               refine T.assign .list rfl (wants0 rfl) rfl rfl ?_
               refine T.nil ?_
               refine T.then_normal ?_
               refine T.ret ?_
               obtain rfl := inv_some hk2
               refine T.pick [] 13 rfl rfl (Nat.le_add_left _ _) rfl ?_
               refine T.ret1 rfl rfl (fun w hS => ⟨(), rfl, hS⟩)
             ·replace hk2 := inv_negB hb16 hk2
              refine T.leave .list (wantsNot rfl rfl rfl hb16) rfl ?_
              refine T.leave .list (wantsNot rfl rfl rfl hb16) rfl ?_
              refine T.pickF .list rfl (wants0 rfl) rfl rfl hb16 rfl ?_
              refine T.move .list rfl (wants0 rfl) rfl rfl ?_
              refine T.leave .list (wantsNot rfl rfl rfl rfl) rfl ?_
              refine T.leave .list (wantsNot rfl rfl rfl rfl) rfl ?_
              refine T.leave .list (wantsNot rfl rfl rfl rfl) rfl ?_
              refine T.pickF .list rfl (wants0 rfl) rfl rfl rfl rfl ?_
              refine T.assign .list rfl (wants0 rfl) rfl rfl ?_
              refine T.nil ?_
              refine T.then_normal ?_
              refine T.ret ?_
              obtain rfl := inv_some hk2
              refine T.pick [] 13 rfl rfl (Nat.le_add_left _ _) rfl ?_
              refine T.ret1 rfl rfl (fun w hS => ⟨(), rfl, hS⟩)
            ·replace hk2 := inv_negB hb15 hk2
             refine T.leave .list (wantsNot rfl rfl rfl hb15) rfl ?_
             refine T.leave .list (wantsNot rfl rfl rfl hb15) rfl ?_
             refine T.leave .list (wantsNot rfl rfl rfl hb15) rfl ?_
             refine T.pickF .list rfl (wants0 rfl) rfl rfl hb15 rfl ?_
             refine T.move .list rfl (wants0 rfl) rfl rfl ?_
             refine T.leave .list (wantsNot rfl rfl rfl rfl) rfl ?_
             refine T.leave .list (wantsNot rfl rfl rfl rfl) rfl ?_
             refine T.pickF .list rfl (wants0 rfl) rfl rfl rfl rfl ?_
             refine T.move .list rfl (wants0 rfl) rfl rfl ?_
             refine T.leave .list (wantsNot rfl rfl rfl rfl) rfl ?_
             refine T.leave .list (wantsNot rfl rfl rfl rfl) rfl ?_
             refine T.leave .list (wantsNot rfl rfl rfl rfl) rfl ?_
             refine T.pickF .list rfl (wants0 rfl) rfl rfl rfl rfl ?_
             refine T.assign .list rfl (wants0 rfl) rfl rfl ?_
             refine T.nil ?_
             refine T.then_normal ?_
             refine T.ret ?_
             obtain rfl := inv_some hk2
             refine T.pick [] 13 rfl rfl (Nat.le_add_left _ _) rfl ?_
             refine T.ret1 rfl rfl (fun w hS => ⟨(), rfl, hS⟩)
           ·replace hk2 := inv_negB hb14 hk2
            refine T.leave .list (wantsNot rfl rfl rfl hb14) rfl ?_
            refine T.leave .list (wantsNot rfl rfl rfl hb14) rfl ?_
            refine T.pickF .list rfl (wants0 rfl) rfl rfl hb14 rfl ?_
            refine T.move .list rfl (wants0 rfl) rfl rfl ?_
            refine T.leave .list (wantsNot rfl rfl rfl rfl) rfl ?_
            refine T.leave .list (wantsNot rfl rfl rfl rfl) rfl ?_
            refine T.leave .list (wantsNot rfl rfl rfl rfl) rfl ?_
            refine T.pickF .list rfl (wants0 rfl) rfl rfl rfl rfl ?_
            refine T.move .list rfl (wants0 rfl) rfl rfl ?_
            refine T.leave .list (wantsNot rfl rfl rfl rfl) rfl ?_
            refine T.leave .list (wantsNot rfl rfl rfl rfl) rfl ?_
            refine T.leave .list (wantsNot rfl rfl rfl rfl) rfl ?_
            refine T.pickF .list rfl (wants0 rfl) rfl rfl rfl rfl ?_
            refine T.move .list rfl (wants0 rfl) rfl rfl ?_
            refine T.leave .list (wantsNot rfl rfl rfl rfl) rfl ?_
            refine T.leave .list (wantsNot rfl rfl rfl rfl) rfl ?_
            refine T.pickF .list rfl (wants0 rfl) rfl rfl rfl rfl ?_
            refine T.move .list rfl (wants0 rfl) rfl rfl ?_
            refine T.leave .list (wantsNot rfl rfl rfl rfl) rfl ?_
            refine T.leave .list (wantsNot rfl rfl rfl rfl) rfl ?_
            refine T.leave .list (wantsNot rfl rfl rfl rfl) rfl ?_
            refine T.pickF .list rfl (wants0 rfl) rfl rfl rfl rfl ?_
            refine T.assign .list rfl (wants0 rfl) rfl rfl ?_
            refine T.nil ?_
            refine T.then_normal ?_
            refine T.ret ?_
            obtain rfl := inv_some hk2
            refine T.pick [] 13 rfl rfl (Nat.le_add_left _ _) rfl ?_
            refine T.ret1 rfl rfl (fun w hS => ⟨(), rfl, hS⟩)
          ·replace hk2 := inv_negB hb13 hk2
           refine T.leave .list (wantsNot rfl rfl rfl hb13) rfl ?_
           refine T.leave .list (wantsNot rfl rfl rfl hb13) rfl ?_
           refine T.pickF .list rfl (wants0 rfl) rfl rfl hb13 rfl ?_
           refine T.move .list rfl (wants0 rfl) rfl rfl ?_
           refine T.leave .list (wantsNot rfl rfl rfl rfl) rfl ?_
           refine T.leave .list (wantsNot rfl rfl rfl rfl) rfl ?_
           refine T.pickF .list rfl (wants0 rfl) rfl rfl rfl rfl ?_
           refine T.move .list rfl (wants0 rfl) rfl rfl ?_
           refine T.leave .list (wantsNot rfl rfl rfl rfl) rfl ?_
           refine T.leave .list (wantsNot rfl rfl rfl rfl) rfl ?_
           refine T.leave .list (wantsNot rfl rfl rfl rfl) rfl ?_
           refine T.pickF .list rfl (wants0 rfl) rfl rfl rfl rfl ?_
           refine T.move .list rfl (wants0 rfl) rfl rfl ?_
           refine T.leave .list (wantsNot rfl rfl rfl rfl) rfl ?_
           refine T.leave .list (wantsNot rfl rfl rfl rfl) rfl ?_
           refine T.leave .list (wantsNot rfl rfl rfl rfl) rfl ?_
           refine T.pickF .list rfl (wants0 rfl) rfl rfl rfl rfl ?_
           refine T.move .list rfl (wants0 rfl) rfl rfl ?_
           refine T.leave .list (wantsNot rfl rfl rfl rfl) rfl ?_
           refine T.leave .list (wantsNot rfl rfl rfl rfl) rfl ?_
           refine T.pickF .list rfl (wants0 rfl) rfl rfl rfl rfl ?_
           refine T.move .list rfl (wants0 rfl) rfl rfl ?_
           refine T.leave .list (wantsNot rfl rfl rfl rfl) rfl ?_
           refine T.leave .list (wantsNot rfl rfl rfl rfl) rfl ?_
           refine T.leave .list (wantsNot rfl rfl rfl rfl) rfl ?_
           refine T.pickF .list rfl (wants0 rfl) rfl rfl rfl rfl ?_
           refine T.assign .list rfl (wants0 rfl) rfl rfl ?_
           refine T.nil ?_
           refine T.then_normal ?_
           refine T.ret ?_
           obtain rfl := inv_some hk2
           refine T.pick [] 13 rfl rfl (Nat.le_add_left _ _) rfl ?_
           refine T.ret1 rfl rfl (fun w hS => ⟨(), rfl, hS⟩)
         ·replace hk2 := inv_negB hb12 hk2
          refine T.leave .list (wantsNot rfl rfl rfl hb12) rfl ?_
          refine T.leave .list (wantsNot rfl rfl rfl hb12) rfl ?_
          refine T.pickF .list rfl (wants0 rfl) rfl rfl hb12 rfl ?_
          refine T.move .list rfl (wants0 rfl) rfl rfl ?_
          refine T.leave .list (wantsNot rfl rfl rfl rfl) rfl ?_
          refine T.leave .list (wantsNot rfl rfl rfl rfl) rfl ?_
          refine T.pickF .list rfl (wants0 rfl) rfl rfl rfl rfl ?_
          refine T.move .list rfl (wants0 rfl) rfl rfl ?_
          refine T.leave .list (wantsNot rfl rfl rfl rfl) rfl ?_
          refine T.leave .list (wantsNot rfl rfl rfl rfl) rfl ?_
          refine T.pickF .list rfl (wants0 rfl) rfl rfl rfl rfl ?_
          refine T.move .list rfl (wants0 rfl) rfl rfl ?_
          refine T.leave .list (wantsNot rfl rfl rfl rfl) rfl ?_
          refine T.leave .list (wantsNot rfl rfl rfl rfl) rfl ?_
          refine T.leave .list (wantsNot rfl rfl rfl rfl) rfl ?_
          refine T.pickF .list rfl (wants0 rfl) rfl rfl rfl rfl ?_
          refine T.move .list rfl (wants0 rfl) rfl rfl ?_
          refine T.leave .list (wantsNot rfl rfl rfl rfl) rfl ?_
          refine T.leave .list (wantsNot rfl rfl rfl rfl) rfl ?_
          refine T.leave .list (wantsNot rfl rfl rfl rfl) rfl ?_
          refine T.pickF .list rfl (wants0 rfl) rfl rfl rfl rfl ?_
          refine T.move .list rfl (wants0 rfl) rfl rfl ?_
          refine T.leave .list (wantsNot rfl rfl rfl rfl) rfl ?_
          refine T.leave .list (wantsNot rfl rfl rfl rfl) rfl ?_
          refine T.pickF .list rfl (wants0 rfl) rfl rfl rfl rfl ?_
          refine T.move .list rfl (wants0 rfl) rfl rfl ?_
          refine T.leave .list (wantsNot rfl rfl rfl rfl) rfl ?_
          refine T.leave .list (wantsNot rfl rfl rfl rfl) rfl ?_
          refine T.leave .list (wantsNot rfl rfl rfl rfl) rfl ?_
          refine T.pickF .list rfl (wants0 rfl) rfl rfl rfl rfl ?_
          refine T.assign .list rfl (wants0 rfl) rfl rfl ?_
          refine T.nil ?_
          refine T.then_normal ?_
          refine T.ret ?_
          obtain rfl := inv_some hk2
          refine T.pick [] 13 rfl rfl (Nat.le_add_left _ _) rfl ?_
          refine T.ret1 rfl rfl (fun w hS => ⟨(), rfl, hS⟩)
        ·replace hk2 := inv_negB hb11 hk2
         refine T.leave .list (wantsNot rfl rfl rfl hb11) rfl ?_
         refine T.leave .list (wantsNot rfl rfl rfl hb11) rfl ?_
         refine T.pickF .list rfl (wants0 rfl) rfl rfl hb11 rfl ?_
         refine T.move .list rfl (wants0 rfl) rfl rfl ?_
         refine T.leave .list (wantsNot rfl rfl rfl rfl) rfl ?_
         refine T.leave .list (wantsNot rfl rfl rfl rfl) rfl ?_
         refine T.pickF .list rfl (wants0 rfl) rfl rfl rfl rfl ?_
         refine T.move .list rfl (wants0 rfl) rfl rfl ?_
         refine T.leave .list (wantsNot rfl rfl rfl rfl) rfl ?_
         refine T.leave .list (wantsNot rfl rfl rfl rfl) rfl ?_
         refine T.pickF .list rfl (wants0 rfl) rfl rfl rfl rfl ?_
         refine T.move .list rfl (wants0 rfl) rfl rfl ?_
         refine T.leave .list (wantsNot rfl rfl rfl rfl) rfl ?_
         refine T.leave .list (wantsNot rfl rfl rfl rfl) rfl ?_
         refine T.pickF .list rfl (wants0 rfl) rfl rfl rfl rfl ?_
         refine T.move .list rfl (wants0 rfl) rfl rfl ?_
         refine T.leave .list (wantsNot rfl rfl rfl rfl) rfl ?_
         refine T.leave .list (wantsNot rfl rfl rfl rfl) rfl ?_
         refine T.leave .list (wantsNot rfl rfl rfl rfl) rfl ?_
         refine T.pickF .list rfl (wants0 rfl) rfl rfl rfl rfl ?_
         refine T.move .list rfl (wants0 rfl) rfl rfl ?_
         refine T.leave .list (wantsNot rfl rfl rfl rfl) rfl ?_
         refine T.leave .list (wantsNot rfl rfl rfl rfl) rfl ?_
         refine T.leave .list (wantsNot rfl rfl rfl rfl) rfl ?_
         refine T.pickF .list rfl (wants0 rfl) rfl rfl rfl rfl ?_
         refine T.move .list rfl (wants0 rfl) rfl rfl ?_
         refine T.leave .list (wantsNot rfl rfl rfl rfl) rfl ?_
         refine T.leave .list (wantsNot rfl rfl rfl rfl) rfl ?_
         refine T.pickF .list rfl (wants0 rfl) rfl rfl rfl rfl ?_
         refine T.move .list rfl (wants0 rfl) rfl rfl ?_
         refine T.leave .list (wantsNot rfl rfl rfl rfl) rfl ?_
         refine T.leave .list (wantsNot rfl rfl rfl rfl) rfl ?_
         refine T.leave .list (wantsNot rfl rfl rfl rfl) rfl ?_
         refine T.pickF .list rfl (wants0 rfl) rfl rfl rfl rfl ?_
         refine T.assign .list rfl (wants0 rfl) rfl rfl ?_
         refine T.nil ?_
         refine T.then_normal ?_
         refine T.ret ?_
         obtain rfl := inv_some hk2
         refine T.pick [] 13 rfl rfl (Nat.le_add_left _ _) rfl ?_
         refine T.ret1 rfl rfl (fun w hS => ⟨(), rfl, hS⟩)
       ·replace hk2 := inv_negB hb10 hk2
        refine T.leave .list (wantsNot rfl rfl rfl hb10) rfl ?_
        refine T.leave .list (wantsNot rfl rfl rfl hb10) rfl ?_
        refine T.pickF .list rfl (wants0 rfl) rfl rfl hb10 rfl ?_
        refine T.move .list rfl (wants0 rfl) rfl rfl ?_
        refine T.leave .list (wantsNot rfl rfl rfl rfl) rfl ?_
        refine T.leave .list (wantsNot rfl rfl rfl rfl) rfl ?_
        refine T.pickF .list rfl (wants0 rfl) rfl rfl rfl rfl ?_
        refine T.move .list rfl (wants0 rfl) rfl rfl ?_
        refine T.leave .list (wantsNot rfl rfl rfl rfl) rfl ?_
        refine T.leave .list (wantsNot rfl rfl rfl rfl) rfl ?_
        refine T.pickF .list rfl (wants0 rfl) rfl rfl rfl rfl ?_
        refine T.move .list rfl (wants0 rfl) rfl rfl ?_
        refine T.leave .list (wantsNot rfl rfl rfl rfl) rfl ?_
        refine T.leave .list (wantsNot rfl rfl rfl rfl) rfl ?_
        refine T.pickF .list rfl (wants0 rfl) rfl rfl rfl rfl ?_
        refine T.move .list rfl (wants0 rfl) rfl rfl ?_
        refine T.leave .list (wantsNot rfl rfl rfl rfl) rfl ?_
        refine T.leave .list (wantsNot rfl rfl rfl rfl) rfl ?_
        refine T.pickF .list rfl (wants0 rfl) rfl rfl rfl rfl ?_
        refine T.move .list rfl (wants0 rfl) rfl rfl ?_
        refine T.leave .list (wantsNot rfl rfl rfl rfl) rfl ?_
        refine T.leave .list (wantsNot rfl rfl rfl rfl) rfl ?_
        refine T.leave .list (wantsNot rfl rfl rfl rfl) rfl ?_
        refine T.pickF .list rfl (wants0 rfl) rfl rfl rfl rfl ?_
        refine T.move .list rfl (wants0 rfl) rfl rfl ?_
        refine T.leave .list (wantsNot rfl rfl rfl rfl) rfl ?_
        refine T.leave .list (wantsNot rfl rfl rfl rfl) rfl ?_
        refine T.leave .list (wantsNot rfl rfl rfl rfl) rfl ?_
        refine T.pickF .list rfl (wants0 rfl) rfl rfl rfl rfl ?_
        refine T.move .list rfl (wants0 rfl) rfl rfl ?_
        refine T.leave .list (wantsNot rfl rfl rfl rfl) rfl ?_
        refine T.leave .list (wantsNot rfl rfl rfl rfl) rfl ?_
        refine T.pickF .list rfl (wants0 rfl) rfl rfl rfl rfl ?_
        refine T.move .list rfl (wants0 rfl) rfl rfl ?_
        refine T.leave .list (wantsNot rfl rfl rfl rfl) rfl ?_
        refine T.leave .list (wantsNot rfl rfl rfl rfl) rfl ?_
        refine T.leave .list (wantsNot rfl rfl rfl rfl) rfl ?_
        refine T.pickF .list rfl (wants0 rfl) rfl rfl rfl rfl ?_
        refine T.assign .list rfl (wants0 rfl) rfl rfl ?_
        refine T.nil ?_
        refine T.then_normal ?_
        refine T.ret ?_
        obtain rfl := inv_some hk2
        refine T.pick [] 13 rfl rfl (Nat.le_add_left _ _) rfl ?_
        refine T.ret1 rfl rfl (fun w hS => ⟨(), rfl, hS⟩)
      ·replace hk2 := inv_negB hb9 hk2
       refine T.leave .list (wantsNot rfl rfl rfl hb9) rfl ?_
       refine T.leave .list (wantsNot rfl rfl rfl hb9) rfl ?_
       refine T.pickF .list rfl (wants0 rfl) rfl rfl hb9 rfl ?_
       refine T.move .list rfl (wants0 rfl) rfl rfl ?_
       refine T.leave .list (wantsNot rfl rfl rfl rfl) rfl ?_
       refine T.leave .list (wantsNot rfl rfl rfl rfl) rfl ?_
       refine T.pickF .list rfl (wants0 rfl) rfl rfl rfl rfl ?_
       refine T.move .list rfl (wants0 rfl) rfl rfl ?_
       refine T.leave .list (wantsNot rfl rfl rfl rfl) rfl ?_
       refine T.leave .list (wantsNot rfl rfl rfl rfl) rfl ?_
       refine T.pickF .list rfl (wants0 rfl) rfl rfl rfl rfl ?_
       refine T.move .list rfl (wants0 rfl) rfl rfl ?_
       refine T.leave .list (wantsNot rfl rfl rfl rfl) rfl ?_
       refine T.leave .list (wantsNot rfl rfl rfl rfl) rfl ?_
       refine T.pickF .list rfl (wants0 rfl) rfl rfl rfl rfl ?_
       refine T.move .list rfl (wants0 rfl) rfl rfl ?_
       refine T.leave .list (wantsNot rfl rfl rfl rfl) rfl ?_
       refine T.leave .list (wantsNot rfl rfl rfl rfl) rfl ?_
       refine T.pickF .list rfl (wants0 rfl) rfl rfl rfl rfl ?_
       refine T.move .list rfl (wants0 rfl) rfl rfl ?_
       refine T.leave .list (wantsNot rfl rfl rfl rfl) rfl ?_
       refine T.leave .list (wantsNot rfl rfl rfl rfl) rfl ?_
       refine T.pickF .list rfl (wants0 rfl) rfl rfl rfl rfl ?_
       refine T.move .list rfl (wants0 rfl) rfl rfl ?_
       refine T.leave .list (wantsNot rfl rfl rfl rfl) rfl ?_
       refine T.leave .list (wantsNot rfl rfl rfl rfl) rfl ?_
       refine T.leave .list (wantsNot rfl rfl rfl rfl) rfl ?_
       refine T.pickF .list rfl (wants0 rfl) rfl rfl rfl rfl ?_
       refine T.move .list rfl (wants0 rfl) rfl rfl ?_
       refine T.leave .list (wantsNot rfl rfl rfl rfl) rfl ?_
       refine T.leave .list (wantsNot rfl rfl rfl rfl) rfl ?_
       refine T.leave .list (wantsNot rfl rfl rfl rfl) rfl ?_
       refine T.pickF .list rfl (wants0 rfl) rfl rfl rfl rfl ?_
       refine T.move .list rfl (wants0 rfl) rfl rfl ?_
       refine T.leave .list (wantsNot rfl rfl rfl rfl) rfl ?_
       refine T.leave .list (wantsNot rfl rfl rfl rfl) rfl ?_
       refine T.pickF .list rfl (wants0 rfl) rfl rfl rfl rfl ?_
       refine T.move .list rfl (wants0 rfl) rfl rfl ?_
       refine T.leave .list (wantsNot rfl rfl rfl rfl) rfl ?_
       refine T.leave .list (wantsNot rfl rfl rfl rfl) rfl ?_
       refine T.leave .list (wantsNot rfl rfl rfl rfl) rfl ?_
       refine T.pickF .list rfl (wants0 rfl) rfl rfl rfl rfl ?_
       refine T.assign .list rfl (wants0 rfl) rfl rfl ?_
       refine T.nil ?_
       refine T.then_normal ?_
       refine T.ret ?_
       obtain rfl := inv_some hk2
       refine T.pick [] 13 rfl rfl (Nat.le_add_left _ _) rfl ?_
       refine T.ret1 rfl rfl (fun w hS => ⟨(), rfl, hS⟩)
   ·refine T.region ?_
    refine T.move .list rfl (wants0 rfl) rfl rfl ?_
    refine T.bin .list rfl (wants0 rfl) rfl rfl rfl rfl ?_
    refine T.move .list rfl (wants0 rfl) rfl rfl ?_
    refine T.bool (b := (decide (r2p1 = 0))) (fun hb18 => ?_) (fun hb18 => ?_)
    ·replace hr := inv_posB hb18 hr
     refine T.move .list rfl (wants1 rfl rfl rfl (not_t hb18)) rfl rfl ?_
     refine T.ptrEq (pt := 45) .list rfl (wants1 rfl rfl rfl (not_t hb18)) rfl rfl rfl (by kernel_rfl) (.inr rfl) rfl ?_
     refine T.pickF .list rfl (wants0 rfl) rfl rfl (not_t hb18) rfl ?_
     refine T.nil ?_
     refine T.then_normal ?_
     exact T.le (EnvLe.cons rfl (EnvLe.cons rfl (EnvLe.cons rfl EnvLe.nil))) (T.pick [0, 1, 2, 3, 4, 5] 6 rfl rfl (Nat.le_add_left _ _) rfl (J2 false () hr))
    ·replace hr := inv_negB hb18 hr
     refine T.leave .list (wantsNot rfl rfl rfl (not_f hb18)) rfl ?_
     refine T.leave .list (wantsNot rfl rfl rfl (not_f hb18)) rfl ?_
     refine T.pickT .list rfl (wants0 rfl) rfl rfl (not_f hb18) rfl ?_
     refine T.nil ?_
     refine T.then_normal ?_
     exact T.le (EnvLe.cons rfl (EnvLe.cons rfl (EnvLe.cons rfl EnvLe.nil))) (T.pick [0, 1, 2, 3, 4, 5] 6 rfl rfl (Nat.le_add_left _ _) rfl (J2 true () hr))
end Go.Proofs.Ytccifnjlfhdpiaa
