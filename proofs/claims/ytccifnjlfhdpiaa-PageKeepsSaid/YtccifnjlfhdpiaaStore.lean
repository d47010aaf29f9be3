/- Store: what the functions compute, and that the program computes it; printed by a program of ours. -/
import Derived.Test.YtccifnjlfhdpiaaPage
import Derived.Test.YtccifnjlfhdpiaaSettle
set_option linter.unusedVariables false
set_option linter.unusedSimpArgs false
namespace Go.Proofs.Ytccifnjlfhdpiaa
open Go.RowKit
noncomputable def page_Open.k2 (r4 : Int) (r3 : Int) (s1 : Int × Int × Int) (s2 : Bool) : Option ((Option ((Int × Int × Int × Int) × (List (Int × Int)))) × Int) :=
  (if s2 = true then some (none, 22) else some ((some ((IntKind.i64.wrap (r4 - 2), r3, s1.1, s1.2.1), ([] : List (Int × Int)))), 0))
noncomputable def page_Open.k1 (r4 : Int) (r3 : Int) (s1 : Int × Int × Int) : Option ((Option ((Int × Int × Int × Int) × (List (Int × Int)))) × Int) :=
  (if ((decide (s1.2.2 < 0))) = true then page_Open.k2 r4 r3 s1 true else (if ((decide (s1.1 = 0))) = true then page_Open.k2 r4 r3 s1 false else page_Open.k2 r4 r3 s1 (!(decide (((IntKind.i64.wrap (Int.tmod s1.1 2))) = s1.2.2)))))
noncomputable def page_Open.k3 (r7 : (Int × Int) × Bool) (s3 : Int × Int × Int × Int) (s4 : Bool) : Option ((Int × Int × Int × Int) ⊕ (((Option ((Int × Int × Int × Int) × (List (Int × Int)))) × Int) ⊕ (Int × Int × Int))) :=
  (if s4 = true then some (.inl (r7.1.1, r7.1.2, s3.2.2.2, IntKind.i64.wrap (s3.2.2.2 + 1))) else some (.inl (s3.1, s3.2.1, s3.2.2.1, IntKind.i64.wrap (s3.2.2.2 + 1))))
noncomputable def page_Open.st1 (o0 : Int × Bool × Int × Int × Int × Int × Int) (q0b : List (Int × (List UInt8))) (q0c : List (Int × List UInt8)) (s3 : Int × Int × Int × Int) : Option ((Int × Int × Int × Int) ⊕ (((Option ((Int × Int × Int × Int) × (List (Int × Int)))) × Int) ⊕ (Int × Int × Int))) :=
  (if ((decide (s3.2.2.2 < 2))) = true then (disk_Disk_Read.impl ((o0.1, o0.2.1, o0.2.2.1, o0.2.2.2.1, o0.2.2.2.2.1, o0.2.2.2.2.2.1, o0.2.2.2.2.2.2)) q0b q0c s3.2.2.2).bind fun r5 => (if ((!(decide (r5.2 = 0)))) = true then some (.inr (.inl (none, r5.2))) else (disk_Disk_Blocks.impl ((o0.1, o0.2.1, o0.2.2.1, o0.2.2.2.1, o0.2.2.2.2.1, o0.2.2.2.2.2.1, o0.2.2.2.2.2.2)) q0b q0c).bind fun r6 => (page_readHead.impl r5.1 r6).bind fun r7 => (if r7.2 = true then (if ((decide (s3.2.2.1 < 0))) = true then page_Open.k3 r7 s3 true else page_Open.k3 r7 s3 (decide (s3.1 < r7.1.1))) else page_Open.k3 r7 s3 false)) else some (.inr (.inr (s3.1, s3.2.1, s3.2.2.1))))
noncomputable def page_Open.impl (o0 : Int × Bool × Int × Int × Int × Int × Int) (q0b : List (Int × (List UInt8))) (q0c : List (Int × List UInt8)) : Option ((Option ((Int × Int × Int × Int) × (List (Int × Int)))) × Int) :=
  (disk_Disk_Blocks.impl ((o0.1, o0.2.1, o0.2.2.1, o0.2.2.2.1, o0.2.2.2.2.1, o0.2.2.2.2.2.1, o0.2.2.2.2.2.2)) q0b q0c).bind fun r1 => (if ((decide (r1 ≤ 2))) = true then some (none, 1) else (disk_Disk_Down.impl ((o0.1, o0.2.1, o0.2.2.1, o0.2.2.2.1, o0.2.2.2.2.1, o0.2.2.2.2.2.1, o0.2.2.2.2.2.2)) q0b q0c).bind fun r2 => (if r2 = true then some (none, 20) else (disk_Disk_Life.impl ((o0.1, o0.2.1, o0.2.2.1, o0.2.2.2.1, o0.2.2.2.2.1, o0.2.2.2.2.2.1, o0.2.2.2.2.2.2)) q0b q0c).bind fun r3 => (disk_Disk_Blocks.impl ((o0.1, o0.2.1, o0.2.2.1, o0.2.2.2.1, o0.2.2.2.2.1, o0.2.2.2.2.2.1, o0.2.2.2.2.2.2)) q0b q0c).bind fun r4 => (loop (page_Open.st1 o0 q0b q0c) (0, 0, -1, 0)).bind (fun e1 => match e1 with | .inl v => some v | .inr v => page_Open.k1 r4 r3 v)))
set_option maxRecDepth 100000 in
set_option maxHeartbeats 4000000 in
theorem page_Open.c {B : World} {hs : List MP} {w : World} {p0 : Nat} {o0 : Int × Bool × Int × Int × Int × Int × Int} {m0b : Nat} {q0b : List (Int × (List UInt8))} {c0c : Nat} {A0c : Option Addr} {d0c : Ads} {q0c : List (Int × List UInt8)} (hS : St B (Cl p0 68 [.int .i64 o0.1, .map (some m0b), .slice A0c q0c.length c0c, .bool o0.2.1, .int .i64 o0.2.2.1, .int .i64 o0.2.2.2.1, .int .u64 o0.2.2.2.2.1, .int .i64 o0.2.2.2.2.2.1, .int .i64 o0.2.2.2.2.2.2] :: Mp (Elt.slice E8) m0b q0b :: Hb 82 A0c c0c d0c q0c :: Bb 5 d0c q0c :: hs) w) {r : (Option ((Int × Int × Int × Int) × (List (Int × Int)))) × Int} (hr : page_Open.impl o0 q0b q0c = some r) :
    Calls Try.prog 8 #[.pointer (some ⟨p0, 0, none⟩)] w fun e w' => ∃ x : (Nat) × (Nat), e = .returned (.tuple #[optp r.1 x.1, .int .i64 r.2]) ∧ St B (Cl p0 68 [.int .i64 o0.1, .map (some m0b), .slice A0c q0c.length c0c, .bool o0.2.1, .int .i64 o0.2.2.1, .int .i64 o0.2.2.2.1, .int .u64 o0.2.2.2.2.1, .int .i64 o0.2.2.2.2.2.1, .int .i64 o0.2.2.2.2.2.2] :: Mp (Elt.slice E8) m0b q0b :: Hb 82 A0c c0c d0c q0c :: Bb 5 d0c q0c :: ((optc r.1 (fun v => [Cl x.1 45 [.int .i64 v.1.1, .map (some x.2), .pointer (some ⟨p0, 0, none⟩), .int .i64 v.1.2.1, .int .u64 v.1.2.2.1, .int .i64 v.1.2.2.2], Mp E64 x.2 v.2])) ++ hs)) w' := by
 unfold page_Open.impl at hr
 refine calls_T Try.func8 rfl rfl rfl hS ?_
 refine T.seq ?_
 refine T.region ?_
 refine T.assign .list rfl (wants0 rfl) rfl rfl ?_
 refine T.assign .list rfl (wants0 rfl) rfl rfl ?_
 refine T.nil ?_
 refine T.then_normal ?_
 refine T.seq ?_
 refine T.block ?_
 refine T.seq ?_
 refine T.region ?_
 refine T.move .list rfl (wants0 rfl) rfl rfl ?_
 refine T.ptrEq (pt := 68) .list rfl (wants0 rfl) rfl rfl rfl (by kernel_rfl) (.inr rfl) rfl ?_
 refine T.move .list rfl (wants0 rfl) rfl rfl ?_
 refine T.move .list rfl (wants1 rfl rfl rfl rfl) rfl rfl ?_
 refine T.pick [0, 1, 2, 3] 4 rfl rfl (Nat.le_add_left _ _) (hs' := Cl p0 68 [.int .i64 o0.1, .map (some m0b), .slice A0c q0c.length c0c, .bool o0.2.1, .int .i64 o0.2.2.1, .int .i64 o0.2.2.2.1, .int .u64 o0.2.2.2.2.1, .int .i64 o0.2.2.2.2.2.1, .int .i64 o0.2.2.2.2.2.2] :: Mp (Elt.slice E8) m0b q0b :: Hb 82 A0c c0c d0c q0c :: Bb 5 d0c q0c :: hs) rfl ?_
 obtain ⟨r1, hg1, hr⟩ := inv_bind hr
 refine T.call .list (wants1 rfl rfl rfl rfl) rfl (run_callF (vs := [_]) rfl Try.func24 rfl (by decide) rfl) (fun w hS => disk_Disk_Blocks.c hS (o0 := (o0.1, o0.2.1, o0.2.2.1, o0.2.2.2.1, o0.2.2.2.2.1, o0.2.2.2.2.2.1, o0.2.2.2.2.2.2)) (q0b := q0b) (q0c := q0c)  hg1) (fun x1 => ?_)
 refine T.bin .list rfl (wants1 rfl rfl rfl rfl) rfl rfl rfl rfl ?_
 refine T.pickF .list rfl (wants0 rfl) rfl rfl rfl rfl ?_
 refine T.assign .list rfl (wants0 rfl) rfl rfl ?_
 refine T.nil ?_
 refine T.then_normal ?_
 refine T.cond rfl (fun hb1 => ?_) (fun hb1 => ?_)
 ·replace hr := inv_posB hb1 hr
  refine T.seq ?_
  refine T.region ?_
  refine T.assign .list rfl (wants0 rfl) rfl rfl ?_
  refine T.assign .list rfl (wants0 rfl) rfl rfl ?_
  refine T.nil ?_
  refine T.then_normal ?_
  refine T.ret ?_
  refine T.in_ret ?_
  refine T.then_ret ?_
  obtain rfl := inv_some hr
  refine T.pick [0, 1, 2, 3] 4 rfl rfl (Nat.le_add_left _ _) rfl ?_
  refine T.ret2 rfl rfl rfl (fun w hS => ⟨(0, 0), rfl, hS⟩)
 ·replace hr := inv_negB hb1 hr
  refine T.seq ?_
  refine T.region ?_
  refine T.move .list rfl (wants0 rfl) rfl rfl ?_
  refine T.pick [0, 1, 2, 3] 4 rfl rfl (Nat.le_add_left _ _) (hs' := Cl p0 68 [.int .i64 o0.1, .map (some m0b), .slice A0c q0c.length c0c, .bool o0.2.1, .int .i64 o0.2.2.1, .int .i64 o0.2.2.2.1, .int .u64 o0.2.2.2.2.1, .int .i64 o0.2.2.2.2.2.1, .int .i64 o0.2.2.2.2.2.2] :: Mp (Elt.slice E8) m0b q0b :: Hb 82 A0c c0c d0c q0c :: Bb 5 d0c q0c :: hs) rfl ?_
  obtain ⟨r2, hg2, hr⟩ := inv_bind hr
  refine T.call .list (wants0 rfl) rfl (run_callF (vs := [_]) rfl Try.func23 rfl (by decide) rfl) (fun w hS => disk_Disk_Down.c hS (o0 := (o0.1, o0.2.1, o0.2.2.1, o0.2.2.2.1, o0.2.2.2.2.1, o0.2.2.2.2.2.1, o0.2.2.2.2.2.2)) (q0b := q0b) (q0c := q0c)  hg2) (fun x2 => ?_)
  refine T.assign .list rfl (wants0 rfl) rfl rfl ?_
  refine T.nil ?_
  refine T.then_normal ?_
  refine T.cond rfl (fun hb2 => ?_) (fun hb2 => ?_)
  ·replace hr := inv_posB hb2 hr
   refine T.seq ?_
   refine T.region ?_
   refine T.assign .list rfl (wants0 rfl) rfl rfl ?_
   refine T.assign .list rfl (wants0 rfl) rfl rfl ?_
   refine T.nil ?_
   refine T.then_normal ?_
   refine T.ret ?_
   refine T.in_ret ?_
   refine T.then_ret ?_
   obtain rfl := inv_some hr
   refine T.pick [0, 1, 2, 3] 4 rfl rfl (Nat.le_add_left _ _) rfl ?_
   refine T.ret2 rfl rfl rfl (fun w hS => ⟨(0, 0), rfl, hS⟩)
  ·replace hr := inv_negB hb2 hr
   refine T.skip ?_
   refine T.in_normal ?_
   refine T.then_normal ?_
   refine T.seq ?_
   refine T.region ?_
   refine T.move .list rfl (wants0 rfl) rfl rfl ?_
   refine T.move .list rfl (wants0 rfl) rfl rfl ?_
   refine T.pick [0, 1, 2, 3] 4 rfl rfl (Nat.le_add_left _ _) (hs' := Cl p0 68 [.int .i64 o0.1, .map (some m0b), .slice A0c q0c.length c0c, .bool o0.2.1, .int .i64 o0.2.2.1, .int .i64 o0.2.2.2.1, .int .u64 o0.2.2.2.2.1, .int .i64 o0.2.2.2.2.2.1, .int .i64 o0.2.2.2.2.2.2] :: Mp (Elt.slice E8) m0b q0b :: Hb 82 A0c c0c d0c q0c :: Bb 5 d0c q0c :: hs) rfl ?_
   obtain ⟨r3, hg3, hr⟩ := inv_bind hr
   refine T.call .list (wants0 rfl) rfl (run_callF (vs := [_]) rfl Try.func25 rfl (by decide) rfl) (fun w hS => disk_Disk_Life.c hS (o0 := (o0.1, o0.2.1, o0.2.2.1, o0.2.2.2.1, o0.2.2.2.2.1, o0.2.2.2.2.2.1, o0.2.2.2.2.2.2)) (q0b := q0b) (q0c := q0c)  hg3) (fun x3 => ?_)
   refine T.move .list rfl (wants0 rfl) rfl rfl ?_
   refine T.pick [0, 1, 2, 3] 4 rfl rfl (Nat.le_add_left _ _) (hs' := Cl p0 68 [.int .i64 o0.1, .map (some m0b), .slice A0c q0c.length c0c, .bool o0.2.1, .int .i64 o0.2.2.1, .int .i64 o0.2.2.2.1, .int .u64 o0.2.2.2.2.1, .int .i64 o0.2.2.2.2.2.1, .int .i64 o0.2.2.2.2.2.2] :: Mp (Elt.slice E8) m0b q0b :: Hb 82 A0c c0c d0c q0c :: Bb 5 d0c q0c :: hs) rfl ?_
   obtain ⟨r4, hg4, hr⟩ := inv_bind hr
   refine T.call .list (wants0 rfl) rfl (run_callF (vs := [_]) rfl Try.func24 rfl (by decide) rfl) (fun w hS => disk_Disk_Blocks.c hS (o0 := (o0.1, o0.2.1, o0.2.2.1, o0.2.2.2.1, o0.2.2.2.2.1, o0.2.2.2.2.2.1, o0.2.2.2.2.2.2)) (q0b := q0b) (q0c := q0c)  hg4) (fun x4 => ?_)
   refine T.bin .list rfl (wants0 rfl) rfl rfl rfl rfl ?_
   refine T.makeMap E64 .list rfl (wants0 rfl) rfl (fun b1 => ?_)
   refine T.build .list (vals := [(0, .int .i64 (IntKind.i64.wrap (r4 - 2))), (1, .map (some b1))]) (cells := #[.int .i64 (IntKind.i64.wrap (r4 - 2)), .map (some b1)]) rfl (wants0 rfl) rfl rfl (run_buildStruct (sizes := [1, 1]) (by kernel_rfl) (by kernel_rfl)) ?_
   refine T.build .list (vals := [(1, .pointer (some ⟨p0, 0, none⟩)), (2, .int .i64 r3), (0, .agg #[.int .i64 (IntKind.i64.wrap (r4 - 2)), .map (some b1)])]) (cells := #[.int .i64 (IntKind.i64.wrap (r4 - 2)), .map (some b1), .pointer (some ⟨p0, 0, none⟩), .int .i64 r3, .int .u64 0, .int .i64 0]) rfl (wants0 rfl) rfl rfl (run_buildStruct (sizes := [2, 1, 1, 2]) (by kernel_rfl) (by kernel_rfl)) ?_
   refine T.boxS .list rfl (wants0 rfl) rfl rfl (cs := [.int .i64 (IntKind.i64.wrap (r4 - 2)), .map (some b1), .pointer (some ⟨p0, 0, none⟩), .int .i64 r3, .int .u64 0, .int .i64 0]) rfl (fun b2 => ?_)
   refine T.assign .list rfl (wants0 rfl) rfl rfl ?_
   refine T.nil ?_
   refine T.then_normal ?_
   refine T.seq ?_
   refine T.region ?_
   refine T.assign .list rfl (wants0 rfl) rfl rfl ?_
   refine T.nil ?_
   refine T.then_normal ?_
   refine T.seqJ (fun (s1 : Int × Int × Int) (x5 : Unit) => [(4, .pointer (some ⟨b2, 0, none⟩)), (5, .int .i64 s1.2.2)]) (fun s1 x5 => Cl b2 45 [.int .i64 (IntKind.i64.wrap (r4 - 2)), .map (some b1), .pointer (some ⟨p0, 0, none⟩), .int .i64 r3, .int .u64 s1.1, .int .i64 s1.2.1] :: Mp E64 b1 (([] : List (Int × Int))) :: Cl p0 68 [.int .i64 o0.1, .map (some m0b), .slice A0c q0c.length c0c, .bool o0.2.1, .int .i64 o0.2.2.1, .int .i64 o0.2.2.2.1, .int .u64 o0.2.2.2.2.1, .int .i64 o0.2.2.2.2.2.1, .int .i64 o0.2.2.2.2.2.2] :: Mp (Elt.slice E8) m0b q0b :: Hb 82 A0c c0c d0c q0c :: Bb 5 d0c q0c :: hs) (fun s1 => page_Open.k1 r4 r3 s1 = some r) (fun s1 x5 hk1 => ?_) (fun J1 => ?_)
   ·unfold page_Open.k1 at hk1
    refine T.seq ?_
    refine T.seqJ (fun (s2 : Bool) (x6 : Unit) => [(4, .pointer (some ⟨b2, 0, none⟩)), (92, .bool s2)]) (fun s2 x6 => Cl b2 45 [.int .i64 (IntKind.i64.wrap (r4 - 2)), .map (some b1), .pointer (some ⟨p0, 0, none⟩), .int .i64 r3, .int .u64 s1.1, .int .i64 s1.2.1] :: Mp E64 b1 (([] : List (Int × Int))) :: Cl p0 68 [.int .i64 o0.1, .map (some m0b), .slice A0c q0c.length c0c, .bool o0.2.1, .int .i64 o0.2.2.1, .int .i64 o0.2.2.2.1, .int .u64 o0.2.2.2.2.1, .int .i64 o0.2.2.2.2.2.1, .int .i64 o0.2.2.2.2.2.2] :: Mp (Elt.slice E8) m0b q0b :: Hb 82 A0c c0c d0c q0c :: Bb 5 d0c q0c :: hs) (fun s2 => page_Open.k2 r4 r3 s1 s2 = some r) (fun s2 x6 hk2 => ?_) (fun J2 => ?_)
    ·unfold page_Open.k2 at hk2
     refine T.cond rfl (fun hb3 => ?_) (fun hb3 => ?_)
     ·replace hk2 := inv_posB hb3 hk2
      refine T.seq ?_
      refine T.region ?_
      refine T.assign .list rfl (wants0 rfl) rfl rfl ?_
      refine T.assign .list rfl (wants0 rfl) rfl rfl ?_
      refine T.nil ?_
      refine T.then_normal ?_
      refine T.ret ?_
      refine T.then_ret ?_
      obtain rfl := inv_some hk2
      refine T.pick [2, 3, 4, 5] 6 rfl rfl (Nat.le_add_left _ _) rfl ?_
      refine T.ret2 rfl rfl rfl (fun w hS => ⟨(0, 0), rfl, hS⟩)
     ·replace hk2 := inv_negB hb3 hk2
      refine T.skip ?_
      refine T.then_normal ?_
      refine T.seq ?_
      refine T.region ?_
      refine T.move .list rfl (wants0 rfl) rfl rfl ?_
      refine T.assign .list rfl (wants0 rfl) rfl rfl ?_
      refine T.assign .list rfl (wants0 rfl) rfl rfl ?_
      refine T.nil ?_
      refine T.then_normal ?_
      refine T.ret ?_
      obtain rfl := inv_some hk2
      refine T.pick [2, 3, 4, 5, 0, 1] 6 rfl rfl (Nat.le_add_left _ _) rfl ?_
      refine T.ret2 rfl rfl rfl (fun w hS => ⟨(b2, b1), rfl, hS⟩)
    ·refine T.region ?_
     refine T.move .list rfl (wants0 rfl) rfl rfl ?_
     refine T.bin .list rfl (wants0 rfl) rfl rfl rfl rfl ?_
     refine T.move .list rfl (wants0 rfl) rfl rfl ?_
     refine T.bool (b := (decide (s1.2.2 < 0))) (fun hb4 => ?_) (fun hb4 => ?_)
     ·replace hk1 := inv_posB hb4 hk1
      refine T.leave .list (wantsNot rfl rfl rfl hb4) rfl ?_
      refine T.leave .list (wantsNot rfl rfl rfl hb4) rfl ?_
      refine T.leave .list (wantsNot rfl rfl rfl hb4) rfl ?_
      refine T.leave .list (wantsNot rfl rfl rfl hb4) rfl ?_
      refine T.leave .list (wantsNot rfl rfl rfl hb4) rfl ?_
      refine T.leave .list (wantsNot rfl rfl rfl hb4) rfl ?_
      refine T.leave .list (wantsNot rfl rfl rfl hb4) rfl ?_
      refine T.leave .list (wantsUndef rfl rfl rfl) rfl ?_
      refine T.leave .list (wantsUndef rfl rfl rfl) rfl ?_
      refine T.leave .list (wantsUndef rfl rfl rfl) rfl ?_
      refine T.leave .list (wantsUndef rfl rfl rfl) rfl ?_
      refine T.leave .list (wantsUndef rfl rfl rfl) rfl ?_
      refine T.leave .list (wantsUndef rfl rfl rfl) rfl ?_
      refine T.leave .list (wantsUndef rfl rfl rfl) rfl ?_
      refine T.leave .list (wantsUndef rfl rfl rfl) rfl ?_
      refine T.leave .list (wantsUndef rfl rfl rfl) rfl ?_
      refine T.leave .list (wantsNot rfl rfl rfl hb4) rfl ?_
      refine T.pickT .list rfl (wants0 rfl) rfl rfl hb4 rfl ?_
      refine T.nil ?_
      refine T.then_normal ?_
      exact T.le (EnvLe.cons rfl (EnvLe.cons rfl EnvLe.nil)) (T.pick [0, 1, 2, 3, 4, 5] 6 rfl rfl (Nat.le_add_left _ _) rfl (J2 true () hk1))
     ·replace hk1 := inv_negB hb4 hk1
      refine T.move .list rfl (wants1 rfl rfl rfl hb4) rfl rfl ?_
      refine T.nilCheck .list rfl (wants1 rfl rfl rfl hb4) rfl rfl ?_
      refine T.field .list rfl (wants1 rfl rfl rfl hb4) rfl rfl ?_
      refine T.field .list rfl (wants1 rfl rfl rfl hb4) rfl rfl ?_
      refine T.load .list 0 rfl rfl (wants1 rfl rfl rfl hb4) rfl rfl rfl ?_
      refine T.bin .list rfl (wants1 rfl rfl rfl hb4) rfl rfl rfl rfl ?_
      refine T.move .list rfl (wants1 rfl rfl rfl hb4) rfl rfl ?_
      refine T.bool (b := (decide (s1.1 = 0))) (fun hb5 => ?_) (fun hb5 => ?_)
      ·replace hk1 := inv_posB hb5 hk1
       refine T.leave .list (wantsNot rfl rfl rfl (not_t hb5)) rfl ?_
       refine T.leave .list (wantsNot rfl rfl rfl (not_t hb5)) rfl ?_
       refine T.leave .list (wantsNot rfl rfl rfl (not_t hb5)) rfl ?_
       refine T.leave .list (wantsNot rfl rfl rfl (not_t hb5)) rfl ?_
       refine T.leave .list (wantsNot rfl rfl rfl (not_t hb5)) rfl ?_
       refine T.leave .list (wantsNot rfl rfl rfl (not_t hb5)) rfl ?_
       refine T.leave .list (wantsNot rfl rfl rfl (not_t hb5)) rfl ?_
       refine T.leave .list (wantsNot rfl rfl rfl (not_t hb5)) rfl ?_
       refine T.leave .list (wantsNot rfl rfl rfl (not_t hb5)) rfl ?_
       refine T.pickF .list rfl (wants1 rfl rfl rfl hb4) rfl rfl (not_t hb5) rfl ?_
       refine T.pickF .list rfl (wants0 rfl) rfl rfl hb4 rfl ?_
       refine T.nil ?_
       refine T.then_normal ?_
       exact T.le (EnvLe.cons rfl (EnvLe.cons rfl EnvLe.nil)) (T.pick [0, 1, 2, 3, 4, 5] 6 rfl rfl (Nat.le_add_left _ _) rfl (J2 false () hk1))
      ·replace hk1 := inv_negB hb5 hk1
       refine T.move .list rfl (wants1 rfl rfl rfl (not_f hb5)) rfl rfl ?_
       refine T.nilCheck .list rfl (wants1 rfl rfl rfl (not_f hb5)) rfl rfl ?_
       refine T.field .list rfl (wants1 rfl rfl rfl (not_f hb5)) rfl rfl ?_
       refine T.field .list rfl (wants1 rfl rfl rfl (not_f hb5)) rfl rfl ?_
       refine T.load .list 0 rfl rfl (wants1 rfl rfl rfl (not_f hb5)) rfl rfl rfl ?_
       refine T.rem .list rfl (wants1 rfl rfl rfl (not_f hb5)) rfl rfl rfl (by decide) ?_
       refine T.conv .list rfl (wants1 rfl rfl rfl (not_f hb5)) rfl rfl rfl ?_
       refine T.move .list rfl (wants1 rfl rfl rfl (not_f hb5)) rfl rfl ?_
       refine T.bin .list rfl (wants1 rfl rfl rfl (not_f hb5)) rfl rfl rfl rfl ?_
       refine T.pickT .list rfl (wants1 rfl rfl rfl hb4) rfl rfl (not_f hb5) rfl ?_
       refine T.pickF .list rfl (wants0 rfl) rfl rfl hb4 rfl ?_
       refine T.nil ?_
       refine T.then_normal ?_
       exact T.le (EnvLe.cons rfl (EnvLe.cons rfl EnvLe.nil)) (T.pick [0, 1, 2, 3, 4, 5] 6 rfl rfl (Nat.le_add_left _ _) rfl (J2 (!(decide (((IntKind.i64.wrap (Int.tmod s1.1 2))) = s1.2.2))) () hk1))
   ·refine T.seq ?_
    refine T.region ?_
    refine T.move .list rfl (wants0 rfl) rfl rfl ?_
    refine T.nil ?_
    refine T.then_normal ?_
    refine T.block ?_
    obtain ⟨e1, hl1, hr⟩ := inv_bind hr
    refine T.le (EnvLe.cons rfl (EnvLe.cons rfl (EnvLe.cons rfl (EnvLe.cons rfl EnvLe.nil)))) (T.pick [2, 3, 4, 5, 0, 1] 6 rfl rfl (Nat.le_add_left _ _) rfl (T.loop (s0 := (0, 0, -1, 0)) (env := fun s3 x7 => [(0, .pointer (some ⟨p0, 0, none⟩)), (4, .pointer (some ⟨b2, 0, none⟩)), (5, .int .i64 s3.2.2.1), (32, .int .i64 s3.2.2.2)]) (hs := fun (s3 : Int × Int × Int × Int) (x7 : Unit) => Cl p0 68 [.int .i64 o0.1, .map (some m0b), .slice A0c q0c.length c0c, .bool o0.2.1, .int .i64 o0.2.2.1, .int .i64 o0.2.2.2.1, .int .u64 o0.2.2.2.2.1, .int .i64 o0.2.2.2.2.2.1, .int .i64 o0.2.2.2.2.2.2] :: Mp (Elt.slice E8) m0b q0b :: Hb 82 A0c c0c d0c q0c :: Bb 5 d0c q0c :: Cl b2 45 [.int .i64 (IntKind.i64.wrap (r4 - 2)), .map (some b1), .pointer (some ⟨p0, 0, none⟩), .int .i64 r3, .int .u64 s3.1, .int .i64 s3.2.1] :: Mp E64 b1 (([] : List (Int × Int))) :: hs) hl1 () (fun K1 s3 x7 o1 he1 hm1 hx1 => ?_)))
    unfold page_Open.st1 at he1
    refine T.seq ?_
    refine T.region ?_
    refine T.bin .list rfl (wants0 rfl) rfl rfl rfl rfl ?_
    refine T.nil ?_
    refine T.then_normal ?_
    refine T.seq ?_
    refine T.cond rfl (fun hb6 => ?_) (fun hb6 => ?_)
    ·replace he1 := inv_posB hb6 he1
     refine T.skip ?_
     refine T.then_normal ?_
     refine T.seq ?_
     refine T.block ?_
     refine T.seq ?_
     refine T.region ?_
     refine T.move .list rfl (wants0 rfl) rfl rfl ?_
     refine T.assign .list rfl (wants0 rfl) rfl rfl ?_
     refine T.nil ?_
     refine T.then_normal ?_
     refine T.seq ?_
     refine T.region ?_
     refine T.move .list rfl (wants0 rfl) rfl rfl ?_
     refine T.move .list rfl (wants0 rfl) rfl rfl ?_
     refine T.pick [0, 1, 2, 3, 4, 5] 6 rfl rfl (Nat.le_add_left _ _) (hs' := Cl p0 68 [.int .i64 o0.1, .map (some m0b), .slice A0c q0c.length c0c, .bool o0.2.1, .int .i64 o0.2.2.1, .int .i64 o0.2.2.2.1, .int .u64 o0.2.2.2.2.1, .int .i64 o0.2.2.2.2.2.1, .int .i64 o0.2.2.2.2.2.2] :: Mp (Elt.slice E8) m0b q0b :: Hb 82 A0c c0c d0c q0c :: Bb 5 d0c q0c :: Cl b2 45 [.int .i64 (IntKind.i64.wrap (r4 - 2)), .map (some b1), .pointer (some ⟨p0, 0, none⟩), .int .i64 r3, .int .u64 s3.1, .int .i64 s3.2.1] :: Mp E64 b1 (([] : List (Int × Int))) :: hs) rfl ?_
     obtain ⟨r5, hg5, he1⟩ := inv_bind he1
     refine T.call .list (wants0 rfl) rfl (run_callF (vs := [_, _]) rfl Try.func26 rfl (by decide) rfl) (fun w hS => disk_Disk_Read.c hS (o0 := (o0.1, o0.2.1, o0.2.2.1, o0.2.2.2.1, o0.2.2.2.2.1, o0.2.2.2.2.2.1, o0.2.2.2.2.2.2)) (q0b := q0b) (q0c := q0c)  hg5) (fun x8 => ?_)
     refine T.move .list rfl (wants0 rfl) rfl rfl ?_
     refine T.extract .list rfl (wants0 rfl) rfl rfl rfl ?_
     refine T.extract .list rfl (wants0 rfl) rfl rfl rfl ?_
     refine T.assign .list rfl (wants0 rfl) rfl rfl ?_
     refine T.assign .list rfl (wants0 rfl) rfl rfl ?_
     refine T.nil ?_
     refine T.then_normal ?_
     refine T.seq ?_
     refine T.seq ?_
     refine T.region ?_
     refine T.move .list rfl (wants0 rfl) rfl rfl ?_
     refine T.bin .list rfl (wants0 rfl) rfl rfl rfl rfl ?_
     refine T.nil ?_
     refine T.then_normal ?_
     refine T.cond rfl (fun hb7 => ?_) (fun hb7 => ?_)
     ·replace he1 := inv_posB hb7 he1
      refine T.seq ?_
      refine T.region ?_
      refine T.move .list rfl (wants0 rfl) rfl rfl ?_
      refine T.assign .list rfl (wants0 rfl) rfl rfl ?_
      refine T.assign .list rfl (wants0 rfl) rfl rfl ?_
      refine T.nil ?_
      refine T.then_normal ?_
      refine T.ret ?_
      refine T.then_ret ?_
      refine T.in_ret ?_
      refine T.then_ret ?_
      refine T.then_ret ?_
      obtain rfl := inv_some he1
      obtain rfl := hx1 _ rfl
      refine T.in_ret ?_
      refine T.then_ret ?_
      obtain rfl := inv_some hr
      refine T.pick [1, 2, 3, 4] 7 rfl rfl (Nat.le_add_left _ _) rfl ?_
      refine T.ret2 rfl rfl rfl (fun w hS => ⟨(0, 0), rfl, hS⟩)
     ·replace he1 := inv_negB hb7 he1
      refine T.skip ?_
      refine T.then_normal ?_
      refine T.seq ?_
      refine T.region ?_
      refine T.move .list rfl (wants0 rfl) rfl rfl ?_
      refine T.move .list rfl (wants0 rfl) rfl rfl ?_
      refine T.pick [1, 2, 3, 4, 0, 5, 6] 7 rfl rfl (Nat.le_add_left _ _) (hs' := Cl p0 68 [.int .i64 o0.1, .map (some m0b), .slice A0c q0c.length c0c, .bool o0.2.1, .int .i64 o0.2.2.1, .int .i64 o0.2.2.2.1, .int .u64 o0.2.2.2.2.1, .int .i64 o0.2.2.2.2.2.1, .int .i64 o0.2.2.2.2.2.2] :: Mp (Elt.slice E8) m0b q0b :: Hb 82 A0c c0c d0c q0c :: Bb 5 d0c q0c :: Bf E8 5 x8.1 x8.2 r5.1 :: Cl b2 45 [.int .i64 (IntKind.i64.wrap (r4 - 2)), .map (some b1), .pointer (some ⟨p0, 0, none⟩), .int .i64 r3, .int .u64 s3.1, .int .i64 s3.2.1] :: Mp E64 b1 (([] : List (Int × Int))) :: hs) rfl ?_
      obtain ⟨r6, hg6, he1⟩ := inv_bind he1
      refine T.call .list (wants0 rfl) rfl (run_callF (vs := [_]) rfl Try.func24 rfl (by decide) rfl) (fun w hS => disk_Disk_Blocks.c hS (o0 := (o0.1, o0.2.1, o0.2.2.1, o0.2.2.2.1, o0.2.2.2.2.1, o0.2.2.2.2.2.1, o0.2.2.2.2.2.2)) (q0b := q0b) (q0c := q0c)  hg6) (fun x9 => ?_)
      obtain ⟨r7, hg7, he1⟩ := inv_bind he1
      refine T.call .list (wants0 rfl) rfl (run_callF (vs := [_, _]) rfl Try.func27 rfl (by decide) rfl) (fun w hS => (page_readHead.c (St.borrow (ros := [Ro E8 x8.1 x8.2 r5.1]) (Ros.cons (hS.roBf 4 rfl rfl) Ros.nil)) (i0 := 0) rfl hg7).mono fun e w' ⟨x, he, h1⟩ => ⟨x, he, hS.unborrow (post := []) h1 Frees.nil⟩) (fun x10 => ?_)
      refine T.move .list rfl (wants0 rfl) rfl rfl ?_
      refine T.extract .list rfl (wants0 rfl) rfl rfl rfl ?_
      refine T.extract .list rfl (wants0 rfl) rfl rfl rfl ?_
      refine T.allocS .list rfl (wants0 rfl) rfl (cs := [.int .u64 0, .int .i64 0]) rfl (fun b3 => ?_)
      refine T.store .list 0 rfl rfl (wants0 rfl) rfl rfl rfl rfl (Nat.le_of_ble_eq_true rfl) rfl (cs' := [.int .u64 r7.1.1, .int .i64 r7.1.2]) rfl rfl ?_
      refine T.assign .list rfl (wants0 rfl) rfl rfl ?_
      refine T.nil ?_
      refine T.then_normal ?_
      refine T.seqJ (fun (s4 : Bool) (x11 : Unit) => [(0, .pointer (some ⟨p0, 0, none⟩)), (4, .pointer (some ⟨b2, 0, none⟩)), (5, .int .i64 s3.2.2.1), (6, .int .i64 s3.2.2.2), (9, .pointer (some ⟨b3, 0, none⟩)), (32, .int .i64 s3.2.2.2), (65, .bool s4)]) (fun s4 x11 => Cl p0 68 [.int .i64 o0.1, .map (some m0b), .slice A0c q0c.length c0c, .bool o0.2.1, .int .i64 o0.2.2.1, .int .i64 o0.2.2.2.1, .int .u64 o0.2.2.2.2.1, .int .i64 o0.2.2.2.2.2.1, .int .i64 o0.2.2.2.2.2.2] :: Mp (Elt.slice E8) m0b q0b :: Hb 82 A0c c0c d0c q0c :: Bb 5 d0c q0c :: Cl b2 45 [.int .i64 (IntKind.i64.wrap (r4 - 2)), .map (some b1), .pointer (some ⟨p0, 0, none⟩), .int .i64 r3, .int .u64 s3.1, .int .i64 s3.2.1] :: Mp E64 b1 (([] : List (Int × Int))) :: Cl b3 43 [.int .u64 r7.1.1, .int .i64 r7.1.2] :: hs) (fun s4 => page_Open.k3 r7 s3 s4 = some o1) (fun s4 x11 hk3 => ?_) (fun J3 => ?_)
      ·unfold page_Open.k3 at hk3
       refine T.cond rfl (fun hb8 => ?_) (fun hb8 => ?_)
       ·replace hk3 := inv_posB hb8 hk3
        refine T.region ?_
        refine T.move .list rfl (wants0 rfl) rfl rfl ?_
        refine T.loadN .list 6 rfl rfl (wants0 rfl) rfl rfl (vs := [.int .u64 r7.1.1, .int .i64 r7.1.2]) rfl rfl ?_
        refine T.move .list rfl (wants0 rfl) rfl rfl ?_
        refine T.nilCheck .list rfl (wants0 rfl) rfl rfl ?_
        refine T.field .list rfl (wants0 rfl) rfl rfl ?_
        refine T.store .list 4 rfl rfl (wants0 rfl) rfl rfl rfl rfl (Nat.le_of_ble_eq_true rfl) rfl (cs' := [.int .i64 (IntKind.i64.wrap (r4 - 2)), .map (some b1), .pointer (some ⟨p0, 0, none⟩), .int .i64 r3, .int .u64 r7.1.1, .int .i64 r7.1.2]) rfl rfl ?_
        refine T.assign .list rfl (wants0 rfl) rfl rfl ?_
        refine T.nil ?_
        refine T.in_normal ?_
        refine T.then_normal ?_
        refine T.region ?_
        refine T.bin .list rfl (wants0 rfl) rfl rfl rfl rfl ?_
        refine T.move .list rfl (wants0 rfl) rfl rfl ?_
        refine T.nil ?_
        refine T.then_normal ?_
        obtain rfl := inv_some hk3
        exact T.le (EnvLe.cons rfl (EnvLe.cons rfl (EnvLe.cons rfl (EnvLe.cons rfl EnvLe.nil)))) (T.pick [0, 1, 2, 3, 4, 5] 7 rfl rfl (Nat.le_add_left _ _) rfl (hm1 (r7.1.1, r7.1.2, s3.2.2.2, IntKind.i64.wrap (s3.2.2.2 + 1)) rfl ()))
       ·replace hk3 := inv_negB hb8 hk3
        refine T.skip ?_
        refine T.in_normal ?_
        refine T.then_normal ?_
        refine T.region ?_
        refine T.bin .list rfl (wants0 rfl) rfl rfl rfl rfl ?_
        refine T.move .list rfl (wants0 rfl) rfl rfl ?_
        refine T.nil ?_
        refine T.then_normal ?_
        obtain rfl := inv_some hk3
        exact T.le (EnvLe.cons rfl (EnvLe.cons rfl (EnvLe.cons rfl (EnvLe.cons rfl EnvLe.nil)))) (T.pick [0, 1, 2, 3, 4, 5] 7 rfl rfl (Nat.le_add_left _ _) rfl (hm1 (s3.1, s3.2.1, s3.2.2.1, IntKind.i64.wrap (s3.2.2.2 + 1)) rfl ()))
      ·refine T.plan [(0, 0), (1, 0), (2, 0), (3, 0), (4, 0), (5, 0), (7, 0), (8, 0), (9, 0), (10, 0), (6, 1), (11, 1), (12, 0), (13, 0), (14, 0)] mixed (by kernel_rfl) (by kernel_rfl) rfl (fun d _ _ _ _ h => by cases d <;> exact h) ?_
       refine T.move (.plan rfl) rfl (wants0 rfl) rfl rfl ?_
       refine T.move (.plan rfl) rfl (wants0 rfl) rfl rfl ?_
       refine T.bool (b := r7.2) (fun hb9 => ?_) (fun hb9 => ?_)
       ·replace he1 := inv_posB hb9 he1
        refine T.move (.plan rfl) rfl (wants1 rfl rfl rfl hb9) rfl rfl ?_
        refine T.bin (.plan rfl) rfl (wants1 rfl rfl rfl hb9) rfl rfl rfl rfl ?_
        refine T.move (.plan rfl) rfl (wants1 rfl rfl rfl hb9) rfl rfl ?_
        refine T.bool (b := (decide (s3.2.2.1 < 0))) (fun hb10 => ?_) (fun hb10 => ?_)
        ·replace he1 := inv_posB hb10 he1
         refine T.leave (.plan rfl) (wantsNot rfl rfl rfl hb10) rfl ?_
         refine T.leave (.plan rfl) (wantsNot rfl rfl rfl hb10) rfl ?_
         refine T.leave (.plan rfl) (wantsNot rfl rfl rfl hb10) rfl ?_
         refine T.leave (.plan rfl) (wantsNot rfl rfl rfl hb10) rfl ?_
         refine T.leave (.plan rfl) (wantsNot rfl rfl rfl hb10) rfl ?_
         refine T.leave (.plan rfl) (wantsNot rfl rfl rfl hb10) rfl ?_
         refine T.leave (.plan rfl) (wantsNot rfl rfl rfl hb10) rfl ?_
         refine T.leave (.plan rfl) (wantsNot rfl rfl rfl hb10) rfl ?_
         refine T.pickT (.plan rfl) rfl (wants1 rfl rfl rfl hb9) rfl rfl hb10 rfl ?_
         refine T.pickT (.plan rfl) rfl (wants0 rfl) rfl rfl hb9 rfl ?_
         refine T.planEnd ?_
         refine T.then_normal ?_
         exact T.le (EnvLe.cons rfl (EnvLe.cons rfl (EnvLe.cons rfl (EnvLe.cons rfl (EnvLe.cons rfl (EnvLe.cons rfl (EnvLe.cons rfl EnvLe.nil))))))) (T.pick [1, 2, 3, 4, 6, 7, 0] 8 rfl rfl (Nat.le_add_left _ _) rfl (J3 true () he1))
        ·replace he1 := inv_negB hb10 he1
         refine T.field (.plan rfl) rfl (wants1 rfl rfl rfl hb10) rfl rfl ?_
         refine T.move (.plan rfl) rfl (wants1 rfl rfl rfl hb10) rfl rfl ?_
         refine T.nilCheck (.plan rfl) rfl (wants1 rfl rfl rfl hb10) rfl rfl ?_
         refine T.field (.plan rfl) rfl (wants1 rfl rfl rfl hb10) rfl rfl ?_
         refine T.field (.plan rfl) rfl (wants1 rfl rfl rfl hb10) rfl rfl ?_
         refine T.load (.plan rfl) 0 rfl rfl (wants1 rfl rfl rfl hb10) rfl rfl rfl ?_
         refine T.load (.plan rfl) 6 rfl rfl (wants1 rfl rfl rfl hb10) rfl rfl rfl ?_
         refine T.bin (.plan rfl) rfl (wants1 rfl rfl rfl hb10) rfl rfl rfl rfl ?_
         refine T.pickF (.plan rfl) rfl (wants1 rfl rfl rfl hb9) rfl rfl hb10 rfl ?_
         refine T.pickT (.plan rfl) rfl (wants0 rfl) rfl rfl hb9 rfl ?_
         refine T.planEnd ?_
         refine T.then_normal ?_
         exact T.le (EnvLe.cons rfl (EnvLe.cons rfl (EnvLe.cons rfl (EnvLe.cons rfl (EnvLe.cons rfl (EnvLe.cons rfl (EnvLe.cons rfl EnvLe.nil))))))) (T.pick [1, 2, 3, 4, 6, 7, 0] 8 rfl rfl (Nat.le_add_left _ _) rfl (J3 (decide (s3.1 < r7.1.1)) () he1))
       ·replace he1 := inv_negB hb9 he1
        refine T.leave (.plan rfl) (wantsNot rfl rfl rfl hb9) rfl ?_
        refine T.leave (.plan rfl) (wantsNot rfl rfl rfl hb9) rfl ?_
        refine T.leave (.plan rfl) (wantsNot rfl rfl rfl hb9) rfl ?_
        refine T.leave (.plan rfl) (wantsUndef rfl rfl rfl) rfl ?_
        refine T.leave (.plan rfl) (wantsUndef rfl rfl rfl) rfl ?_
        refine T.leave (.plan rfl) (wantsUndef rfl rfl rfl) rfl ?_
        refine T.leave (.plan rfl) (wantsUndef rfl rfl rfl) rfl ?_
        refine T.leave (.plan rfl) (wantsUndef rfl rfl rfl) rfl ?_
        refine T.leave (.plan rfl) (wantsUndef rfl rfl rfl) rfl ?_
        refine T.leave (.plan rfl) (wantsUndef rfl rfl rfl) rfl ?_
        refine T.leave (.plan rfl) (wantsUndef rfl rfl rfl) rfl ?_
        refine T.leave (.plan rfl) (wantsNot rfl rfl rfl hb9) rfl ?_
        refine T.pickF (.plan rfl) rfl (wants0 rfl) rfl rfl hb9 rfl ?_
        refine T.planEnd ?_
        refine T.then_normal ?_
        exact T.le (EnvLe.cons rfl (EnvLe.cons rfl (EnvLe.cons rfl (EnvLe.cons rfl (EnvLe.cons rfl (EnvLe.cons rfl (EnvLe.cons rfl EnvLe.nil))))))) (T.pick [1, 2, 3, 4, 6, 7, 0] 8 rfl rfl (Nat.le_add_left _ _) rfl (J3 false () he1))
    ·replace he1 := inv_negB hb6 he1
     refine T.exit ?_
     refine T.then_exit ?_
     refine T.then_exit ?_
     obtain rfl := inv_some he1
     obtain rfl := hx1 _ rfl
     refine T.in_hit ?_
     refine T.then_normal ?_
     exact T.le (EnvLe.cons rfl (EnvLe.cons rfl EnvLe.nil)) (T.pick [4, 5, 0, 1, 2, 3] 6 rfl rfl (Nat.le_add_left _ _) rfl (J1 (s3.1, s3.2.1, s3.2.2.1) () hr))

noncomputable def page_Store_Root.impl (o0 : Int × Int × Int × Int) (q0b : List (Int × Int)) (o0c : Int × Bool × Int × Int × Int × Int × Int) (q0cb : List (Int × (List UInt8))) (q0cc : List (Int × List UInt8)) : Option Int :=
  some o0.2.2.2
set_option maxRecDepth 100000 in
set_option maxHeartbeats 4000000 in
theorem page_Store_Root.c {B : World} {hs : List MP} {w : World} {p0 : Nat} {o0 : Int × Int × Int × Int} {m0b : Nat} {q0b : List (Int × Int)} {p0c : Nat} {o0c : Int × Bool × Int × Int × Int × Int × Int} {m0cb : Nat} {q0cb : List (Int × (List UInt8))} {c0cc : Nat} {A0cc : Option Addr} {d0cc : Ads} {q0cc : List (Int × List UInt8)} (hS : St B (Cl p0 45 [.int .i64 o0.1, .map (some m0b), .pointer (some ⟨p0c, 0, none⟩), .int .i64 o0.2.1, .int .u64 o0.2.2.1, .int .i64 o0.2.2.2] :: Mp E64 m0b q0b :: Cl p0c 68 [.int .i64 o0c.1, .map (some m0cb), .slice A0cc q0cc.length c0cc, .bool o0c.2.1, .int .i64 o0c.2.2.1, .int .i64 o0c.2.2.2.1, .int .u64 o0c.2.2.2.2.1, .int .i64 o0c.2.2.2.2.2.1, .int .i64 o0c.2.2.2.2.2.2] :: Mp (Elt.slice E8) m0cb q0cb :: Hb 82 A0cc c0cc d0cc q0cc :: Bb 5 d0cc q0cc :: hs) w) {r : Int} (hr : page_Store_Root.impl o0 q0b o0c q0cb q0cc = some r) :
    Calls Try.prog 21 #[.pointer (some ⟨p0, 0, none⟩)] w fun e w' => ∃ x : Unit, e = .returned (.int .i64 r) ∧ St B (Cl p0 45 [.int .i64 o0.1, .map (some m0b), .pointer (some ⟨p0c, 0, none⟩), .int .i64 o0.2.1, .int .u64 o0.2.2.1, .int .i64 o0.2.2.2] :: Mp E64 m0b q0b :: Cl p0c 68 [.int .i64 o0c.1, .map (some m0cb), .slice A0cc q0cc.length c0cc, .bool o0c.2.1, .int .i64 o0c.2.2.1, .int .i64 o0c.2.2.2.1, .int .u64 o0c.2.2.2.2.1, .int .i64 o0c.2.2.2.2.2.1, .int .i64 o0c.2.2.2.2.2.2] :: Mp (Elt.slice E8) m0cb q0cb :: Hb 82 A0cc c0cc d0cc q0cc :: Bb 5 d0cc q0cc :: hs) w' := by
 unfold page_Store_Root.impl at hr
 refine calls_T Try.func21 rfl rfl rfl hS ?_
 refine T.seq ?_
 refine T.region ?_
 refine T.assign .list rfl (wants0 rfl) rfl rfl ?_
 refine T.nil ?_
 refine T.then_normal ?_
 refine T.seq ?_
 refine T.region ?_
 refine T.move .list rfl (wants0 rfl) rfl rfl ?_
 refine T.nilCheck .list rfl (wants0 rfl) rfl rfl ?_
 refine T.field .list rfl (wants0 rfl) rfl rfl ?_
 refine T.field .list rfl (wants0 rfl) rfl rfl ?_
 refine T.load .list 0 rfl rfl (wants0 rfl) rfl rfl rfl ?_
 refine T.assign .list rfl (wants0 rfl) rfl rfl ?_
 refine T.nil ?_
 refine T.then_normal ?_
 refine T.ret ?_
 obtain rfl := inv_some hr
 refine T.pick [0, 1, 2, 3, 4, 5] 6 rfl rfl (Nat.le_add_left _ _) rfl ?_
 refine T.ret1 rfl rfl (fun w hS => ⟨(), rfl, hS⟩)

noncomputable def page_Store_Number.impl (o0 : Int × Int × Int × Int) (q0b : List (Int × Int)) (o0c : Int × Bool × Int × Int × Int × Int × Int) (q0cb : List (Int × (List UInt8))) (q0cc : List (Int × List UInt8)) : Option Int :=
  some (IntKind.i64.wrap o0.2.2.1)
set_option maxRecDepth 100000 in
set_option maxHeartbeats 4000000 in
theorem page_Store_Number.c {B : World} {hs : List MP} {w : World} {p0 : Nat} {o0 : Int × Int × Int × Int} {m0b : Nat} {q0b : List (Int × Int)} {p0c : Nat} {o0c : Int × Bool × Int × Int × Int × Int × Int} {m0cb : Nat} {q0cb : List (Int × (List UInt8))} {c0cc : Nat} {A0cc : Option Addr} {d0cc : Ads} {q0cc : List (Int × List UInt8)} (hS : St B (Cl p0 45 [.int .i64 o0.1, .map (some m0b), .pointer (some ⟨p0c, 0, none⟩), .int .i64 o0.2.1, .int .u64 o0.2.2.1, .int .i64 o0.2.2.2] :: Mp E64 m0b q0b :: Cl p0c 68 [.int .i64 o0c.1, .map (some m0cb), .slice A0cc q0cc.length c0cc, .bool o0c.2.1, .int .i64 o0c.2.2.1, .int .i64 o0c.2.2.2.1, .int .u64 o0c.2.2.2.2.1, .int .i64 o0c.2.2.2.2.2.1, .int .i64 o0c.2.2.2.2.2.2] :: Mp (Elt.slice E8) m0cb q0cb :: Hb 82 A0cc c0cc d0cc q0cc :: Bb 5 d0cc q0cc :: hs) w) {r : Int} (hr : page_Store_Number.impl o0 q0b o0c q0cb q0cc = some r) :
    Calls Try.prog 15 #[.pointer (some ⟨p0, 0, none⟩)] w fun e w' => ∃ x : Unit, e = .returned (.int .i64 r) ∧ St B (Cl p0 45 [.int .i64 o0.1, .map (some m0b), .pointer (some ⟨p0c, 0, none⟩), .int .i64 o0.2.1, .int .u64 o0.2.2.1, .int .i64 o0.2.2.2] :: Mp E64 m0b q0b :: Cl p0c 68 [.int .i64 o0c.1, .map (some m0cb), .slice A0cc q0cc.length c0cc, .bool o0c.2.1, .int .i64 o0c.2.2.1, .int .i64 o0c.2.2.2.1, .int .u64 o0c.2.2.2.2.1, .int .i64 o0c.2.2.2.2.2.1, .int .i64 o0c.2.2.2.2.2.2] :: Mp (Elt.slice E8) m0cb q0cb :: Hb 82 A0cc c0cc d0cc q0cc :: Bb 5 d0cc q0cc :: hs) w' := by
 unfold page_Store_Number.impl at hr
 refine calls_T Try.func15 rfl rfl rfl hS ?_
 refine T.seq ?_
 refine T.region ?_
 refine T.assign .list rfl (wants0 rfl) rfl rfl ?_
 refine T.nil ?_
 refine T.then_normal ?_
 refine T.seq ?_
 refine T.region ?_
 refine T.move .list rfl (wants0 rfl) rfl rfl ?_
 refine T.nilCheck .list rfl (wants0 rfl) rfl rfl ?_
 refine T.field .list rfl (wants0 rfl) rfl rfl ?_
 refine T.field .list rfl (wants0 rfl) rfl rfl ?_
 refine T.load .list 0 rfl rfl (wants0 rfl) rfl rfl rfl ?_
 refine T.conv .list rfl (wants0 rfl) rfl rfl rfl ?_
 refine T.assign .list rfl (wants0 rfl) rfl rfl ?_
 refine T.nil ?_
 refine T.then_normal ?_
 refine T.ret ?_
 obtain rfl := inv_some hr
 refine T.pick [0, 1, 2, 3, 4, 5] 6 rfl rfl (Nat.le_add_left _ _) rfl ?_
 refine T.ret1 rfl rfl (fun w hS => ⟨(), rfl, hS⟩)

noncomputable def page_Store_Dead.impl (o0 : Int × Int × Int × Int) (q0b : List (Int × Int)) (o0c : Int × Bool × Int × Int × Int × Int × Int) (q0cb : List (Int × (List UInt8))) (q0cc : List (Int × List UInt8)) : Option Bool :=
  (disk_Disk_Down.impl ((o0c.1, o0c.2.1, o0c.2.2.1, o0c.2.2.2.1, o0c.2.2.2.2.1, o0c.2.2.2.2.2.1, o0c.2.2.2.2.2.2)) q0cb q0cc).bind fun r1 => (if r1 = true then some true else (disk_Disk_Life.impl ((o0c.1, o0c.2.1, o0c.2.2.1, o0c.2.2.2.1, o0c.2.2.2.2.1, o0c.2.2.2.2.2.1, o0c.2.2.2.2.2.2)) q0cb q0cc).bind fun r2 => some (!(decide (r2 = o0.2.1))))
set_option maxRecDepth 100000 in
set_option maxHeartbeats 4000000 in
theorem page_Store_Dead.c {B : World} {hs : List MP} {w : World} {p0 : Nat} {o0 : Int × Int × Int × Int} {m0b : Nat} {q0b : List (Int × Int)} {p0c : Nat} {o0c : Int × Bool × Int × Int × Int × Int × Int} {m0cb : Nat} {q0cb : List (Int × (List UInt8))} {c0cc : Nat} {A0cc : Option Addr} {d0cc : Ads} {q0cc : List (Int × List UInt8)} (hS : St B (Cl p0 45 [.int .i64 o0.1, .map (some m0b), .pointer (some ⟨p0c, 0, none⟩), .int .i64 o0.2.1, .int .u64 o0.2.2.1, .int .i64 o0.2.2.2] :: Mp E64 m0b q0b :: Cl p0c 68 [.int .i64 o0c.1, .map (some m0cb), .slice A0cc q0cc.length c0cc, .bool o0c.2.1, .int .i64 o0c.2.2.1, .int .i64 o0c.2.2.2.1, .int .u64 o0c.2.2.2.2.1, .int .i64 o0c.2.2.2.2.2.1, .int .i64 o0c.2.2.2.2.2.2] :: Mp (Elt.slice E8) m0cb q0cb :: Hb 82 A0cc c0cc d0cc q0cc :: Bb 5 d0cc q0cc :: hs) w) {r : Bool} (hr : page_Store_Dead.impl o0 q0b o0c q0cb q0cc = some r) :
    Calls Try.prog 19 #[.pointer (some ⟨p0, 0, none⟩)] w fun e w' => ∃ x : Unit, e = .returned (.bool r) ∧ St B (Cl p0 45 [.int .i64 o0.1, .map (some m0b), .pointer (some ⟨p0c, 0, none⟩), .int .i64 o0.2.1, .int .u64 o0.2.2.1, .int .i64 o0.2.2.2] :: Mp E64 m0b q0b :: Cl p0c 68 [.int .i64 o0c.1, .map (some m0cb), .slice A0cc q0cc.length c0cc, .bool o0c.2.1, .int .i64 o0c.2.2.1, .int .i64 o0c.2.2.2.1, .int .u64 o0c.2.2.2.2.1, .int .i64 o0c.2.2.2.2.2.1, .int .i64 o0c.2.2.2.2.2.2] :: Mp (Elt.slice E8) m0cb q0cb :: Hb 82 A0cc c0cc d0cc q0cc :: Bb 5 d0cc q0cc :: hs) w' := by
 unfold page_Store_Dead.impl at hr
 refine calls_T Try.func19 rfl rfl rfl hS ?_
 refine T.seq ?_
 refine T.region ?_
 refine T.assign .list rfl (wants0 rfl) rfl rfl ?_
 refine T.nil ?_
 refine T.then_normal ?_
 refine T.seq ?_
 refine T.dStart mixed ?_
 refine T.move (.dPure (i := 0) rfl (by kernel_rfl) (fun d _ _ _ _ h => by cases d <;> exact h)) rfl (wants0 rfl) rfl rfl ?_
 refine T.nilCheck (.dPure (i := 1) rfl (by kernel_rfl) (fun d _ _ _ _ h => by cases d <;> exact h)) rfl (wants0 rfl) rfl rfl ?_
 refine T.field (.dPure (i := 2) rfl (by kernel_rfl) (fun d _ _ _ _ h => by cases d <;> exact h)) rfl (wants0 rfl) rfl rfl ?_
 refine T.dAdd 18 (fun w => w.heap[p0]? = some (.cells [.int .i64 o0.1, .map (some m0b), .pointer (some ⟨p0c, 0, none⟩), .int .i64 o0.2.1, .int .u64 o0.2.2.1, .int .i64 o0.2.2.2].toArray 45 (0, 0))) (Cl.stays 0 rfl) ?_
 refine T.valS 0 (i := 3) (.pointer (some ⟨p0c, 0, none⟩)) rfl rfl (by kernel_rfl) (by kernel_rfl) (fun d _ _ _ _ h => by cases d <;> exact h) (wants0 rfl) rfl (run_ldCl rfl rfl rfl) ?_
 obtain ⟨r1, hg1, hr⟩ := inv_bind hr
 refine T.pick [2, 3, 4, 5, 0, 1] 6 rfl rfl (Nat.le_add_left _ _) (hs' := Cl p0c 68 [.int .i64 o0c.1, .map (some m0cb), .slice A0cc q0cc.length c0cc, .bool o0c.2.1, .int .i64 o0c.2.2.1, .int .i64 o0c.2.2.2.1, .int .u64 o0c.2.2.2.2.1, .int .i64 o0c.2.2.2.2.2.1, .int .i64 o0c.2.2.2.2.2.2] :: Mp (Elt.slice E8) m0cb q0cb :: Hb 82 A0cc c0cc d0cc q0cc :: Bb 5 d0cc q0cc :: Cl p0 45 [.int .i64 o0.1, .map (some m0b), .pointer (some ⟨p0c, 0, none⟩), .int .i64 o0.2.1, .int .u64 o0.2.2.1, .int .i64 o0.2.2.2] :: Mp E64 m0b q0b :: hs) rfl ?_
 refine T.dOnly (i := 4) (by kernel_rfl) ?_
 refine T.call (.dOne rfl (by kernel_rfl)) (wants0 rfl) rfl (run_callF (vs := [_]) rfl Try.func23 rfl (by decide) rfl) (fun w hS => disk_Disk_Down.c hS (o0 := (o0c.1, o0c.2.1, o0c.2.2.1, o0c.2.2.2.1, o0c.2.2.2.2.1, o0c.2.2.2.2.2.1, o0c.2.2.2.2.2.2)) (q0b := q0cb) (q0c := q0cc)  hg1) (fun x1 => ?_)
 refine T.dNext (phi_cons (.inr (Cl.stays 4 rfl)) phi_nil) ?_
 refine T.move (.dPure (i := 5) rfl (by kernel_rfl) (fun d _ _ _ _ h => by cases d <;> exact h)) rfl (wants0 rfl) rfl rfl ?_
 refine T.bool (b := r1) (fun hb1 => ?_) (fun hb1 => ?_)
 ·replace hr := inv_posB hb1 hr
  refine T.leave (.dPure (i := 6) rfl (by kernel_rfl) (fun d _ _ _ _ h => by cases d <;> exact h)) (wantsNot rfl rfl rfl hb1) rfl ?_
  refine T.leave (.dPure (i := 7) rfl (by kernel_rfl) (fun d _ _ _ _ h => by cases d <;> exact h)) (wantsNot rfl rfl rfl hb1) rfl ?_
  refine T.leave (.dPure (i := 8) rfl (by kernel_rfl) (fun d _ _ _ _ h => by cases d <;> exact h)) (wantsNot rfl rfl rfl hb1) rfl ?_
  refine T.leave (.dPure (i := 9) rfl (by kernel_rfl) (fun d _ _ _ _ h => by cases d <;> exact h)) (wantsNot rfl rfl rfl hb1) rfl ?_
  refine T.leave (.dPure (i := 10) rfl (by kernel_rfl) (fun d _ _ _ _ h => by cases d <;> exact h)) (wantsNot rfl rfl rfl hb1) rfl ?_
  refine T.leave (.dPure (i := 11) rfl (by kernel_rfl) (fun d _ _ _ _ h => by cases d <;> exact h)) (wantsNot rfl rfl rfl hb1) rfl ?_
  refine T.leave (.dPure (i := 12) rfl (by kernel_rfl) (fun d _ _ _ _ h => by cases d <;> exact h)) (wantsNot rfl rfl rfl hb1) rfl ?_
  refine T.leave (.dPure (i := 13) rfl (by kernel_rfl) (fun d _ _ _ _ h => by cases d <;> exact h)) (wantsNot rfl rfl rfl hb1) rfl ?_
  refine T.leave (.dPure (i := 14) rfl (by kernel_rfl) (fun d _ _ _ _ h => by cases d <;> exact h)) (wantsNot rfl rfl rfl hb1) rfl ?_
  refine T.leave (.dPure (i := 15) rfl (by kernel_rfl) (fun d _ _ _ _ h => by cases d <;> exact h)) (wantsNot rfl rfl rfl hb1) rfl ?_
  refine T.pickT (.dPure (i := 16) rfl (by kernel_rfl) (fun d _ _ _ _ h => by cases d <;> exact h)) rfl (wants0 rfl) rfl rfl hb1 rfl ?_
  refine T.assign (.dPure (i := 17) rfl (by kernel_rfl) (fun d _ _ _ _ h => by cases d <;> exact h)) rfl (wants0 rfl) rfl rfl ?_
  refine T.dDone (by kernel_rfl) ?_
  refine T.then_normal ?_
  refine T.ret ?_
  obtain rfl := inv_some hr
  refine T.pick [4, 5, 0, 1, 2, 3] 6 rfl rfl (Nat.le_add_left _ _) rfl ?_
  refine T.ret1 rfl rfl (fun w hS => ⟨(), rfl, hS⟩)
 ·replace hr := inv_negB hb1 hr
  refine T.move (.dPure (i := 6) rfl (by kernel_rfl) (fun d _ _ _ _ h => by cases d <;> exact h)) rfl (wants1 rfl rfl rfl hb1) rfl rfl ?_
  refine T.nilCheck (.dPure (i := 7) rfl (by kernel_rfl) (fun d _ _ _ _ h => by cases d <;> exact h)) rfl (wants1 rfl rfl rfl hb1) rfl rfl ?_
  refine T.field (.dPure (i := 8) rfl (by kernel_rfl) (fun d _ _ _ _ h => by cases d <;> exact h)) rfl (wants1 rfl rfl rfl hb1) rfl rfl ?_
  refine T.move (.dPure (i := 11) rfl (by kernel_rfl) (fun d _ _ _ _ h => by cases d <;> exact h)) rfl (wants1 rfl rfl rfl hb1) rfl rfl ?_
  refine T.nilCheck (.dPure (i := 12) rfl (by kernel_rfl) (fun d _ _ _ _ h => by cases d <;> exact h)) rfl (wants1 rfl rfl rfl hb1) rfl rfl ?_
  refine T.field (.dPure (i := 13) rfl (by kernel_rfl) (fun d _ _ _ _ h => by cases d <;> exact h)) rfl (wants1 rfl rfl rfl hb1) rfl rfl ?_
  refine T.valS 0 (i := 9) (.pointer (some ⟨p0c, 0, none⟩)) rfl rfl (by kernel_rfl) (by kernel_rfl) (fun d _ _ _ _ h => by cases d <;> exact h) (wants1 rfl rfl rfl hb1) rfl (run_ldCl rfl rfl rfl) ?_
  refine T.valS 0 (i := 14) (.int .i64 o0.2.1) rfl rfl (by kernel_rfl) (by kernel_rfl) (fun d _ _ _ _ h => by cases d <;> exact h) (wants1 rfl rfl rfl hb1) rfl (run_ldCl rfl rfl rfl) ?_
  obtain ⟨r2, hg2, hr⟩ := inv_bind hr
  refine T.pick [0, 1, 2, 3, 4, 5] 6 rfl rfl (Nat.le_add_left _ _) (hs' := Cl p0c 68 [.int .i64 o0c.1, .map (some m0cb), .slice A0cc q0cc.length c0cc, .bool o0c.2.1, .int .i64 o0c.2.2.1, .int .i64 o0c.2.2.2.1, .int .u64 o0c.2.2.2.2.1, .int .i64 o0c.2.2.2.2.2.1, .int .i64 o0c.2.2.2.2.2.2] :: Mp (Elt.slice E8) m0cb q0cb :: Hb 82 A0cc c0cc d0cc q0cc :: Bb 5 d0cc q0cc :: Cl p0 45 [.int .i64 o0.1, .map (some m0b), .pointer (some ⟨p0c, 0, none⟩), .int .i64 o0.2.1, .int .u64 o0.2.2.1, .int .i64 o0.2.2.2] :: Mp E64 m0b q0b :: hs) rfl ?_
  refine T.dOnly (i := 10) (by kernel_rfl) ?_
  refine T.call (.dOne rfl (by kernel_rfl)) (wants1 rfl rfl rfl hb1) rfl (run_callF (vs := [_]) rfl Try.func25 rfl (by decide) rfl) (fun w hS => disk_Disk_Life.c hS (o0 := (o0c.1, o0c.2.1, o0c.2.2.1, o0c.2.2.2.1, o0c.2.2.2.2.1, o0c.2.2.2.2.2.1, o0c.2.2.2.2.2.2)) (q0b := q0cb) (q0c := q0cc)  hg2) (fun x2 => ?_)
  refine T.dNext (phi_cons (.inr (Cl.stays 4 rfl)) phi_nil) ?_
  refine T.bin (.dPure (i := 15) rfl (by kernel_rfl) (fun d _ _ _ _ h => by cases d <;> exact h)) rfl (wants1 rfl rfl rfl hb1) rfl rfl rfl rfl ?_
  refine T.pickF (.dPure (i := 16) rfl (by kernel_rfl) (fun d _ _ _ _ h => by cases d <;> exact h)) rfl (wants0 rfl) rfl rfl hb1 rfl ?_
  refine T.assign (.dPure (i := 17) rfl (by kernel_rfl) (fun d _ _ _ _ h => by cases d <;> exact h)) rfl (wants0 rfl) rfl rfl ?_
  refine T.dDone (by kernel_rfl) ?_
  refine T.then_normal ?_
  refine T.ret ?_
  obtain rfl := inv_some hr
  refine T.pick [4, 5, 0, 1, 2, 3] 6 rfl rfl (Nat.le_add_left _ _) rfl ?_
  refine T.ret1 rfl rfl (fun w hS => ⟨(), rfl, hS⟩)

noncomputable def page_Store_Hold.k2 (s2 : (List (Int × Int))) : Option (Int × (List (Int × Int))) :=
  some (0, s2)
noncomputable def page_Store_Hold.st1 (l1 : List Int) (s3 : (List (Int × Int)) × Int) : Option (((List (Int × Int)) × Int) ⊕ ((List (Int × Int)))) :=
  (if ((decide (s3.2 < ((l1.length : Int))))) = true then chk (0 ≤ s3.2 ∧ s3.2 < (l1.length : Int)) (some (.inl ((mset s3.1 (((l1).getD (s3.2 : Int).toNat default)) 1), IntKind.i64.wrap (s3.2 + 1)))) else some (.inr s3.1))
noncomputable def page_Store_Hold.k1 (l1 : List Int) (q0b : List (Int × Int)) (s1 : Unit) : Option (Int × (List (Int × Int))) :=
  (loop (page_Store_Hold.st1 l1) (q0b, 0)).bind (fun e1 => page_Store_Hold.k2 e1)
noncomputable def page_Store_Hold.st2 (l1 : List Int) (o0 : Int × Int × Int × Int) (q0b : List (Int × Int)) (s4 : Int) : Option (Int ⊕ ((Int × (List (Int × Int))) ⊕ Unit)) :=
  (if ((decide (s4 < ((l1.length : Int))))) = true then chk (0 ≤ s4 ∧ s4 < (l1.length : Int)) ((page_counts_is.impl o0.1 q0b (((l1).getD (s4 : Int).toNat default))).bind fun r2 => (if ((!r2)) = true then some (.inr (.inl (1, q0b))) else some (.inl (IntKind.i64.wrap (s4 + 1))))) else some (.inr (.inr ())))
noncomputable def page_Store_Hold.impl (o0 : Int × Int × Int × Int) (q0b : List (Int × Int)) (o0c : Int × Bool × Int × Int × Int × Int × Int) (q0cb : List (Int × (List UInt8))) (q0cc : List (Int × List UInt8)) (l1 : List Int) : Option (Int × (List (Int × Int))) :=
  (page_Store_Dead.impl ((o0.1, o0.2.1, o0.2.2.1, o0.2.2.2)) q0b ((o0c.1, o0c.2.1, o0c.2.2.1, o0c.2.2.2.1, o0c.2.2.2.2.1, o0c.2.2.2.2.2.1, o0c.2.2.2.2.2.2)) q0cb q0cc).bind fun r1 => (if r1 = true then some (20, q0b) else (loop (page_Store_Hold.st2 l1 o0 q0b) 0).bind (fun e2 => match e2 with | .inl v => some v | .inr v => page_Store_Hold.k1 l1 q0b v))
set_option maxRecDepth 100000 in
set_option maxHeartbeats 4000000 in
theorem page_Store_Hold.c {B : World} {hs : List MP} {w : World} {p0 : Nat} {o0 : Int × Int × Int × Int} {m0b : Nat} {q0b : List (Int × Int)} {p0c : Nat} {o0c : Int × Bool × Int × Int × Int × Int × Int} {m0cb : Nat} {q0cb : List (Int × (List UInt8))} {c0cc : Nat} {A0cc : Option Addr} {d0cc : Ads} {q0cc : List (Int × List UInt8)} {i1 c1 : Nat} {A1 : Option Addr} {l1 : List Int} (hS : St B (Cl p0 45 [.int .i64 o0.1, .map (some m0b), .pointer (some ⟨p0c, 0, none⟩), .int .i64 o0.2.1, .int .u64 o0.2.2.1, .int .i64 o0.2.2.2] :: Mp E64 m0b q0b :: Cl p0c 68 [.int .i64 o0c.1, .map (some m0cb), .slice A0cc q0cc.length c0cc, .bool o0c.2.1, .int .i64 o0c.2.2.1, .int .i64 o0c.2.2.2.1, .int .u64 o0c.2.2.2.2.1, .int .i64 o0c.2.2.2.2.2.1, .int .i64 o0c.2.2.2.2.2.2] :: Mp (Elt.slice E8) m0cb q0cb :: Hb 82 A0cc c0cc d0cc q0cc :: Bb 5 d0cc q0cc :: hs) w) (h1 : (Cl p0 45 [.int .i64 o0.1, .map (some m0b), .pointer (some ⟨p0c, 0, none⟩), .int .i64 o0.2.1, .int .u64 o0.2.2.1, .int .i64 o0.2.2.2] :: Mp E64 m0b q0b :: Cl p0c 68 [.int .i64 o0c.1, .map (some m0cb), .slice A0cc q0cc.length c0cc, .bool o0c.2.1, .int .i64 o0c.2.2.1, .int .i64 o0c.2.2.2.1, .int .u64 o0c.2.2.2.2.1, .int .i64 o0c.2.2.2.2.2.1, .int .i64 o0c.2.2.2.2.2.2] :: Mp (Elt.slice E8) m0cb q0cb :: Hb 82 A0cc c0cc d0cc q0cc :: Bb 5 d0cc q0cc :: hs)[i1]? = some (Ro E64 A1 c1 l1)) {r : Int × (List (Int × Int))} (hr : page_Store_Hold.impl o0 q0b o0c q0cb q0cc l1 = some r) :
    Calls Try.prog 18 #[.pointer (some ⟨p0, 0, none⟩), .slice A1 l1.length c1] w fun e w' => ∃ x : Unit, e = .returned (.int .i64 r.1) ∧ St B (Cl p0 45 [.int .i64 o0.1, .map (some m0b), .pointer (some ⟨p0c, 0, none⟩), .int .i64 o0.2.1, .int .u64 o0.2.2.1, .int .i64 o0.2.2.2] :: Mp E64 m0b r.2 :: Cl p0c 68 [.int .i64 o0c.1, .map (some m0cb), .slice A0cc q0cc.length c0cc, .bool o0c.2.1, .int .i64 o0c.2.2.1, .int .i64 o0c.2.2.2.1, .int .u64 o0c.2.2.2.2.1, .int .i64 o0c.2.2.2.2.2.1, .int .i64 o0c.2.2.2.2.2.2] :: Mp (Elt.slice E8) m0cb q0cb :: Hb 82 A0cc c0cc d0cc q0cc :: Bb 5 d0cc q0cc :: hs) w' := by
 unfold page_Store_Hold.impl at hr
 refine calls_T Try.func18 rfl rfl rfl hS ?_
 refine T.front i1 h1 ?_
 refine T.seq ?_
 refine T.region ?_
 refine T.assign .list rfl (wants0 rfl) rfl rfl ?_
 refine T.nil ?_
 refine T.then_normal ?_
 refine T.seq ?_
 refine T.seq ?_
 refine T.region ?_
 refine T.move .list rfl (wants0 rfl) rfl rfl ?_
 refine T.pick [1, 2, 3, 4, 5, 6, 0] 7 rfl rfl (Nat.le_add_left _ _) (hs' := Cl p0 45 [.int .i64 o0.1, .map (some m0b), .pointer (some ⟨p0c, 0, none⟩), .int .i64 o0.2.1, .int .u64 o0.2.2.1, .int .i64 o0.2.2.2] :: Mp E64 m0b q0b :: Cl p0c 68 [.int .i64 o0c.1, .map (some m0cb), .slice A0cc q0cc.length c0cc, .bool o0c.2.1, .int .i64 o0c.2.2.1, .int .i64 o0c.2.2.2.1, .int .u64 o0c.2.2.2.2.1, .int .i64 o0c.2.2.2.2.2.1, .int .i64 o0c.2.2.2.2.2.2] :: Mp (Elt.slice E8) m0cb q0cb :: Hb 82 A0cc c0cc d0cc q0cc :: Bb 5 d0cc q0cc :: Ro E64 A1 c1 l1 :: hs) rfl ?_
 obtain ⟨r1, hg1, hr⟩ := inv_bind hr
 refine T.call .list (wants0 rfl) rfl (run_callF (vs := [_]) rfl Try.func19 rfl (by decide) rfl) (fun w hS => page_Store_Dead.c hS (o0 := (o0.1, o0.2.1, o0.2.2.1, o0.2.2.2)) (q0b := q0b) (o0c := (o0c.1, o0c.2.1, o0c.2.2.1, o0c.2.2.2.1, o0c.2.2.2.2.1, o0c.2.2.2.2.2.1, o0c.2.2.2.2.2.2)) (q0cb := q0cb) (q0cc := q0cc)  hg1) (fun x1 => ?_)
 refine T.nil ?_
 refine T.then_normal ?_
 refine T.cond rfl (fun hb1 => ?_) (fun hb1 => ?_)
 ·replace hr := inv_posB hb1 hr
  refine T.seq ?_
  refine T.region ?_
  refine T.assign .list rfl (wants0 rfl) rfl rfl ?_
  refine T.nil ?_
  refine T.then_normal ?_
  refine T.ret ?_
  refine T.then_ret ?_
  obtain rfl := inv_some hr
  refine T.pick [0, 1, 2, 3, 4, 5] 7 rfl rfl (Nat.le_add_left _ _) rfl ?_
  refine T.ret1 rfl rfl (fun w hS => ⟨(), rfl, hS⟩)
 ·replace hr := inv_negB hb1 hr
  refine T.skip ?_
  refine T.then_normal ?_
  refine T.seqJ (fun (s1 : Unit) (x2 : Unit) => [(0, .pointer (some ⟨p0, 0, none⟩)), (1, .slice A1 l1.length c1)]) (fun s1 x2 => Cl p0 45 [.int .i64 o0.1, .map (some m0b), .pointer (some ⟨p0c, 0, none⟩), .int .i64 o0.2.1, .int .u64 o0.2.2.1, .int .i64 o0.2.2.2] :: Mp E64 m0b q0b :: Cl p0c 68 [.int .i64 o0c.1, .map (some m0cb), .slice A0cc q0cc.length c0cc, .bool o0c.2.1, .int .i64 o0c.2.2.1, .int .i64 o0c.2.2.2.1, .int .u64 o0c.2.2.2.2.1, .int .i64 o0c.2.2.2.2.2.1, .int .i64 o0c.2.2.2.2.2.2] :: Mp (Elt.slice E8) m0cb q0cb :: Hb 82 A0cc c0cc d0cc q0cc :: Bb 5 d0cc q0cc :: Ro E64 A1 c1 l1 :: hs) (fun s1 => page_Store_Hold.k1 l1 q0b s1 = some r) (fun s1 x2 hk1 => ?_) (fun J1 => ?_)
  ·unfold page_Store_Hold.k1 at hk1
   refine T.seqJ (fun (s2 : (List (Int × Int))) (x3 : Unit) => []) (fun s2 x3 => Cl p0 45 [.int .i64 o0.1, .map (some m0b), .pointer (some ⟨p0c, 0, none⟩), .int .i64 o0.2.1, .int .u64 o0.2.2.1, .int .i64 o0.2.2.2] :: Mp E64 m0b s2 :: Cl p0c 68 [.int .i64 o0c.1, .map (some m0cb), .slice A0cc q0cc.length c0cc, .bool o0c.2.1, .int .i64 o0c.2.2.1, .int .i64 o0c.2.2.2.1, .int .u64 o0c.2.2.2.2.1, .int .i64 o0c.2.2.2.2.2.1, .int .i64 o0c.2.2.2.2.2.2] :: Mp (Elt.slice E8) m0cb q0cb :: Hb 82 A0cc c0cc d0cc q0cc :: Bb 5 d0cc q0cc :: hs) (fun s2 => page_Store_Hold.k2 s2 = some r) (fun s2 x3 hk2 => ?_) (fun J2 => ?_)
   ·unfold page_Store_Hold.k2 at hk2
    refine T.seq ?_
    refine T.region ?_
    refine T.assign .list rfl (wants0 rfl) rfl rfl ?_
    refine T.nil ?_
    refine T.then_normal ?_
    refine T.ret ?_
    obtain rfl := inv_some hk2
    refine T.pick [0, 1, 2, 3, 4, 5] 6 rfl rfl (Nat.le_add_left _ _) rfl ?_
    refine T.ret1 rfl rfl (fun w hS => ⟨(), rfl, hS⟩)
   ·refine T.seq ?_
    refine T.region ?_
    refine T.move .list rfl (wants0 rfl) rfl rfl ?_
    refine T.lenSlice .list rfl (wants0 rfl) rfl rfl ?_
    refine T.move .list rfl (wants0 rfl) rfl rfl ?_
    refine T.nil ?_
    refine T.then_normal ?_
    refine T.block ?_
    obtain ⟨e1, hl1, hk1⟩ := inv_bind hk1
    refine T.le (EnvLe.cons rfl (EnvLe.cons rfl (EnvLe.cons rfl (EnvLe.cons rfl EnvLe.nil)))) (T.pick [0, 1, 2, 3, 4, 5, 6] 7 rfl rfl (Nat.le_add_left _ _) rfl (T.loop (s0 := (q0b, 0)) (env := fun s3 x4 => [(0, .pointer (some ⟨p0, 0, none⟩)), (24, .slice A1 l1.length c1), (25, .int .i64 ((l1.length : Int))), (26, .int .i64 s3.2)]) (hs := fun (s3 : (List (Int × Int)) × Int) (x4 : Unit) => Cl p0 45 [.int .i64 o0.1, .map (some m0b), .pointer (some ⟨p0c, 0, none⟩), .int .i64 o0.2.1, .int .u64 o0.2.2.1, .int .i64 o0.2.2.2] :: Mp E64 m0b s3.1 :: Cl p0c 68 [.int .i64 o0c.1, .map (some m0cb), .slice A0cc q0cc.length c0cc, .bool o0c.2.1, .int .i64 o0c.2.2.1, .int .i64 o0c.2.2.2.1, .int .u64 o0c.2.2.2.2.1, .int .i64 o0c.2.2.2.2.2.1, .int .i64 o0c.2.2.2.2.2.2] :: Mp (Elt.slice E8) m0cb q0cb :: Hb 82 A0cc c0cc d0cc q0cc :: Bb 5 d0cc q0cc :: Ro E64 A1 c1 l1 :: hs) hl1 () (fun K1 s3 x4 o1 he1 hm1 hx1 => ?_)))
    unfold page_Store_Hold.st1 at he1
    refine T.seq ?_
    refine T.region ?_
    refine T.bin .list rfl (wants0 rfl) rfl rfl rfl rfl ?_
    refine T.nil ?_
    refine T.then_normal ?_
    refine T.seq ?_
    refine T.cond rfl (fun hb2 => ?_) (fun hb2 => ?_)
    ·replace he1 := inv_posB hb2 he1
     refine T.skip ?_
     refine T.then_normal ?_
     refine T.seq ?_
     refine T.block ?_
     refine T.seq ?_
     refine T.region ?_
     obtain ⟨hc1, he1⟩ := inv_chk he1
     refine T.idxRo .list 6 rfl rfl (wants0 rfl) rfl rfl rfl hc1.1 hc1.2 (Nat.le_refl _) ?_
     refine T.ldRo1 .list 6 rfl rfl (wants0 rfl) rfl rfl hc1.1 hc1.2 ?_
     refine T.assign .list rfl (wants0 rfl) rfl rfl ?_
     refine T.nil ?_
     refine T.then_normal ?_
     refine T.region ?_
     refine T.move .list rfl (wants0 rfl) rfl rfl ?_
     refine T.nilCheck .list rfl (wants0 rfl) rfl rfl ?_
     refine T.field .list rfl (wants0 rfl) rfl rfl ?_
     refine T.field .list rfl (wants0 rfl) rfl rfl ?_
     refine T.load .list 0 rfl rfl (wants0 rfl) rfl rfl rfl ?_
     refine T.move .list rfl (wants0 rfl) rfl rfl ?_
     refine T.mapUpdate .list 1 (c := 1) rfl rfl (wants0 rfl) rfl rfl rfl rfl (Has.sc rfl) rfl ?_
     refine T.nil ?_
     refine T.in_normal ?_
     refine T.then_normal ?_
     refine T.region ?_
     refine T.bin .list rfl (wants0 rfl) rfl rfl rfl rfl ?_
     refine T.move .list rfl (wants0 rfl) rfl rfl ?_
     refine T.nil ?_
     refine T.then_normal ?_
     obtain rfl := inv_some he1
     exact T.le (EnvLe.cons rfl (EnvLe.cons rfl (EnvLe.cons rfl (EnvLe.cons rfl EnvLe.nil)))) (T.pick [0, 1, 2, 3, 4, 5, 6] 7 rfl rfl (Nat.le_add_left _ _) rfl (hm1 ((mset s3.1 (((l1).getD (s3.2 : Int).toNat default)) 1), IntKind.i64.wrap (s3.2 + 1)) rfl ()))
    ·replace he1 := inv_negB hb2 he1
     refine T.exit ?_
     refine T.then_exit ?_
     refine T.then_exit ?_
     obtain rfl := inv_some he1
     obtain rfl := hx1 _ rfl
     refine T.in_hit ?_
     refine T.then_normal ?_
     exact T.le EnvLe.nil (T.pick [0, 1, 2, 3, 4, 5] 7 rfl rfl (Nat.le_add_left _ _) rfl (J2 s3.1 () hk1))
  ·refine T.seq ?_
   refine T.region ?_
   refine T.move .list rfl (wants0 rfl) rfl rfl ?_
   refine T.lenSlice .list rfl (wants0 rfl) rfl rfl ?_
   refine T.move .list rfl (wants0 rfl) rfl rfl ?_
   refine T.nil ?_
   refine T.then_normal ?_
   refine T.block ?_
   obtain ⟨e2, hl2, hr⟩ := inv_bind hr
   refine T.le (EnvLe.cons rfl (EnvLe.cons rfl (EnvLe.cons rfl (EnvLe.cons rfl (EnvLe.cons rfl EnvLe.nil))))) (T.pick [0, 1, 2, 3, 4, 5, 6] 7 rfl rfl (Nat.le_add_left _ _) rfl (T.loop (s0 := 0) (env := fun s4 x5 => [(0, .pointer (some ⟨p0, 0, none⟩)), (1, .slice A1 l1.length c1), (11, .slice A1 l1.length c1), (12, .int .i64 ((l1.length : Int))), (13, .int .i64 s4)]) (hs := fun (s4 : Int) (x5 : Unit) => Cl p0 45 [.int .i64 o0.1, .map (some m0b), .pointer (some ⟨p0c, 0, none⟩), .int .i64 o0.2.1, .int .u64 o0.2.2.1, .int .i64 o0.2.2.2] :: Mp E64 m0b q0b :: Cl p0c 68 [.int .i64 o0c.1, .map (some m0cb), .slice A0cc q0cc.length c0cc, .bool o0c.2.1, .int .i64 o0c.2.2.1, .int .i64 o0c.2.2.2.1, .int .u64 o0c.2.2.2.2.1, .int .i64 o0c.2.2.2.2.2.1, .int .i64 o0c.2.2.2.2.2.2] :: Mp (Elt.slice E8) m0cb q0cb :: Hb 82 A0cc c0cc d0cc q0cc :: Bb 5 d0cc q0cc :: Ro E64 A1 c1 l1 :: hs) hl2 () (fun K2 s4 x5 o2 he2 hm2 hx2 => ?_)))
   unfold page_Store_Hold.st2 at he2
   refine T.seq ?_
   refine T.region ?_
   refine T.bin .list rfl (wants0 rfl) rfl rfl rfl rfl ?_
   refine T.nil ?_
   refine T.then_normal ?_
   refine T.seq ?_
   refine T.cond rfl (fun hb3 => ?_) (fun hb3 => ?_)
   ·replace he2 := inv_posB hb3 he2
    refine T.skip ?_
    refine T.then_normal ?_
    refine T.seq ?_
    refine T.block ?_
    refine T.seq ?_
    refine T.region ?_
    obtain ⟨hc2, he2⟩ := inv_chk he2
    refine T.idxRo .list 6 rfl rfl (wants0 rfl) rfl rfl rfl hc2.1 hc2.2 (Nat.le_refl _) ?_
    refine T.ldRo1 .list 6 rfl rfl (wants0 rfl) rfl rfl hc2.1 hc2.2 ?_
    refine T.assign .list rfl (wants0 rfl) rfl rfl ?_
    refine T.nil ?_
    refine T.then_normal ?_
    refine T.seq ?_
    refine T.region ?_
    refine T.move .list rfl (wants0 rfl) rfl rfl ?_
    refine T.nilCheck .list rfl (wants0 rfl) rfl rfl ?_
    refine T.field .list rfl (wants0 rfl) rfl rfl ?_
    refine T.move .list rfl (wants0 rfl) rfl rfl ?_
    refine T.pick [0, 1, 2, 3, 4, 5, 6] 7 rfl rfl (Nat.le_add_left _ _) (hs' := Cl p0 45 [.int .i64 o0.1, .map (some m0b), .pointer (some ⟨p0c, 0, none⟩), .int .i64 o0.2.1, .int .u64 o0.2.2.1, .int .i64 o0.2.2.2] :: Mp E64 m0b q0b :: Cl p0c 68 [.int .i64 o0c.1, .map (some m0cb), .slice A0cc q0cc.length c0cc, .bool o0c.2.1, .int .i64 o0c.2.2.1, .int .i64 o0c.2.2.2.1, .int .u64 o0c.2.2.2.2.1, .int .i64 o0c.2.2.2.2.2.1, .int .i64 o0c.2.2.2.2.2.2] :: Mp (Elt.slice E8) m0cb q0cb :: Hb 82 A0cc c0cc d0cc q0cc :: Bb 5 d0cc q0cc :: Ro E64 A1 c1 l1 :: hs) rfl ?_
    obtain ⟨r2, hg2, he2⟩ := inv_bind he2
    refine T.call .list (wants0 rfl) rfl (run_callF (vs := [_, _]) rfl Try.func34 rfl (by decide) rfl) (fun w hS => page_counts_is.c hS (T0 := 45) (rest0 := [.pointer (some ⟨p0c, 0, none⟩), .int .i64 o0.2.1, .int .u64 o0.2.2.1, .int .i64 o0.2.2.2]) (o0 := o0.1) (q0b := q0b)  hg2) (fun x6 => ?_)
    refine T.not .list rfl (wants0 rfl) rfl rfl ?_
    refine T.nil ?_
    refine T.then_normal ?_
    refine T.cond rfl (fun hb4 => ?_) (fun hb4 => ?_)
    ·replace he2 := inv_posB hb4 he2
     refine T.seq ?_
     refine T.region ?_
     refine T.assign .list rfl (wants0 rfl) rfl rfl ?_
     refine T.nil ?_
     refine T.then_normal ?_
     refine T.ret ?_
     refine T.in_ret ?_
     refine T.then_ret ?_
     refine T.then_ret ?_
     obtain rfl := inv_some he2
     obtain rfl := hx2 _ rfl
     refine T.in_ret ?_
     refine T.then_ret ?_
     obtain rfl := inv_some hr
     refine T.pick [0, 1, 2, 3, 4, 5] 7 rfl rfl (Nat.le_add_left _ _) rfl ?_
     refine T.ret1 rfl rfl (fun w hS => ⟨(), rfl, hS⟩)
    ·replace he2 := inv_negB hb4 he2
     refine T.skip ?_
     refine T.in_normal ?_
     refine T.then_normal ?_
     refine T.region ?_
     refine T.bin .list rfl (wants0 rfl) rfl rfl rfl rfl ?_
     refine T.move .list rfl (wants0 rfl) rfl rfl ?_
     refine T.nil ?_
     refine T.then_normal ?_
     obtain rfl := inv_some he2
     exact T.le (EnvLe.cons rfl (EnvLe.cons rfl (EnvLe.cons rfl (EnvLe.cons rfl (EnvLe.cons rfl EnvLe.nil))))) (T.pick [0, 1, 2, 3, 4, 5, 6] 7 rfl rfl (Nat.le_add_left _ _) rfl (hm2 (IntKind.i64.wrap (s4 + 1)) rfl ()))
   ·replace he2 := inv_negB hb3 he2
    refine T.exit ?_
    refine T.then_exit ?_
    refine T.then_exit ?_
    obtain rfl := inv_some he2
    obtain rfl := hx2 _ rfl
    refine T.in_hit ?_
    refine T.then_normal ?_
    exact T.le (EnvLe.cons rfl (EnvLe.cons rfl EnvLe.nil)) (T.pick [0, 1, 2, 3, 4, 5, 6] 7 rfl rfl (Nat.le_add_left _ _) rfl (J1 () () hr))

noncomputable def page_Store_Put.impl (o0 : Int × Int × Int × Int) (q0b : List (Int × Int)) (o0c : Int × Bool × Int × Int × Int × Int × Int) (q0cb : List (Int × (List UInt8))) (q0cc : List (Int × List UInt8)) (l1 : List UInt8) : Option (Int × Int × (List (Int × Int)) × (Int × Bool × Int × Int × Int × Int × Int) × (List (Int × (List UInt8))) × (List (Int × List UInt8))) :=
  (page_counts_first.impl o0.1 q0b).bind fun r1 => (page_Store_Dead.impl ((o0.1, o0.2.1, o0.2.2.1, o0.2.2.2)) q0b ((o0c.1, o0c.2.1, o0c.2.2.1, o0c.2.2.2.1, o0c.2.2.2.2.1, o0c.2.2.2.2.2.1, o0c.2.2.2.2.2.2)) q0cb q0cc).bind fun r2 => (if r2 = true then some (0, 20, q0b, (o0c.1, o0c.2.1, o0c.2.2.1, o0c.2.2.2.1, o0c.2.2.2.2.1, o0c.2.2.2.2.2.1, o0c.2.2.2.2.2.2), q0cb, q0cc) else (if ((decide ((8186 : Int) < ((l1.length : Int))))) = true then some (0, 3, q0b, (o0c.1, o0c.2.1, o0c.2.2.1, o0c.2.2.2.1, o0c.2.2.2.2.1, o0c.2.2.2.2.2.1, o0c.2.2.2.2.2.2), q0cb, q0cc) else (if ((decide (r1 = 0))) = true then some (0, 21, q0b, (o0c.1, o0c.2.1, o0c.2.2.1, o0c.2.2.2.1, o0c.2.2.2.2.1, o0c.2.2.2.2.2.1, o0c.2.2.2.2.2.2), q0cb, q0cc) else (page_laid.impl l1).bind fun r3 => (disk_Disk_Write.impl ((o0c.1, o0c.2.1, o0c.2.2.1, o0c.2.2.2.1, o0c.2.2.2.2.1, o0c.2.2.2.2.2.1, o0c.2.2.2.2.2.2)) q0cb q0cc r1 r3).bind fun r4 => (if ((!(decide (r4.1 = 0)))) = true then some (0, r4.1, q0b, (r4.2.1.1, r4.2.1.2.1, r4.2.1.2.2.1, r4.2.1.2.2.2.1, r4.2.1.2.2.2.2.1, r4.2.1.2.2.2.2.2.1, r4.2.1.2.2.2.2.2.2), r4.2.2.1, r4.2.2.2) else some (r1, 0, (mset q0b r1 1), (r4.2.1.1, r4.2.1.2.1, r4.2.1.2.2.1, r4.2.1.2.2.2.1, r4.2.1.2.2.2.2.1, r4.2.1.2.2.2.2.2.1, r4.2.1.2.2.2.2.2.2), r4.2.2.1, r4.2.2.2)))))
set_option maxRecDepth 100000 in
set_option maxHeartbeats 4000000 in
theorem page_Store_Put.c {B : World} {hs : List MP} {w : World} {p0 : Nat} {o0 : Int × Int × Int × Int} {m0b : Nat} {q0b : List (Int × Int)} {p0c : Nat} {o0c : Int × Bool × Int × Int × Int × Int × Int} {m0cb : Nat} {q0cb : List (Int × (List UInt8))} {c0cc : Nat} {A0cc : Option Addr} {d0cc : Ads} {q0cc : List (Int × List UInt8)} {i1 c1 : Nat} {A1 : Option Addr} {l1 : List UInt8} (hS : St B (Cl p0 45 [.int .i64 o0.1, .map (some m0b), .pointer (some ⟨p0c, 0, none⟩), .int .i64 o0.2.1, .int .u64 o0.2.2.1, .int .i64 o0.2.2.2] :: Mp E64 m0b q0b :: Cl p0c 68 [.int .i64 o0c.1, .map (some m0cb), .slice A0cc q0cc.length c0cc, .bool o0c.2.1, .int .i64 o0c.2.2.1, .int .i64 o0c.2.2.2.1, .int .u64 o0c.2.2.2.2.1, .int .i64 o0c.2.2.2.2.2.1, .int .i64 o0c.2.2.2.2.2.2] :: Mp (Elt.slice E8) m0cb q0cb :: Hb 82 A0cc c0cc d0cc q0cc :: Bb 5 d0cc q0cc :: hs) w) (h1 : (Cl p0 45 [.int .i64 o0.1, .map (some m0b), .pointer (some ⟨p0c, 0, none⟩), .int .i64 o0.2.1, .int .u64 o0.2.2.1, .int .i64 o0.2.2.2] :: Mp E64 m0b q0b :: Cl p0c 68 [.int .i64 o0c.1, .map (some m0cb), .slice A0cc q0cc.length c0cc, .bool o0c.2.1, .int .i64 o0c.2.2.1, .int .i64 o0c.2.2.2.1, .int .u64 o0c.2.2.2.2.1, .int .i64 o0c.2.2.2.2.2.1, .int .i64 o0c.2.2.2.2.2.2] :: Mp (Elt.slice E8) m0cb q0cb :: Hb 82 A0cc c0cc d0cc q0cc :: Bb 5 d0cc q0cc :: hs)[i1]? = some (Ro E8 A1 c1 l1)) {r : Int × Int × (List (Int × Int)) × (Int × Bool × Int × Int × Int × Int × Int) × (List (Int × (List UInt8))) × (List (Int × List UInt8))} (hr : page_Store_Put.impl o0 q0b o0c q0cb q0cc l1 = some r) :
    Calls Try.prog 9 #[.pointer (some ⟨p0, 0, none⟩), .slice A1 l1.length c1] w fun e w' => ∃ x : (Option Addr × Nat) × (Ads), e = .returned (.tuple #[.int .i64 r.1, .int .i64 r.2.1]) ∧ St B (Cl p0 45 [.int .i64 o0.1, .map (some m0b), .pointer (some ⟨p0c, 0, none⟩), .int .i64 o0.2.1, .int .u64 o0.2.2.1, .int .i64 o0.2.2.2] :: Mp E64 m0b r.2.2.1 :: Cl p0c 68 [.int .i64 r.2.2.2.1.1, .map (some m0cb), .slice x.1.1 r.2.2.2.2.2.length x.1.2, .bool r.2.2.2.1.2.1, .int .i64 r.2.2.2.1.2.2.1, .int .i64 r.2.2.2.1.2.2.2.1, .int .u64 r.2.2.2.1.2.2.2.2.1, .int .i64 r.2.2.2.1.2.2.2.2.2.1, .int .i64 r.2.2.2.1.2.2.2.2.2.2] :: Mp (Elt.slice E8) m0cb r.2.2.2.2.1 :: Hb 82 x.1.1 x.1.2 x.2 r.2.2.2.2.2 :: Bb 5 x.2 r.2.2.2.2.2 :: hs) w' := by
 unfold page_Store_Put.impl at hr
 refine calls_T Try.func9 rfl rfl rfl hS ?_
 refine T.front i1 h1 ?_
 refine T.seq ?_
 refine T.region ?_
 refine T.assign .list rfl (wants0 rfl) rfl rfl ?_
 refine T.assign .list rfl (wants0 rfl) rfl rfl ?_
 refine T.nil ?_
 refine T.then_normal ?_
 refine T.seq ?_
 refine T.region ?_
 refine T.move .list rfl (wants0 rfl) rfl rfl ?_
 refine T.nilCheck .list rfl (wants0 rfl) rfl rfl ?_
 refine T.field .list rfl (wants0 rfl) rfl rfl ?_
 refine T.pick [1, 2, 0, 3, 4, 5, 6] 7 rfl rfl (Nat.le_add_left _ _) (hs' := Cl p0 45 [.int .i64 o0.1, .map (some m0b), .pointer (some ⟨p0c, 0, none⟩), .int .i64 o0.2.1, .int .u64 o0.2.2.1, .int .i64 o0.2.2.2] :: Mp E64 m0b q0b :: Ro E8 A1 c1 l1 :: Cl p0c 68 [.int .i64 o0c.1, .map (some m0cb), .slice A0cc q0cc.length c0cc, .bool o0c.2.1, .int .i64 o0c.2.2.1, .int .i64 o0c.2.2.2.1, .int .u64 o0c.2.2.2.2.1, .int .i64 o0c.2.2.2.2.2.1, .int .i64 o0c.2.2.2.2.2.2] :: Mp (Elt.slice E8) m0cb q0cb :: Hb 82 A0cc c0cc d0cc q0cc :: Bb 5 d0cc q0cc :: hs) rfl ?_
 obtain ⟨r1, hg1, hr⟩ := inv_bind hr
 refine T.call .list (wants0 rfl) rfl (run_callF (vs := [_]) rfl Try.func28 rfl (by decide) rfl) (fun w hS => page_counts_first.c hS (T0 := 45) (rest0 := [.pointer (some ⟨p0c, 0, none⟩), .int .i64 o0.2.1, .int .u64 o0.2.2.1, .int .i64 o0.2.2.2]) (o0 := o0.1) (q0b := q0b)  hg1) (fun x1 => ?_)
 refine T.assign .list rfl (wants0 rfl) rfl rfl ?_
 refine T.nil ?_
 refine T.then_normal ?_
 refine T.seq ?_
 refine T.block ?_
 refine T.seq ?_
 refine T.region ?_
 refine T.move .list rfl (wants0 rfl) rfl rfl ?_
 refine T.pick [0, 1, 3, 4, 5, 6, 2] 7 rfl rfl (Nat.le_add_left _ _) (hs' := Cl p0 45 [.int .i64 o0.1, .map (some m0b), .pointer (some ⟨p0c, 0, none⟩), .int .i64 o0.2.1, .int .u64 o0.2.2.1, .int .i64 o0.2.2.2] :: Mp E64 m0b q0b :: Cl p0c 68 [.int .i64 o0c.1, .map (some m0cb), .slice A0cc q0cc.length c0cc, .bool o0c.2.1, .int .i64 o0c.2.2.1, .int .i64 o0c.2.2.2.1, .int .u64 o0c.2.2.2.2.1, .int .i64 o0c.2.2.2.2.2.1, .int .i64 o0c.2.2.2.2.2.2] :: Mp (Elt.slice E8) m0cb q0cb :: Hb 82 A0cc c0cc d0cc q0cc :: Bb 5 d0cc q0cc :: Ro E8 A1 c1 l1 :: hs) rfl ?_
 obtain ⟨r2, hg2, hr⟩ := inv_bind hr
 refine T.call .list (wants0 rfl) rfl (run_callF (vs := [_]) rfl Try.func19 rfl (by decide) rfl) (fun w hS => page_Store_Dead.c hS (o0 := (o0.1, o0.2.1, o0.2.2.1, o0.2.2.2)) (q0b := q0b) (o0c := (o0c.1, o0c.2.1, o0c.2.2.1, o0c.2.2.2.1, o0c.2.2.2.2.1, o0c.2.2.2.2.2.1, o0c.2.2.2.2.2.2)) (q0cb := q0cb) (q0cc := q0cc)  hg2) (fun x2 => ?_)
 refine T.assign .list rfl (wants0 rfl) rfl rfl ?_
 refine T.nil ?_
 refine T.then_normal ?_
 refine T.cond rfl (fun hb1 => ?_) (fun hb1 => ?_)
 ·replace hr := inv_posB hb1 hr
  refine T.seq ?_
  refine T.region ?_
  refine T.assign .list rfl (wants0 rfl) rfl rfl ?_
  refine T.assign .list rfl (wants0 rfl) rfl rfl ?_
  refine T.nil ?_
  refine T.then_normal ?_
  refine T.ret ?_
  refine T.in_ret ?_
  refine T.then_ret ?_
  obtain rfl := inv_some hr
  refine T.pick [0, 1, 2, 3, 4, 5] 7 rfl rfl (Nat.le_add_left _ _) rfl ?_
  refine T.ret2 rfl rfl rfl (fun w hS => ⟨((A0cc, c0cc), d0cc), rfl, hS⟩)
 ·replace hr := inv_negB hb1 hr
  refine T.seq ?_
  refine T.region ?_
  refine T.move .list rfl (wants0 rfl) rfl rfl ?_
  refine T.lenSlice .list rfl (wants0 rfl) rfl rfl ?_
  refine T.bin .list rfl (wants0 rfl) rfl rfl rfl rfl ?_
  refine T.assign .list rfl (wants0 rfl) rfl rfl ?_
  refine T.nil ?_
  refine T.then_normal ?_
  refine T.cond rfl (fun hb2 => ?_) (fun hb2 => ?_)
  ·replace hr := inv_posB hb2 hr
   refine T.seq ?_
   refine T.region ?_
   refine T.assign .list rfl (wants0 rfl) rfl rfl ?_
   refine T.assign .list rfl (wants0 rfl) rfl rfl ?_
   refine T.nil ?_
   refine T.then_normal ?_
   refine T.ret ?_
   refine T.in_ret ?_
   refine T.then_ret ?_
   obtain rfl := inv_some hr
   refine T.pick [0, 1, 2, 3, 4, 5] 7 rfl rfl (Nat.le_add_left _ _) rfl ?_
   refine T.ret2 rfl rfl rfl (fun w hS => ⟨((A0cc, c0cc), d0cc), rfl, hS⟩)
  ·replace hr := inv_negB hb2 hr
   refine T.seq ?_
   refine T.region ?_
   refine T.move .list rfl (wants0 rfl) rfl rfl ?_
   refine T.bin .list rfl (wants0 rfl) rfl rfl rfl rfl ?_
   refine T.assign .list rfl (wants0 rfl) rfl rfl ?_
   refine T.nil ?_
   refine T.then_normal ?_
   refine T.cond rfl (fun hb3 => ?_) (fun hb3 => ?_)
   ·replace hr := inv_posB hb3 hr
    refine T.seq ?_
    refine T.region ?_
    refine T.assign .list rfl (wants0 rfl) rfl rfl ?_
    refine T.assign .list rfl (wants0 rfl) rfl rfl ?_
    refine T.nil ?_
    refine T.then_normal ?_
    refine T.ret ?_
    refine T.in_ret ?_
    refine T.then_ret ?_
    obtain rfl := inv_some hr
    refine T.pick [0, 1, 2, 3, 4, 5] 7 rfl rfl (Nat.le_add_left _ _) rfl ?_
    refine T.ret2 rfl rfl rfl (fun w hS => ⟨((A0cc, c0cc), d0cc), rfl, hS⟩)
   ·replace hr := inv_negB hb3 hr
    refine T.skip ?_
    refine T.in_normal ?_
    refine T.then_normal ?_
    refine T.seq ?_
    refine T.seq ?_
    refine T.dStart mixed ?_
    refine T.move (.dPure (i := 0) rfl (by kernel_rfl) (fun d _ _ _ _ h => by cases d <;> exact h)) rfl (wants0 rfl) rfl rfl ?_
    refine T.nilCheck (.dPure (i := 1) rfl (by kernel_rfl) (fun d _ _ _ _ h => by cases d <;> exact h)) rfl (wants0 rfl) rfl rfl ?_
    refine T.field (.dPure (i := 2) rfl (by kernel_rfl) (fun d _ _ _ _ h => by cases d <;> exact h)) rfl (wants0 rfl) rfl rfl ?_
    refine T.move (.dPure (i := 4) rfl (by kernel_rfl) (fun d _ _ _ _ h => by cases d <;> exact h)) rfl (wants0 rfl) rfl rfl ?_
    refine T.move (.dPure (i := 5) rfl (by kernel_rfl) (fun d _ _ _ _ h => by cases d <;> exact h)) rfl (wants0 rfl) rfl rfl ?_
    refine T.dAdd 9 (fun w => w.heap[p0]? = some (.cells [.int .i64 o0.1, .map (some m0b), .pointer (some ⟨p0c, 0, none⟩), .int .i64 o0.2.1, .int .u64 o0.2.2.1, .int .i64 o0.2.2.2].toArray 45 (0, 0))) (Cl.stays 0 rfl) ?_
    refine T.valS 0 (i := 3) (.pointer (some ⟨p0c, 0, none⟩)) rfl rfl (by kernel_rfl) (by kernel_rfl) (fun d _ _ _ _ h => by cases d <;> exact h) (wants0 rfl) rfl (run_ldCl rfl rfl rfl) ?_
    obtain ⟨r3, hg3, hr⟩ := inv_bind hr
    refine T.dOnly (i := 6) (by kernel_rfl) ?_
    refine T.call (.dOne rfl (by kernel_rfl)) (wants0 rfl) rfl (run_callF (vs := [_]) rfl Try.func30 rfl (by decide) rfl) (fun w hS => page_laid.c hS (i0 := 6) rfl hg3) (fun x3 => ?_)
    refine T.dNext (phi_cons (.inr (Cl.stays 1 rfl)) phi_nil) ?_
    obtain ⟨r4, hg4, hr⟩ := inv_bind hr
    refine T.pick [3, 4, 5, 6, 0, 1, 2, 7] 8 rfl rfl (Nat.le_add_left _ _) (hs' := Cl p0c 68 [.int .i64 o0c.1, .map (some m0cb), .slice A0cc q0cc.length c0cc, .bool o0c.2.1, .int .i64 o0c.2.2.1, .int .i64 o0c.2.2.2.1, .int .u64 o0c.2.2.2.2.1, .int .i64 o0c.2.2.2.2.2.1, .int .i64 o0c.2.2.2.2.2.2] :: Mp (Elt.slice E8) m0cb q0cb :: Hb 82 A0cc c0cc d0cc q0cc :: Bb 5 d0cc q0cc :: Bf E8 5 x3.1 x3.2 r3 :: Cl p0 45 [.int .i64 o0.1, .map (some m0b), .pointer (some ⟨p0c, 0, none⟩), .int .i64 o0.2.1, .int .u64 o0.2.2.1, .int .i64 o0.2.2.2] :: Mp E64 m0b q0b :: Ro E8 A1 c1 l1 :: hs) rfl ?_
    refine T.dOnly (i := 7) (by kernel_rfl) ?_
    refine T.call (.dOne rfl (by kernel_rfl)) (wants0 rfl) rfl (run_callF (vs := [_, _, _]) rfl Try.func29 rfl (by decide) rfl) (fun w hS => disk_Disk_Write.c hS (o0 := (o0c.1, o0c.2.1, o0c.2.2.1, o0c.2.2.2.1, o0c.2.2.2.2.1, o0c.2.2.2.2.2.1, o0c.2.2.2.2.2.2)) (q0b := q0cb) (q0c := q0cc) (l2 := r3)  hg4) (fun x4 => ?_)
    refine T.dNext (phi_cons (.inr (Cl.stays 5 rfl)) phi_nil) ?_
    refine T.assign (.dPure (i := 8) rfl (by kernel_rfl) (fun d _ _ _ _ h => by cases d <;> exact h)) rfl (wants0 rfl) rfl rfl ?_
    refine T.dDone (by kernel_rfl) ?_
    refine T.then_normal ?_
    refine T.seq ?_
    refine T.region ?_
    refine T.move .list rfl (wants0 rfl) rfl rfl ?_
    refine T.bin .list rfl (wants0 rfl) rfl rfl rfl rfl ?_
    refine T.nil ?_
    refine T.then_normal ?_
    refine T.cond rfl (fun hb4 => ?_) (fun hb4 => ?_)
    ·replace hr := inv_posB hb4 hr
     refine T.seq ?_
     refine T.region ?_
     refine T.move .list rfl (wants0 rfl) rfl rfl ?_
     refine T.assign .list rfl (wants0 rfl) rfl rfl ?_
     refine T.assign .list rfl (wants0 rfl) rfl rfl ?_
     refine T.nil ?_
     refine T.then_normal ?_
     refine T.ret ?_
     refine T.then_ret ?_
     obtain rfl := inv_some hr
     refine T.pick [5, 6, 0, 1, 2, 3] 8 rfl rfl (Nat.le_add_left _ _) rfl ?_
     refine T.ret2 rfl rfl rfl (fun w hS => ⟨((x4.1.1, x4.1.2), x4.2), rfl, hS⟩)
    ·replace hr := inv_negB hb4 hr
     refine T.skip ?_
     refine T.then_normal ?_
     refine T.seq ?_
     refine T.region ?_
     refine T.move .list rfl (wants0 rfl) rfl rfl ?_
     refine T.nilCheck .list rfl (wants0 rfl) rfl rfl ?_
     refine T.field .list rfl (wants0 rfl) rfl rfl ?_
     refine T.field .list rfl (wants0 rfl) rfl rfl ?_
     refine T.load .list 5 rfl rfl (wants0 rfl) rfl rfl rfl ?_
     refine T.move .list rfl (wants0 rfl) rfl rfl ?_
     refine T.mapUpdate .list 6 (c := 1) rfl rfl (wants0 rfl) rfl rfl rfl rfl (Has.sc rfl) rfl ?_
     refine T.nil ?_
     refine T.then_normal ?_
     refine T.seq ?_
     refine T.region ?_
     refine T.move .list rfl (wants0 rfl) rfl rfl ?_
     refine T.assign .list rfl (wants0 rfl) rfl rfl ?_
     refine T.assign .list rfl (wants0 rfl) rfl rfl ?_
     refine T.nil ?_
     refine T.then_normal ?_
     refine T.ret ?_
     obtain rfl := inv_some hr
     refine T.pick [5, 6, 0, 1, 2, 3] 8 rfl rfl (Nat.le_add_left _ _) rfl ?_
     refine T.ret2 rfl rfl rfl (fun w hS => ⟨((x4.1.1, x4.1.2), x4.2), rfl, hS⟩)

noncomputable def page_Store_Get.k1 (r4 : Int) (s1 : List UInt8 × Bool) : Option (List UInt8 × Int) :=
  (if s1.2 = true then some (([] : List UInt8), 22) else chk (0 ≤ (6 : Int) ∧ (6 : Int) ≤ (IntKind.i64.wrap (6 + (IntKind.i64.wrap r4))) ∧ (IntKind.i64.wrap (6 + (IntKind.i64.wrap r4))) ≤ (IntKind.i64.wrap (6 + (IntKind.i64.wrap r4))) ∧ (IntKind.i64.wrap (6 + (IntKind.i64.wrap r4))) ≤ (s1.1.length : Int)) (some (subl s1.1 6 (IntKind.i64.wrap (6 + (IntKind.i64.wrap r4))), 0)))
noncomputable def page_Store_Get.impl (o0 : Int × Int × Int × Int) (q0b : List (Int × Int)) (o0c : Int × Bool × Int × Int × Int × Int × Int) (q0cb : List (Int × (List UInt8))) (q0cc : List (Int × List UInt8)) (a1 : Int) : Option (List UInt8 × Int) :=
  (page_Store_Dead.impl ((o0.1, o0.2.1, o0.2.2.1, o0.2.2.2)) q0b ((o0c.1, o0c.2.1, o0c.2.2.1, o0c.2.2.2.1, o0c.2.2.2.2.1, o0c.2.2.2.2.2.1, o0c.2.2.2.2.2.2)) q0cb q0cc).bind fun r1 => (if r1 = true then some (([] : List UInt8), 20) else (page_counts_is.impl o0.1 q0b a1).bind fun r2 => (if ((!r2)) = true then some (([] : List UInt8), 1) else (disk_Disk_Read.impl ((o0c.1, o0c.2.1, o0c.2.2.1, o0c.2.2.2.1, o0c.2.2.2.2.1, o0c.2.2.2.2.2.1, o0c.2.2.2.2.2.2)) q0cb q0cc a1).bind fun r3 => (if ((!(decide (r3.2 = 0)))) = true then some (([] : List UInt8), r3.2) else chk (0 ≤ (4 : Int) ∧ (4 : Int) ≤ (6 : Int) ∧ (6 : Int) ≤ (r3.1.length : Int)) ((page_small.impl (subl r3.1 4 6)).bind fun r4 => (if ((decide ((8186 : Int) < (IntKind.i64.wrap r4)))) = true then page_Store_Get.k1 r4 (r3.1, true) else chk (0 ≤ (IntKind.i64.wrap (6 + (IntKind.i64.wrap r4))) ∧ (IntKind.i64.wrap (6 + (IntKind.i64.wrap r4))) ≤ ((r3.1.length : Int)) ∧ ((r3.1.length : Int)) ≤ (r3.1.length : Int)) ((page_zero.impl (subl r3.1 (IntKind.i64.wrap (6 + (IntKind.i64.wrap r4))) ((r3.1.length : Int)))).bind fun r5 => (if r5 = true then chk (0 ≤ (4 : Int) ∧ (4 : Int) ≤ ((r3.1.length : Int)) ∧ ((r3.1.length : Int)) ≤ (r3.1.length : Int)) (chk (0 ≤ (4 : Int) ∧ (4 : Int) ≤ (r3.1.length : Int)) ((wire_Sum.impl (subl r3.1 4 ((r3.1.length : Int)))).bind fun r6 => (page_small.impl (subl r3.1 0 4)).bind fun r7 => page_Store_Get.k1 r4 (r3.1, (!(decide (((IntKind.u64.wrap r6)) = r7)))))) else page_Store_Get.k1 r4 (r3.1, true))))))))
set_option maxRecDepth 100000 in
set_option maxHeartbeats 4000000 in
theorem page_Store_Get.c {B : World} {hs : List MP} {w : World} {p0 : Nat} {o0 : Int × Int × Int × Int} {m0b : Nat} {q0b : List (Int × Int)} {p0c : Nat} {o0c : Int × Bool × Int × Int × Int × Int × Int} {m0cb : Nat} {q0cb : List (Int × (List UInt8))} {c0cc : Nat} {A0cc : Option Addr} {d0cc : Ads} {q0cc : List (Int × List UInt8)} {a1 : Int} (hS : St B (Cl p0 45 [.int .i64 o0.1, .map (some m0b), .pointer (some ⟨p0c, 0, none⟩), .int .i64 o0.2.1, .int .u64 o0.2.2.1, .int .i64 o0.2.2.2] :: Mp E64 m0b q0b :: Cl p0c 68 [.int .i64 o0c.1, .map (some m0cb), .slice A0cc q0cc.length c0cc, .bool o0c.2.1, .int .i64 o0c.2.2.1, .int .i64 o0c.2.2.2.1, .int .u64 o0c.2.2.2.2.1, .int .i64 o0c.2.2.2.2.2.1, .int .i64 o0c.2.2.2.2.2.2] :: Mp (Elt.slice E8) m0cb q0cb :: Hb 82 A0cc c0cc d0cc q0cc :: Bb 5 d0cc q0cc :: hs) w) {r : List UInt8 × Int} (hr : page_Store_Get.impl o0 q0b o0c q0cb q0cc a1 = some r) :
    Calls Try.prog 13 #[.pointer (some ⟨p0, 0, none⟩), .int .i64 a1] w fun e w' => ∃ x : (Option Addr × Nat), e = .returned (.tuple #[.slice x.1 r.1.length x.2, .int .i64 r.2]) ∧ St B (Ro E8 x.1 x.2 r.1 :: Cl p0 45 [.int .i64 o0.1, .map (some m0b), .pointer (some ⟨p0c, 0, none⟩), .int .i64 o0.2.1, .int .u64 o0.2.2.1, .int .i64 o0.2.2.2] :: Mp E64 m0b q0b :: Cl p0c 68 [.int .i64 o0c.1, .map (some m0cb), .slice A0cc q0cc.length c0cc, .bool o0c.2.1, .int .i64 o0c.2.2.1, .int .i64 o0c.2.2.2.1, .int .u64 o0c.2.2.2.2.1, .int .i64 o0c.2.2.2.2.2.1, .int .i64 o0c.2.2.2.2.2.2] :: Mp (Elt.slice E8) m0cb q0cb :: Hb 82 A0cc c0cc d0cc q0cc :: Bb 5 d0cc q0cc :: hs) w' := by
 unfold page_Store_Get.impl at hr
 refine calls_T Try.func13 rfl rfl rfl hS ?_
 refine T.seq ?_
 refine T.region ?_
 refine T.assign .list rfl (wants0 rfl) rfl rfl ?_
 refine T.assign .list rfl (wants0 rfl) rfl rfl ?_
 refine T.nil ?_
 refine T.then_normal ?_
 refine T.seq ?_
 refine T.block ?_
 refine T.seq ?_
 refine T.region ?_
 refine T.move .list rfl (wants0 rfl) rfl rfl ?_
 refine T.pick [0, 1, 2, 3, 4, 5] 6 rfl rfl (Nat.le_add_left _ _) (hs' := Cl p0 45 [.int .i64 o0.1, .map (some m0b), .pointer (some ⟨p0c, 0, none⟩), .int .i64 o0.2.1, .int .u64 o0.2.2.1, .int .i64 o0.2.2.2] :: Mp E64 m0b q0b :: Cl p0c 68 [.int .i64 o0c.1, .map (some m0cb), .slice A0cc q0cc.length c0cc, .bool o0c.2.1, .int .i64 o0c.2.2.1, .int .i64 o0c.2.2.2.1, .int .u64 o0c.2.2.2.2.1, .int .i64 o0c.2.2.2.2.2.1, .int .i64 o0c.2.2.2.2.2.2] :: Mp (Elt.slice E8) m0cb q0cb :: Hb 82 A0cc c0cc d0cc q0cc :: Bb 5 d0cc q0cc :: hs) rfl ?_
 obtain ⟨r1, hg1, hr⟩ := inv_bind hr
 refine T.call .list (wants0 rfl) rfl (run_callF (vs := [_]) rfl Try.func19 rfl (by decide) rfl) (fun w hS => page_Store_Dead.c hS (o0 := (o0.1, o0.2.1, o0.2.2.1, o0.2.2.2)) (q0b := q0b) (o0c := (o0c.1, o0c.2.1, o0c.2.2.1, o0c.2.2.2.1, o0c.2.2.2.2.1, o0c.2.2.2.2.2.1, o0c.2.2.2.2.2.2)) (q0cb := q0cb) (q0cc := q0cc)  hg1) (fun x1 => ?_)
 refine T.assign .list rfl (wants0 rfl) rfl rfl ?_
 refine T.nil ?_
 refine T.then_normal ?_
 refine T.cond rfl (fun hb1 => ?_) (fun hb1 => ?_)
 ·replace hr := inv_posB hb1 hr
  refine T.seq ?_
  refine T.region ?_
  refine T.assign .list rfl (wants0 rfl) rfl rfl ?_
  refine T.assign .list rfl (wants0 rfl) rfl rfl ?_
  refine T.nil ?_
  refine T.then_normal ?_
  refine T.ret ?_
  refine T.in_ret ?_
  refine T.then_ret ?_
  obtain rfl := inv_some hr
  refine T.nilRo E8 none 0 ?_
  refine T.pick [0, 1, 2, 3, 4, 5, 6] 7 rfl rfl (Nat.le_add_left _ _) rfl ?_
  refine T.ret2 rfl rfl rfl (fun w hS => ⟨(none, 0), rfl, hS⟩)
 ·replace hr := inv_negB hb1 hr
  refine T.seq ?_
  refine T.region ?_
  refine T.move .list rfl (wants0 rfl) rfl rfl ?_
  refine T.nilCheck .list rfl (wants0 rfl) rfl rfl ?_
  refine T.field .list rfl (wants0 rfl) rfl rfl ?_
  refine T.move .list rfl (wants0 rfl) rfl rfl ?_
  refine T.pick [0, 1, 2, 3, 4, 5] 6 rfl rfl (Nat.le_add_left _ _) (hs' := Cl p0 45 [.int .i64 o0.1, .map (some m0b), .pointer (some ⟨p0c, 0, none⟩), .int .i64 o0.2.1, .int .u64 o0.2.2.1, .int .i64 o0.2.2.2] :: Mp E64 m0b q0b :: Cl p0c 68 [.int .i64 o0c.1, .map (some m0cb), .slice A0cc q0cc.length c0cc, .bool o0c.2.1, .int .i64 o0c.2.2.1, .int .i64 o0c.2.2.2.1, .int .u64 o0c.2.2.2.2.1, .int .i64 o0c.2.2.2.2.2.1, .int .i64 o0c.2.2.2.2.2.2] :: Mp (Elt.slice E8) m0cb q0cb :: Hb 82 A0cc c0cc d0cc q0cc :: Bb 5 d0cc q0cc :: hs) rfl ?_
  obtain ⟨r2, hg2, hr⟩ := inv_bind hr
  refine T.call .list (wants0 rfl) rfl (run_callF (vs := [_, _]) rfl Try.func34 rfl (by decide) rfl) (fun w hS => page_counts_is.c hS (T0 := 45) (rest0 := [.pointer (some ⟨p0c, 0, none⟩), .int .i64 o0.2.1, .int .u64 o0.2.2.1, .int .i64 o0.2.2.2]) (o0 := o0.1) (q0b := q0b)  hg2) (fun x2 => ?_)
  refine T.not .list rfl (wants0 rfl) rfl rfl ?_
  refine T.assign .list rfl (wants0 rfl) rfl rfl ?_
  refine T.nil ?_
  refine T.then_normal ?_
  refine T.cond rfl (fun hb2 => ?_) (fun hb2 => ?_)
  ·replace hr := inv_posB hb2 hr
   refine T.seq ?_
   refine T.region ?_
   refine T.assign .list rfl (wants0 rfl) rfl rfl ?_
   refine T.assign .list rfl (wants0 rfl) rfl rfl ?_
   refine T.nil ?_
   refine T.then_normal ?_
   refine T.ret ?_
   refine T.in_ret ?_
   refine T.then_ret ?_
   obtain rfl := inv_some hr
   refine T.nilRo E8 none 0 ?_
   refine T.pick [0, 1, 2, 3, 4, 5, 6] 7 rfl rfl (Nat.le_add_left _ _) rfl ?_
   refine T.ret2 rfl rfl rfl (fun w hS => ⟨(none, 0), rfl, hS⟩)
  ·replace hr := inv_negB hb2 hr
   refine T.skip ?_
   refine T.in_normal ?_
   refine T.then_normal ?_
   refine T.seq ?_
   refine T.region ?_
   refine T.move .list rfl (wants0 rfl) rfl rfl ?_
   refine T.nilCheck .list rfl (wants0 rfl) rfl rfl ?_
   refine T.field .list rfl (wants0 rfl) rfl rfl ?_
   refine T.load .list 0 rfl rfl (wants0 rfl) rfl rfl rfl ?_
   refine T.move .list rfl (wants0 rfl) rfl rfl ?_
   refine T.pick [2, 3, 4, 5, 0, 1] 6 rfl rfl (Nat.le_add_left _ _) (hs' := Cl p0c 68 [.int .i64 o0c.1, .map (some m0cb), .slice A0cc q0cc.length c0cc, .bool o0c.2.1, .int .i64 o0c.2.2.1, .int .i64 o0c.2.2.2.1, .int .u64 o0c.2.2.2.2.1, .int .i64 o0c.2.2.2.2.2.1, .int .i64 o0c.2.2.2.2.2.2] :: Mp (Elt.slice E8) m0cb q0cb :: Hb 82 A0cc c0cc d0cc q0cc :: Bb 5 d0cc q0cc :: Cl p0 45 [.int .i64 o0.1, .map (some m0b), .pointer (some ⟨p0c, 0, none⟩), .int .i64 o0.2.1, .int .u64 o0.2.2.1, .int .i64 o0.2.2.2] :: Mp E64 m0b q0b :: hs) rfl ?_
   obtain ⟨r3, hg3, hr⟩ := inv_bind hr
   refine T.call .list (wants0 rfl) rfl (run_callF (vs := [_, _]) rfl Try.func26 rfl (by decide) rfl) (fun w hS => disk_Disk_Read.c hS (o0 := (o0c.1, o0c.2.1, o0c.2.2.1, o0c.2.2.2.1, o0c.2.2.2.2.1, o0c.2.2.2.2.2.1, o0c.2.2.2.2.2.2)) (q0b := q0cb) (q0c := q0cc)  hg3) (fun x3 => ?_)
   refine T.move .list rfl (wants0 rfl) rfl rfl ?_
   refine T.extract .list rfl (wants0 rfl) rfl rfl rfl ?_
   refine T.extract .list rfl (wants0 rfl) rfl rfl rfl ?_
   refine T.assign .list rfl (wants0 rfl) rfl rfl ?_
   refine T.assign .list rfl (wants0 rfl) rfl rfl ?_
   refine T.nil ?_
   refine T.then_normal ?_
   refine T.seq ?_
   refine T.seq ?_
   refine T.region ?_
   refine T.move .list rfl (wants0 rfl) rfl rfl ?_
   refine T.bin .list rfl (wants0 rfl) rfl rfl rfl rfl ?_
   refine T.nil ?_
   refine T.then_normal ?_
   refine T.cond rfl (fun hb3 => ?_) (fun hb3 => ?_)
   ·replace hr := inv_posB hb3 hr
    refine T.seq ?_
    refine T.region ?_
    refine T.move .list rfl (wants0 rfl) rfl rfl ?_
    refine T.assign .list rfl (wants0 rfl) rfl rfl ?_
    refine T.assign .list rfl (wants0 rfl) rfl rfl ?_
    refine T.nil ?_
    refine T.then_normal ?_
    refine T.ret ?_
    refine T.then_ret ?_
    obtain rfl := inv_some hr
    refine T.nilRo E8 none 0 ?_
    refine T.pick [0, 6, 7, 2, 3, 4, 5] 8 rfl rfl (Nat.le_add_left _ _) rfl ?_
    refine T.ret2 rfl rfl rfl (fun w hS => ⟨(none, 0), rfl, hS⟩)
   ·replace hr := inv_negB hb3 hr
    refine T.skip ?_
    refine T.then_normal ?_
    refine T.seq ?_
    refine T.region ?_
    refine T.move .list rfl (wants0 rfl) rfl rfl ?_
    obtain ⟨hc1, hr⟩ := inv_chk hr
    refine T.cutBf .list 0 rfl rfl rfl (wants0 rfl) rfl rfl (.inr ⟨_, _, rfl, rfl⟩) (.inr ⟨_, _, rfl, rfl⟩) hc1.1 hc1.2.1 hc1.2.2 ?_
    obtain ⟨r4, hg4, hr⟩ := inv_bind hr
    refine T.call .list (wants0 rfl) rfl (run_callF (vs := [_]) rfl Try.func35 rfl (by decide) rfl) (fun w hS => (page_small.c (St.borrow (ros := [Ro E8 ((cutA x3.1 x3.2 (4 : Int) 1)) ((x3.2 - (4 : Int).toNat)) (subl r3.1 4 6)]) (Ros.cons (hS.roCut 0 (a := 4) (b := 6) (size := 1) rfl rfl rfl hc1) Ros.nil)) (i0 := 0) rfl hg4).mono fun e w' ⟨x, he, h1⟩ => ⟨x, he, hS.unborrow (post := []) h1 Frees.nil⟩) (fun x4 => ?_)
    refine T.conv .list rfl (wants0 rfl) rfl rfl rfl ?_
    refine T.assign .list rfl (wants0 rfl) rfl rfl ?_
    refine T.nil ?_
    refine T.then_normal ?_
    refine T.seq ?_
    refine T.seqJ (fun (s1 : List UInt8 × Bool) (x5 : (Option Addr × Nat)) => [(6, .slice x5.1 s1.1.length x5.2), (8, .int .i64 (IntKind.i64.wrap r4)), (54, .bool s1.2)]) (fun s1 x5 => Ro E8 x5.1 x5.2 s1.1 :: Cl p0c 68 [.int .i64 o0c.1, .map (some m0cb), .slice A0cc q0cc.length c0cc, .bool o0c.2.1, .int .i64 o0c.2.2.1, .int .i64 o0c.2.2.2.1, .int .u64 o0c.2.2.2.2.1, .int .i64 o0c.2.2.2.2.2.1, .int .i64 o0c.2.2.2.2.2.2] :: Mp (Elt.slice E8) m0cb q0cb :: Hb 82 A0cc c0cc d0cc q0cc :: Bb 5 d0cc q0cc :: Cl p0 45 [.int .i64 o0.1, .map (some m0b), .pointer (some ⟨p0c, 0, none⟩), .int .i64 o0.2.1, .int .u64 o0.2.2.1, .int .i64 o0.2.2.2] :: Mp E64 m0b q0b :: hs) (fun s1 => page_Store_Get.k1 r4 s1 = some r) (fun s1 x5 hk1 => ?_) (fun J1 => ?_)
    ·unfold page_Store_Get.k1 at hk1
     refine T.cond rfl (fun hb4 => ?_) (fun hb4 => ?_)
     ·replace hk1 := inv_posB hb4 hk1
      refine T.seq ?_
      refine T.region ?_
      refine T.assign .list rfl (wants0 rfl) rfl rfl ?_
      refine T.assign .list rfl (wants0 rfl) rfl rfl ?_
      refine T.nil ?_
      refine T.then_normal ?_
      refine T.ret ?_
      refine T.then_ret ?_
      obtain rfl := inv_some hk1
      refine T.nilRo E8 none 0 ?_
      refine T.pick [0, 6, 7, 2, 3, 4, 5] 8 rfl rfl (Nat.le_add_left _ _) rfl ?_
      refine T.ret2 rfl rfl rfl (fun w hS => ⟨(none, 0), rfl, hS⟩)
     ·replace hk1 := inv_negB hb4 hk1
      refine T.skip ?_
      refine T.then_normal ?_
      refine T.seq ?_
      refine T.region ?_
      refine T.move .list rfl (wants0 rfl) rfl rfl ?_
      refine T.move .list rfl (wants0 rfl) rfl rfl ?_
      refine T.bin .list rfl (wants0 rfl) rfl rfl rfl rfl ?_
      refine T.move .list rfl (wants0 rfl) rfl rfl ?_
      refine T.bin .list rfl (wants0 rfl) rfl rfl rfl rfl ?_
      obtain ⟨hc2, hk1⟩ := inv_chk hk1
      refine T.cut3 .list 0 rfl rfl rfl (wants0 rfl) rfl rfl (.inr ⟨_, _, rfl, rfl⟩) ⟨_, rfl⟩ ⟨_, rfl⟩ hc2 ?_
      refine T.assign .list rfl (wants0 rfl) rfl rfl ?_
      refine T.assign .list rfl (wants0 rfl) rfl rfl ?_
      refine T.nil ?_
      refine T.then_normal ?_
      refine T.ret ?_
      obtain rfl := inv_some hk1
      refine T.pick [0, 6, 7, 2, 3, 4, 5] 8 rfl rfl (Nat.le_add_left _ _) rfl ?_
      refine T.ret2 rfl rfl rfl (fun w hS => ⟨((cutA x5.1 (IntKind.i64.wrap (6 + (IntKind.i64.wrap r4)) : Int).toNat (6 : Int) 1), ((IntKind.i64.wrap (6 + (IntKind.i64.wrap r4)) : Int).toNat - (6 : Int).toNat)), rfl, hS⟩)
    ·refine T.plan [(0, 0), (1, 0), (2, 0), (3, 0), (4, 0), (5, 0), (6, 0), (7, 2), (8, 0), (9, 0), (10, 0), (11, 0), (12, 0), (15, 0), (16, 0), (13, 2), (14, 0), (17, 2), (18, 0), (19, 0)] mixed (by kernel_rfl) (by kernel_rfl) rfl (fun d _ _ _ _ h => by cases d <;> exact h) ?_
     refine T.move (.plan rfl) rfl (wants0 rfl) rfl rfl ?_
     refine T.bin (.plan rfl) rfl (wants0 rfl) rfl rfl rfl rfl ?_
     refine T.move (.plan rfl) rfl (wants0 rfl) rfl rfl ?_
     refine T.bool (b := (decide ((8186 : Int) < (IntKind.i64.wrap r4)))) (fun hb5 => ?_) (fun hb5 => ?_)
     ·replace hr := inv_posB hb5 hr
      refine T.leave (.plan rfl) (wantsNot rfl rfl rfl hb5) rfl ?_
      refine T.leave (.plan rfl) (wantsNot rfl rfl rfl hb5) rfl ?_
      refine T.leave (.plan rfl) (wantsNot rfl rfl rfl hb5) rfl ?_
      refine T.leave (.plan rfl) (wantsNot rfl rfl rfl hb5) rfl ?_
      refine T.leave (.plan rfl) (wantsNot rfl rfl rfl hb5) rfl ?_
      refine T.leave (.plan rfl) (wantsNot rfl rfl rfl hb5) rfl ?_
      refine T.pickT (.plan rfl) rfl (wants0 rfl) rfl rfl hb5 rfl ?_
      refine T.move (.plan rfl) rfl (wants0 rfl) rfl rfl ?_
      refine T.leave (.plan rfl) (wantsNot rfl rfl rfl rfl) rfl ?_
      refine T.leave (.plan rfl) (wantsNot rfl rfl rfl rfl) rfl ?_
      refine T.leave (.plan rfl) (wantsNot rfl rfl rfl rfl) rfl ?_
      refine T.leave (.plan rfl) (wantsNot rfl rfl rfl rfl) rfl ?_
      refine T.leave (.plan rfl) (wantsNot rfl rfl rfl rfl) rfl ?_
      refine T.leave (.plan rfl) (wantsNot rfl rfl rfl rfl) rfl ?_
      refine T.leave (.plan rfl) (wantsNot rfl rfl rfl rfl) rfl ?_
      refine T.leave (.plan rfl) (wantsNot rfl rfl rfl rfl) rfl ?_
      refine T.pickT (.plan rfl) rfl (wants0 rfl) rfl rfl rfl rfl ?_
      refine T.planEnd ?_
      refine T.then_normal ?_
      refine T.freeze 0 rfl rfl rfl ?_
      exact T.le (EnvLe.cons rfl (EnvLe.cons rfl (EnvLe.cons rfl EnvLe.nil))) (T.pick [0, 1, 2, 3, 4, 5, 6] 7 rfl rfl (Nat.le_add_left _ _) rfl (J1 (r3.1, true) (x3.1, x3.2) hr))
     ·replace hr := inv_negB hb5 hr
      refine T.move (.plan rfl) rfl (wants1 rfl rfl rfl hb5) rfl rfl ?_
      refine T.move (.plan rfl) rfl (wants1 rfl rfl rfl hb5) rfl rfl ?_
      refine T.bin (.plan rfl) rfl (wants1 rfl rfl rfl hb5) rfl rfl rfl rfl ?_
      obtain ⟨hc3, hr⟩ := inv_chk hr
      refine T.cutBf (.plan rfl) 0 rfl rfl rfl (wants1 rfl rfl rfl hb5) rfl rfl (.inr ⟨_, _, rfl, rfl⟩) (.inl ⟨rfl, rfl⟩) hc3.1 hc3.2.1 hc3.2.2 ?_
      obtain ⟨r5, hg5, hr⟩ := inv_bind hr
      refine T.call (.plan rfl) (wants1 rfl rfl rfl hb5) rfl (run_callF (vs := [_]) rfl Try.func36 rfl (by decide) rfl) (fun w hS => (page_zero.c (St.borrow (ros := [Ro E8 ((cutA x3.1 x3.2 (IntKind.i64.wrap (6 + (IntKind.i64.wrap r4))) 1)) ((x3.2 - (IntKind.i64.wrap (6 + (IntKind.i64.wrap r4)) : Int).toNat)) (subl r3.1 (IntKind.i64.wrap (6 + (IntKind.i64.wrap r4))) ((r3.1.length : Int)))]) (Ros.cons (hS.roCut 0 (a := IntKind.i64.wrap (6 + (IntKind.i64.wrap r4))) (b := (r3.1.length : Int)) (size := 1) rfl rfl rfl hc3) Ros.nil)) (i0 := 0) rfl hg5).mono fun e w' ⟨x, he, h1⟩ => ⟨x, he, hS.unborrow (post := []) h1 Frees.nil⟩) (fun x6 => ?_)
      refine T.not (.plan rfl) rfl (wants1 rfl rfl rfl hb5) rfl rfl ?_
      refine T.pickF (.plan rfl) rfl (wants0 rfl) rfl rfl hb5 rfl ?_
      refine T.move (.plan rfl) rfl (wants0 rfl) rfl rfl ?_
      refine T.bool (b := r5) (fun hb6 => ?_) (fun hb6 => ?_)
      ·replace hr := inv_posB hb6 hr
       refine T.move (.plan rfl) rfl (wants1 rfl rfl rfl (not_t hb6)) rfl rfl ?_
       obtain ⟨hc4, hr⟩ := inv_chk hr
       refine T.cutBf (.plan rfl) 0 rfl rfl rfl (wants1 rfl rfl rfl (not_t hb6)) rfl rfl (.inr ⟨_, _, rfl, rfl⟩) (.inl ⟨rfl, rfl⟩) hc4.1 hc4.2.1 hc4.2.2 ?_
       refine T.move (.plan rfl) rfl (wants1 rfl rfl rfl (not_t hb6)) rfl rfl ?_
       obtain ⟨hc5, hr⟩ := inv_chk hr
       refine T.cut0Bf (.plan rfl) 0 rfl rfl rfl (wants1 rfl rfl rfl (not_t hb6)) rfl rfl (.inl rfl) (.inr ⟨_, _, rfl, rfl⟩) hc5.1 hc5.2 ?_
       obtain ⟨r6, hg6, hr⟩ := inv_bind hr
       refine T.call (.plan rfl) (wants1 rfl rfl rfl (not_t hb6)) rfl (run_callF (vs := [_]) rfl Try.func37 rfl (by decide) rfl) (fun w hS => (wire_Sum.c (St.borrow (ros := [Ro E8 ((cutA x3.1 x3.2 (4 : Int) 1)) ((x3.2 - (4 : Int).toNat)) (subl r3.1 4 ((r3.1.length : Int)))]) (Ros.cons (hS.roCut 0 (a := 4) (b := (r3.1.length : Int)) (size := 1) rfl rfl rfl hc4) Ros.nil)) (i0 := 0) rfl hg6).mono fun e w' ⟨x, he, h1⟩ => ⟨x, he, hS.unborrow (post := []) h1 Frees.nil⟩) (fun x7 => ?_)
       refine T.conv (.plan rfl) rfl (wants1 rfl rfl rfl (not_t hb6)) rfl rfl rfl ?_
       refine T.freeze 0 rfl rfl rfl ?_
       refine T.viewRo 0 (b := 4) rfl ?_
       obtain ⟨r7, hg7, hr⟩ := inv_bind hr
       refine T.call (.plan rfl) (wants1 rfl rfl rfl (not_t hb6)) rfl (run_callF (vs := [_]) rfl Try.func35 rfl (by decide) rfl) (fun w hS => page_small.c hS (i0 := 0) rfl hg7) (fun x8 => ?_)
       refine T.bin (.plan rfl) rfl (wants1 rfl rfl rfl (not_t hb6)) rfl rfl rfl rfl ?_
       refine T.pickF (.plan rfl) rfl (wants0 rfl) rfl rfl (not_t hb6) rfl ?_
       refine T.planEnd ?_
       refine T.then_normal ?_
       exact T.le (EnvLe.cons rfl (EnvLe.cons rfl (EnvLe.cons rfl EnvLe.nil))) (T.pick [1, 2, 3, 4, 5, 6, 7] 8 rfl rfl (Nat.le_add_left _ _) rfl (J1 (r3.1, (!(decide (((IntKind.u64.wrap r6)) = r7)))) (x3.1, x3.2) hr))
      ·replace hr := inv_negB hb6 hr
       refine T.leave (.plan rfl) (wantsNot rfl rfl rfl (not_f hb6)) rfl ?_
       refine T.leave (.plan rfl) (wantsNot rfl rfl rfl (not_f hb6)) rfl ?_
       refine T.leave (.plan rfl) (wantsNot rfl rfl rfl (not_f hb6)) rfl ?_
       refine T.leave (.plan rfl) (wantsNot rfl rfl rfl (not_f hb6)) rfl ?_
       refine T.leave (.plan rfl) (wantsNot rfl rfl rfl (not_f hb6)) rfl ?_
       refine T.leave (.plan rfl) (wantsNot rfl rfl rfl (not_f hb6)) rfl ?_
       refine T.leave (.plan rfl) (wantsNot rfl rfl rfl (not_f hb6)) rfl ?_
       refine T.leave (.plan rfl) (wantsNot rfl rfl rfl (not_f hb6)) rfl ?_
       refine T.pickT (.plan rfl) rfl (wants0 rfl) rfl rfl (not_f hb6) rfl ?_
       refine T.planEnd ?_
       refine T.then_normal ?_
       refine T.freeze 0 rfl rfl rfl ?_
       exact T.le (EnvLe.cons rfl (EnvLe.cons rfl (EnvLe.cons rfl EnvLe.nil))) (T.pick [0, 1, 2, 3, 4, 5, 6] 7 rfl rfl (Nat.le_add_left _ _) rfl (J1 (r3.1, true) (x3.1, x3.2) hr))

noncomputable def page_Store_Free.impl (o0 : Int × Int × Int × Int) (q0b : List (Int × Int)) (o0c : Int × Bool × Int × Int × Int × Int × Int) (q0cb : List (Int × (List UInt8))) (q0cc : List (Int × List UInt8)) (a1 : Int) : Option (Int × (List (Int × Int))) :=
  (page_Store_Dead.impl ((o0.1, o0.2.1, o0.2.2.1, o0.2.2.2)) q0b ((o0c.1, o0c.2.1, o0c.2.2.1, o0c.2.2.2.1, o0c.2.2.2.2.1, o0c.2.2.2.2.2.1, o0c.2.2.2.2.2.2)) q0cb q0cc).bind fun r1 => (if r1 = true then some (20, q0b) else (if ((!(decide (((((mget q0b a1).getD 0))) = 1)))) = true then some (1, q0b) else some (0, (mset q0b a1 2))))
set_option maxRecDepth 100000 in
set_option maxHeartbeats 4000000 in
theorem page_Store_Free.c {B : World} {hs : List MP} {w : World} {p0 : Nat} {o0 : Int × Int × Int × Int} {m0b : Nat} {q0b : List (Int × Int)} {p0c : Nat} {o0c : Int × Bool × Int × Int × Int × Int × Int} {m0cb : Nat} {q0cb : List (Int × (List UInt8))} {c0cc : Nat} {A0cc : Option Addr} {d0cc : Ads} {q0cc : List (Int × List UInt8)} {a1 : Int} (hS : St B (Cl p0 45 [.int .i64 o0.1, .map (some m0b), .pointer (some ⟨p0c, 0, none⟩), .int .i64 o0.2.1, .int .u64 o0.2.2.1, .int .i64 o0.2.2.2] :: Mp E64 m0b q0b :: Cl p0c 68 [.int .i64 o0c.1, .map (some m0cb), .slice A0cc q0cc.length c0cc, .bool o0c.2.1, .int .i64 o0c.2.2.1, .int .i64 o0c.2.2.2.1, .int .u64 o0c.2.2.2.2.1, .int .i64 o0c.2.2.2.2.2.1, .int .i64 o0c.2.2.2.2.2.2] :: Mp (Elt.slice E8) m0cb q0cb :: Hb 82 A0cc c0cc d0cc q0cc :: Bb 5 d0cc q0cc :: hs) w) {r : Int × (List (Int × Int))} (hr : page_Store_Free.impl o0 q0b o0c q0cb q0cc a1 = some r) :
    Calls Try.prog 11 #[.pointer (some ⟨p0, 0, none⟩), .int .i64 a1] w fun e w' => ∃ x : Unit, e = .returned (.int .i64 r.1) ∧ St B (Cl p0 45 [.int .i64 o0.1, .map (some m0b), .pointer (some ⟨p0c, 0, none⟩), .int .i64 o0.2.1, .int .u64 o0.2.2.1, .int .i64 o0.2.2.2] :: Mp E64 m0b r.2 :: Cl p0c 68 [.int .i64 o0c.1, .map (some m0cb), .slice A0cc q0cc.length c0cc, .bool o0c.2.1, .int .i64 o0c.2.2.1, .int .i64 o0c.2.2.2.1, .int .u64 o0c.2.2.2.2.1, .int .i64 o0c.2.2.2.2.2.1, .int .i64 o0c.2.2.2.2.2.2] :: Mp (Elt.slice E8) m0cb q0cb :: Hb 82 A0cc c0cc d0cc q0cc :: Bb 5 d0cc q0cc :: hs) w' := by
 unfold page_Store_Free.impl at hr
 refine calls_T Try.func11 rfl rfl rfl hS ?_
 refine T.seq ?_
 refine T.region ?_
 refine T.assign .list rfl (wants0 rfl) rfl rfl ?_
 refine T.nil ?_
 refine T.then_normal ?_
 refine T.seq ?_
 refine T.block ?_
 refine T.seq ?_
 refine T.region ?_
 refine T.move .list rfl (wants0 rfl) rfl rfl ?_
 refine T.pick [0, 1, 2, 3, 4, 5] 6 rfl rfl (Nat.le_add_left _ _) (hs' := Cl p0 45 [.int .i64 o0.1, .map (some m0b), .pointer (some ⟨p0c, 0, none⟩), .int .i64 o0.2.1, .int .u64 o0.2.2.1, .int .i64 o0.2.2.2] :: Mp E64 m0b q0b :: Cl p0c 68 [.int .i64 o0c.1, .map (some m0cb), .slice A0cc q0cc.length c0cc, .bool o0c.2.1, .int .i64 o0c.2.2.1, .int .i64 o0c.2.2.2.1, .int .u64 o0c.2.2.2.2.1, .int .i64 o0c.2.2.2.2.2.1, .int .i64 o0c.2.2.2.2.2.2] :: Mp (Elt.slice E8) m0cb q0cb :: Hb 82 A0cc c0cc d0cc q0cc :: Bb 5 d0cc q0cc :: hs) rfl ?_
 obtain ⟨r1, hg1, hr⟩ := inv_bind hr
 refine T.call .list (wants0 rfl) rfl (run_callF (vs := [_]) rfl Try.func19 rfl (by decide) rfl) (fun w hS => page_Store_Dead.c hS (o0 := (o0.1, o0.2.1, o0.2.2.1, o0.2.2.2)) (q0b := q0b) (o0c := (o0c.1, o0c.2.1, o0c.2.2.1, o0c.2.2.2.1, o0c.2.2.2.2.1, o0c.2.2.2.2.2.1, o0c.2.2.2.2.2.2)) (q0cb := q0cb) (q0cc := q0cc)  hg1) (fun x1 => ?_)
 refine T.assign .list rfl (wants0 rfl) rfl rfl ?_
 refine T.nil ?_
 refine T.then_normal ?_
 refine T.cond rfl (fun hb1 => ?_) (fun hb1 => ?_)
 ·replace hr := inv_posB hb1 hr
  refine T.seq ?_
  refine T.region ?_
  refine T.assign .list rfl (wants0 rfl) rfl rfl ?_
  refine T.nil ?_
  refine T.then_normal ?_
  refine T.ret ?_
  refine T.in_ret ?_
  refine T.then_ret ?_
  obtain rfl := inv_some hr
  refine T.pick [0, 1, 2, 3, 4, 5] 6 rfl rfl (Nat.le_add_left _ _) rfl ?_
  refine T.ret1 rfl rfl (fun w hS => ⟨(), rfl, hS⟩)
 ·replace hr := inv_negB hb1 hr
  refine T.seq ?_
  refine T.region ?_
  refine T.move .list rfl (wants0 rfl) rfl rfl ?_
  refine T.nilCheck .list rfl (wants0 rfl) rfl rfl ?_
  refine T.field .list rfl (wants0 rfl) rfl rfl ?_
  refine T.field .list rfl (wants0 rfl) rfl rfl ?_
  refine T.load .list 0 rfl rfl (wants0 rfl) rfl rfl rfl ?_
  refine T.move .list rfl (wants0 rfl) rfl rfl ?_
  refine T.lookup .list 1 (d := 0) Sh.sc (fun _ => rfl) rfl rfl (wants0 rfl) rfl rfl rfl (v := fun _ => .int .i64 (((mget q0b a1).getD 0))) (hs' := fun _ => Cl p0 45 [.int .i64 o0.1, .map (some m0b), .pointer (some ⟨p0c, 0, none⟩), .int .i64 o0.2.1, .int .u64 o0.2.2.1, .int .i64 o0.2.2.2] :: Mp E64 m0b q0b :: Cl p0c 68 [.int .i64 o0c.1, .map (some m0cb), .slice A0cc q0cc.length c0cc, .bool o0c.2.1, .int .i64 o0c.2.2.1, .int .i64 o0c.2.2.2.1, .int .u64 o0c.2.2.2.2.1, .int .i64 o0c.2.2.2.2.2.1, .int .i64 o0c.2.2.2.2.2.2] :: Mp (Elt.slice E8) m0cb q0cb :: Hb 82 A0cc c0cc d0cc q0cc :: Bb 5 d0cc q0cc :: hs) (fun _ => rfl) (fun _ => rfl) (fun _ => ?_)
  refine T.bin .list rfl (wants0 rfl) rfl rfl rfl rfl ?_
  refine T.assign .list rfl (wants0 rfl) rfl rfl ?_
  refine T.nil ?_
  refine T.then_normal ?_
  refine T.cond rfl (fun hb2 => ?_) (fun hb2 => ?_)
  ·replace hr := inv_posB hb2 hr
   refine T.seq ?_
   refine T.region ?_
   refine T.assign .list rfl (wants0 rfl) rfl rfl ?_
   refine T.nil ?_
   refine T.then_normal ?_
   refine T.ret ?_
   refine T.in_ret ?_
   refine T.then_ret ?_
   obtain rfl := inv_some hr
   refine T.pick [0, 1, 2, 3, 4, 5] 6 rfl rfl (Nat.le_add_left _ _) rfl ?_
   refine T.ret1 rfl rfl (fun w hS => ⟨(), rfl, hS⟩)
  ·replace hr := inv_negB hb2 hr
   refine T.skip ?_
   refine T.in_normal ?_
   refine T.then_normal ?_
   refine T.seq ?_
   refine T.region ?_
   refine T.move .list rfl (wants0 rfl) rfl rfl ?_
   refine T.nilCheck .list rfl (wants0 rfl) rfl rfl ?_
   refine T.field .list rfl (wants0 rfl) rfl rfl ?_
   refine T.field .list rfl (wants0 rfl) rfl rfl ?_
   refine T.load .list 0 rfl rfl (wants0 rfl) rfl rfl rfl ?_
   refine T.move .list rfl (wants0 rfl) rfl rfl ?_
   refine T.mapUpdate .list 1 (c := 2) rfl rfl (wants0 rfl) rfl rfl rfl rfl (Has.sc rfl) rfl ?_
   refine T.nil ?_
   refine T.then_normal ?_
   refine T.seq ?_
   refine T.region ?_
   refine T.assign .list rfl (wants0 rfl) rfl rfl ?_
   refine T.nil ?_
   refine T.then_normal ?_
   refine T.ret ?_
   obtain rfl := inv_some hr
   refine T.pick [0, 1, 2, 3, 4, 5] 6 rfl rfl (Nat.le_add_left _ _) rfl ?_
   refine T.ret1 rfl rfl (fun w hS => ⟨(), rfl, hS⟩)

noncomputable def page_Store_Commit.k1 (o0 : Int × Int × Int × Int) (q0b : List (Int × Int)) (o0c : Int × Bool × Int × Int × Int × Int × Int) (q0cb : List (Int × (List UInt8))) (q0cc : List (Int × List UInt8)) (a1 : Int) (s1 : Bool) : Option (Int × (Int × Int × Int × Int) × (List (Int × Int)) × (Int × Bool × Int × Int × Int × Int × Int) × (List (Int × (List UInt8))) × (List (Int × List UInt8))) :=
  (if s1 = true then some (1, (o0.1, o0.2.1, o0.2.2.1, o0.2.2.2), q0b, (o0c.1, o0c.2.1, o0c.2.2.1, o0c.2.2.2.1, o0c.2.2.2.2.1, o0c.2.2.2.2.2.1, o0c.2.2.2.2.2.2), q0cb, q0cc) else (if ((decide ((4611686018427387904 : Int) ≤ o0.2.2.1))) = true then some (21, (o0.1, o0.2.1, o0.2.2.1, o0.2.2.2), q0b, (o0c.1, o0c.2.1, o0c.2.2.1, o0c.2.2.2.1, o0c.2.2.2.2.1, o0c.2.2.2.2.2.1, o0c.2.2.2.2.2.2), q0cb, q0cc) else (disk_Disk_Flush.impl ((o0c.1, o0c.2.1, o0c.2.2.1, o0c.2.2.2.1, o0c.2.2.2.2.1, o0c.2.2.2.2.2.1, o0c.2.2.2.2.2.2)) q0cb q0cc).bind fun r2 => (if ((!(decide (r2.1 = 0)))) = true then some (r2.1, (o0.1, o0.2.1, o0.2.2.1, o0.2.2.2), q0b, (r2.2.1.1, r2.2.1.2.1, r2.2.1.2.2.1, r2.2.1.2.2.2.1, r2.2.1.2.2.2.2.1, r2.2.1.2.2.2.2.2.1, r2.2.1.2.2.2.2.2.2), r2.2.2.1, r2.2.2.2) else (page_head_bytes.impl ((IntKind.u64.wrap (o0.2.2.1 + 1), a1))).bind fun r3 => (disk_Disk_Write.impl ((r2.2.1.1, r2.2.1.2.1, r2.2.1.2.2.1, r2.2.1.2.2.2.1, r2.2.1.2.2.2.2.1, r2.2.1.2.2.2.2.2.1, r2.2.1.2.2.2.2.2.2)) r2.2.2.1 r2.2.2.2 (IntKind.i64.wrap (Int.tmod (IntKind.u64.wrap (o0.2.2.1 + 1)) 2)) r3).bind fun r4 => (if ((!(decide (r4.1 = 0)))) = true then some (r4.1, (o0.1, o0.2.1, o0.2.2.1, o0.2.2.2), q0b, (r4.2.1.1, r4.2.1.2.1, r4.2.1.2.2.1, r4.2.1.2.2.2.1, r4.2.1.2.2.2.2.1, r4.2.1.2.2.2.2.2.1, r4.2.1.2.2.2.2.2.2), r4.2.2.1, r4.2.2.2) else (disk_Disk_Flush.impl ((r4.2.1.1, r4.2.1.2.1, r4.2.1.2.2.1, r4.2.1.2.2.2.1, r4.2.1.2.2.2.2.1, r4.2.1.2.2.2.2.2.1, r4.2.1.2.2.2.2.2.2)) r4.2.2.1 r4.2.2.2).bind fun r5 => (if ((!(decide (r5.1 = 0)))) = true then some (r5.1, (o0.1, o0.2.1, o0.2.2.1, o0.2.2.2), q0b, (r5.2.1.1, r5.2.1.2.1, r5.2.1.2.2.1, r5.2.1.2.2.2.1, r5.2.1.2.2.2.2.1, r5.2.1.2.2.2.2.2.1, r5.2.1.2.2.2.2.2.2), r5.2.2.1, r5.2.2.2) else (page_counts_settle.impl o0.1 q0b).bind fun r6 => some (0, (o0.1, o0.2.1, IntKind.u64.wrap (o0.2.2.1 + 1), a1), r6, (r5.2.1.1, r5.2.1.2.1, r5.2.1.2.2.1, r5.2.1.2.2.2.1, r5.2.1.2.2.2.2.1, r5.2.1.2.2.2.2.2.1, r5.2.1.2.2.2.2.2.2), r5.2.2.1, r5.2.2.2))))))
noncomputable def page_Store_Commit.impl (o0 : Int × Int × Int × Int) (q0b : List (Int × Int)) (o0c : Int × Bool × Int × Int × Int × Int × Int) (q0cb : List (Int × (List UInt8))) (q0cc : List (Int × List UInt8)) (a1 : Int) : Option (Int × (Int × Int × Int × Int) × (List (Int × Int)) × (Int × Bool × Int × Int × Int × Int × Int) × (List (Int × (List UInt8))) × (List (Int × List UInt8))) :=
  (page_Store_Dead.impl ((o0.1, o0.2.1, o0.2.2.1, o0.2.2.2)) q0b ((o0c.1, o0c.2.1, o0c.2.2.1, o0c.2.2.2.1, o0c.2.2.2.2.1, o0c.2.2.2.2.2.1, o0c.2.2.2.2.2.2)) q0cb q0cc).bind fun r1 => (if r1 = true then some (20, (o0.1, o0.2.1, o0.2.2.1, o0.2.2.2), q0b, (o0c.1, o0c.2.1, o0c.2.2.1, o0c.2.2.2.1, o0c.2.2.2.2.1, o0c.2.2.2.2.2.1, o0c.2.2.2.2.2.2), q0cb, q0cc) else (if ((decide (a1 = 0))) = true then page_Store_Commit.k1 o0 q0b o0c q0cb q0cc a1 false else page_Store_Commit.k1 o0 q0b o0c q0cb q0cc a1 (!(decide (((((mget q0b a1).getD 0))) = 1)))))
set_option maxRecDepth 100000 in
set_option maxHeartbeats 4000000 in
theorem page_Store_Commit.c {B : World} {hs : List MP} {w : World} {p0 : Nat} {o0 : Int × Int × Int × Int} {m0b : Nat} {q0b : List (Int × Int)} {p0c : Nat} {o0c : Int × Bool × Int × Int × Int × Int × Int} {m0cb : Nat} {q0cb : List (Int × (List UInt8))} {c0cc : Nat} {A0cc : Option Addr} {d0cc : Ads} {q0cc : List (Int × List UInt8)} {a1 : Int} (hS : St B (Cl p0 45 [.int .i64 o0.1, .map (some m0b), .pointer (some ⟨p0c, 0, none⟩), .int .i64 o0.2.1, .int .u64 o0.2.2.1, .int .i64 o0.2.2.2] :: Mp E64 m0b q0b :: Cl p0c 68 [.int .i64 o0c.1, .map (some m0cb), .slice A0cc q0cc.length c0cc, .bool o0c.2.1, .int .i64 o0c.2.2.1, .int .i64 o0c.2.2.2.1, .int .u64 o0c.2.2.2.2.1, .int .i64 o0c.2.2.2.2.2.1, .int .i64 o0c.2.2.2.2.2.2] :: Mp (Elt.slice E8) m0cb q0cb :: Hb 82 A0cc c0cc d0cc q0cc :: Bb 5 d0cc q0cc :: hs) w) {r : Int × (Int × Int × Int × Int) × (List (Int × Int)) × (Int × Bool × Int × Int × Int × Int × Int) × (List (Int × (List UInt8))) × (List (Int × List UInt8))} (hr : page_Store_Commit.impl o0 q0b o0c q0cb q0cc a1 = some r) :
    Calls Try.prog 10 #[.pointer (some ⟨p0, 0, none⟩), .int .i64 a1] w fun e w' => ∃ x : (Option Addr × Nat) × (Ads), e = .returned (.int .i64 r.1) ∧ St B (Cl p0 45 [.int .i64 r.2.1.1, .map (some m0b), .pointer (some ⟨p0c, 0, none⟩), .int .i64 r.2.1.2.1, .int .u64 r.2.1.2.2.1, .int .i64 r.2.1.2.2.2] :: Mp E64 m0b r.2.2.1 :: Cl p0c 68 [.int .i64 r.2.2.2.1.1, .map (some m0cb), .slice x.1.1 r.2.2.2.2.2.length x.1.2, .bool r.2.2.2.1.2.1, .int .i64 r.2.2.2.1.2.2.1, .int .i64 r.2.2.2.1.2.2.2.1, .int .u64 r.2.2.2.1.2.2.2.2.1, .int .i64 r.2.2.2.1.2.2.2.2.2.1, .int .i64 r.2.2.2.1.2.2.2.2.2.2] :: Mp (Elt.slice E8) m0cb r.2.2.2.2.1 :: Hb 82 x.1.1 x.1.2 x.2 r.2.2.2.2.2 :: Bb 5 x.2 r.2.2.2.2.2 :: hs) w' := by
 unfold page_Store_Commit.impl at hr
 refine calls_T Try.func10 rfl rfl rfl hS ?_
 refine T.seq ?_
 refine T.region ?_
 refine T.assign .list rfl (wants0 rfl) rfl rfl ?_
 refine T.nil ?_
 refine T.then_normal ?_
 refine T.seq ?_
 refine T.block ?_
 refine T.seq ?_
 refine T.region ?_
 refine T.move .list rfl (wants0 rfl) rfl rfl ?_
 refine T.pick [0, 1, 2, 3, 4, 5] 6 rfl rfl (Nat.le_add_left _ _) (hs' := Cl p0 45 [.int .i64 o0.1, .map (some m0b), .pointer (some ⟨p0c, 0, none⟩), .int .i64 o0.2.1, .int .u64 o0.2.2.1, .int .i64 o0.2.2.2] :: Mp E64 m0b q0b :: Cl p0c 68 [.int .i64 o0c.1, .map (some m0cb), .slice A0cc q0cc.length c0cc, .bool o0c.2.1, .int .i64 o0c.2.2.1, .int .i64 o0c.2.2.2.1, .int .u64 o0c.2.2.2.2.1, .int .i64 o0c.2.2.2.2.2.1, .int .i64 o0c.2.2.2.2.2.2] :: Mp (Elt.slice E8) m0cb q0cb :: Hb 82 A0cc c0cc d0cc q0cc :: Bb 5 d0cc q0cc :: hs) rfl ?_
 obtain ⟨r1, hg1, hr⟩ := inv_bind hr
 refine T.call .list (wants0 rfl) rfl (run_callF (vs := [_]) rfl Try.func19 rfl (by decide) rfl) (fun w hS => page_Store_Dead.c hS (o0 := (o0.1, o0.2.1, o0.2.2.1, o0.2.2.2)) (q0b := q0b) (o0c := (o0c.1, o0c.2.1, o0c.2.2.1, o0c.2.2.2.1, o0c.2.2.2.2.1, o0c.2.2.2.2.2.1, o0c.2.2.2.2.2.2)) (q0cb := q0cb) (q0cc := q0cc)  hg1) (fun x1 => ?_)
 refine T.assign .list rfl (wants0 rfl) rfl rfl ?_
 refine T.nil ?_
 refine T.then_normal ?_
 refine T.cond rfl (fun hb1 => ?_) (fun hb1 => ?_)
 ·replace hr := inv_posB hb1 hr
  refine T.seq ?_
  refine T.region ?_
  refine T.assign .list rfl (wants0 rfl) rfl rfl ?_
  refine T.nil ?_
  refine T.then_normal ?_
  refine T.ret ?_
  refine T.in_ret ?_
  refine T.then_ret ?_
  obtain rfl := inv_some hr
  refine T.pick [0, 1, 2, 3, 4, 5] 6 rfl rfl (Nat.le_add_left _ _) rfl ?_
  refine T.ret1 rfl rfl (fun w hS => ⟨((A0cc, c0cc), d0cc), rfl, hS⟩)
 ·replace hr := inv_negB hb1 hr
  refine T.seqJ (fun (s1 : Bool) (x2 : Unit) => [(0, .pointer (some ⟨p0, 0, none⟩)), (1, .int .i64 a1), (12, .bool s1)]) (fun s1 x2 => Cl p0 45 [.int .i64 o0.1, .map (some m0b), .pointer (some ⟨p0c, 0, none⟩), .int .i64 o0.2.1, .int .u64 o0.2.2.1, .int .i64 o0.2.2.2] :: Mp E64 m0b q0b :: Cl p0c 68 [.int .i64 o0c.1, .map (some m0cb), .slice A0cc q0cc.length c0cc, .bool o0c.2.1, .int .i64 o0c.2.2.1, .int .i64 o0c.2.2.2.1, .int .u64 o0c.2.2.2.2.1, .int .i64 o0c.2.2.2.2.2.1, .int .i64 o0c.2.2.2.2.2.2] :: Mp (Elt.slice E8) m0cb q0cb :: Hb 82 A0cc c0cc d0cc q0cc :: Bb 5 d0cc q0cc :: hs) (fun s1 => page_Store_Commit.k1 o0 q0b o0c q0cb q0cc a1 s1 = some r) (fun s1 x2 hk1 => ?_) (fun J1 => ?_)
  ·unfold page_Store_Commit.k1 at hk1
   refine T.cond rfl (fun hb2 => ?_) (fun hb2 => ?_)
   ·replace hk1 := inv_posB hb2 hk1
    refine T.seq ?_
    refine T.region ?_
    refine T.assign .list rfl (wants0 rfl) rfl rfl ?_
    refine T.nil ?_
    refine T.then_normal ?_
    refine T.ret ?_
    refine T.in_ret ?_
    refine T.then_ret ?_
    obtain rfl := inv_some hk1
    refine T.pick [0, 1, 2, 3, 4, 5] 6 rfl rfl (Nat.le_add_left _ _) rfl ?_
    refine T.ret1 rfl rfl (fun w hS => ⟨((A0cc, c0cc), d0cc), rfl, hS⟩)
   ·replace hk1 := inv_negB hb2 hk1
    refine T.seq ?_
    refine T.region ?_
    refine T.move .list rfl (wants0 rfl) rfl rfl ?_
    refine T.nilCheck .list rfl (wants0 rfl) rfl rfl ?_
    refine T.field .list rfl (wants0 rfl) rfl rfl ?_
    refine T.field .list rfl (wants0 rfl) rfl rfl ?_
    refine T.load .list 0 rfl rfl (wants0 rfl) rfl rfl rfl ?_
    refine T.bin .list rfl (wants0 rfl) rfl rfl rfl rfl ?_
    refine T.assign .list rfl (wants0 rfl) rfl rfl ?_
    refine T.nil ?_
    refine T.then_normal ?_
    refine T.cond rfl (fun hb3 => ?_) (fun hb3 => ?_)
    ·replace hk1 := inv_posB hb3 hk1
     refine T.seq ?_
     refine T.region ?_
     refine T.assign .list rfl (wants0 rfl) rfl rfl ?_
     refine T.nil ?_
     refine T.then_normal ?_
     refine T.ret ?_
     refine T.in_ret ?_
     refine T.then_ret ?_
     obtain rfl := inv_some hk1
     refine T.pick [0, 1, 2, 3, 4, 5] 6 rfl rfl (Nat.le_add_left _ _) rfl ?_
     refine T.ret1 rfl rfl (fun w hS => ⟨((A0cc, c0cc), d0cc), rfl, hS⟩)
    ·replace hk1 := inv_negB hb3 hk1
     refine T.skip ?_
     refine T.in_normal ?_
     refine T.then_normal ?_
     refine T.seq ?_
     refine T.region ?_
     refine T.move .list rfl (wants0 rfl) rfl rfl ?_
     refine T.nilCheck .list rfl (wants0 rfl) rfl rfl ?_
     refine T.field .list rfl (wants0 rfl) rfl rfl ?_
     refine T.field .list rfl (wants0 rfl) rfl rfl ?_
     refine T.load .list 0 rfl rfl (wants0 rfl) rfl rfl rfl ?_
     refine T.bin .list rfl (wants0 rfl) rfl rfl rfl rfl ?_
     refine T.move .list rfl (wants0 rfl) rfl rfl ?_
     refine T.build .list (vals := [(0, .int .u64 (IntKind.u64.wrap (o0.2.2.1 + 1))), (1, .int .i64 a1)]) (cells := #[.int .u64 (IntKind.u64.wrap (o0.2.2.1 + 1)), .int .i64 a1]) rfl (wants0 rfl) rfl rfl (run_buildStruct (sizes := [1, 1]) (by kernel_rfl) (by kernel_rfl)) ?_
     refine T.allocS .list rfl (wants0 rfl) rfl (cs := [.int .u64 0, .int .i64 0]) rfl (fun b1 => ?_)
     refine T.store .list 0 rfl rfl (wants0 rfl) rfl rfl rfl rfl (Nat.le_of_ble_eq_true rfl) rfl (cs' := [.int .u64 (IntKind.u64.wrap (o0.2.2.1 + 1)), .int .i64 a1]) rfl rfl ?_
     refine T.nil ?_
     refine T.then_normal ?_
     refine T.seq ?_
     refine T.seq ?_
     refine T.region ?_
     refine T.move .list rfl (wants0 rfl) rfl rfl ?_
     refine T.nilCheck .list rfl (wants0 rfl) rfl rfl ?_
     refine T.field .list rfl (wants0 rfl) rfl rfl ?_
     refine T.load .list 1 rfl rfl (wants0 rfl) rfl rfl rfl ?_
     refine T.pick [3, 4, 5, 6, 0, 1, 2] 7 rfl rfl (Nat.le_add_left _ _) (hs' := Cl p0c 68 [.int .i64 o0c.1, .map (some m0cb), .slice A0cc q0cc.length c0cc, .bool o0c.2.1, .int .i64 o0c.2.2.1, .int .i64 o0c.2.2.2.1, .int .u64 o0c.2.2.2.2.1, .int .i64 o0c.2.2.2.2.2.1, .int .i64 o0c.2.2.2.2.2.2] :: Mp (Elt.slice E8) m0cb q0cb :: Hb 82 A0cc c0cc d0cc q0cc :: Bb 5 d0cc q0cc :: Cl b1 43 [.int .u64 (IntKind.u64.wrap (o0.2.2.1 + 1)), .int .i64 a1] :: Cl p0 45 [.int .i64 o0.1, .map (some m0b), .pointer (some ⟨p0c, 0, none⟩), .int .i64 o0.2.1, .int .u64 o0.2.2.1, .int .i64 o0.2.2.2] :: Mp E64 m0b q0b :: hs) rfl ?_
     obtain ⟨r2, hg2, hk1⟩ := inv_bind hk1
     refine T.call .list (wants0 rfl) rfl (run_callF (vs := [_]) rfl Try.func31 rfl (by decide) rfl) (fun w hS => disk_Disk_Flush.c hS (o0 := (o0c.1, o0c.2.1, o0c.2.2.1, o0c.2.2.2.1, o0c.2.2.2.2.1, o0c.2.2.2.2.2.1, o0c.2.2.2.2.2.2)) (q0b := q0cb) (q0c := q0cc)  hg2) (fun x3 => ?_)
     refine T.assign .list rfl (wants0 rfl) rfl rfl ?_
     refine T.nil ?_
     refine T.then_normal ?_
     refine T.seq ?_
     refine T.region ?_
     refine T.move .list rfl (wants0 rfl) rfl rfl ?_
     refine T.bin .list rfl (wants0 rfl) rfl rfl rfl rfl ?_
     refine T.nil ?_
     refine T.then_normal ?_
     refine T.cond rfl (fun hb4 => ?_) (fun hb4 => ?_)
     ·replace hk1 := inv_posB hb4 hk1
      refine T.seq ?_
      refine T.region ?_
      refine T.move .list rfl (wants0 rfl) rfl rfl ?_
      refine T.assign .list rfl (wants0 rfl) rfl rfl ?_
      refine T.nil ?_
      refine T.then_normal ?_
      refine T.ret ?_
      refine T.then_ret ?_
      obtain rfl := inv_some hk1
      refine T.pick [5, 6, 0, 1, 2, 3] 7 rfl rfl (Nat.le_add_left _ _) rfl ?_
      refine T.ret1 rfl rfl (fun w hS => ⟨((x3.1.1, x3.1.2), x3.2), rfl, hS⟩)
     ·replace hk1 := inv_negB hb4 hk1
      refine T.skip ?_
      refine T.then_normal ?_
      refine T.seq ?_
      refine T.seq ?_
      refine T.dStart mixed ?_
      refine T.move (.dPure (i := 0) rfl (by kernel_rfl) (fun d _ _ _ _ h => by cases d <;> exact h)) rfl (wants0 rfl) rfl rfl ?_
      refine T.nilCheck (.dPure (i := 1) rfl (by kernel_rfl) (fun d _ _ _ _ h => by cases d <;> exact h)) rfl (wants0 rfl) rfl rfl ?_
      refine T.field (.dPure (i := 2) rfl (by kernel_rfl) (fun d _ _ _ _ h => by cases d <;> exact h)) rfl (wants0 rfl) rfl rfl ?_
      refine T.field (.dPure (i := 4) rfl (by kernel_rfl) (fun d _ _ _ _ h => by cases d <;> exact h)) rfl (wants0 rfl) rfl rfl ?_
      refine T.dAdd 12 (fun w => w.heap[p0]? = some (.cells [.int .i64 o0.1, .map (some m0b), .pointer (some ⟨p0c, 0, none⟩), .int .i64 o0.2.1, .int .u64 o0.2.2.1, .int .i64 o0.2.2.2].toArray 45 (0, 0))) (Cl.stays 5 rfl) ?_
      refine T.valS 0 (i := 3) (.pointer (some ⟨p0c, 0, none⟩)) rfl rfl (by kernel_rfl) (by kernel_rfl) (fun d _ _ _ _ h => by cases d <;> exact h) (wants0 rfl) rfl (run_ldCl rfl rfl rfl) ?_
      refine T.dAdd 12 (fun w => w.heap[b1]? = some (.cells [.int .u64 (IntKind.u64.wrap (o0.2.2.1 + 1)), .int .i64 a1].toArray 43 (0, 0))) (Cl.stays 4 rfl) ?_
      refine T.valS 0 (i := 5) (.int .u64 (IntKind.u64.wrap (o0.2.2.1 + 1))) rfl rfl (by kernel_rfl) (by kernel_rfl) (fun d _ _ _ _ h => by cases d <;> exact h) (wants0 rfl) rfl (run_ldCl rfl rfl rfl) ?_
      refine T.rem (.dPure (i := 6) rfl (by kernel_rfl) (fun d _ _ _ _ h => by cases d <;> exact h)) rfl (wants0 rfl) rfl rfl rfl (by decide) ?_
      refine T.conv (.dPure (i := 7) rfl (by kernel_rfl) (fun d _ _ _ _ h => by cases d <;> exact h)) rfl (wants0 rfl) rfl rfl rfl ?_
      refine T.valS 0 (i := 8) (.agg #[.int .u64 (IntKind.u64.wrap (o0.2.2.1 + 1)), .int .i64 a1]) rfl rfl (by kernel_rfl) (by kernel_rfl) (fun d _ _ _ _ h => by cases d <;> exact h) (wants0 rfl) rfl (run_ldClN rfl rfl (vs := [.int .u64 (IntKind.u64.wrap (o0.2.2.1 + 1)), .int .i64 a1]) rfl rfl) ?_
      obtain ⟨r3, hg3, hk1⟩ := inv_bind hk1
      refine T.dOnly (i := 9) (by kernel_rfl) ?_
      refine T.call (.dOne rfl (by kernel_rfl)) (wants0 rfl) rfl (run_callF (vs := [_]) rfl Try.func32 rfl (by decide) rfl) (fun w hS => page_head_bytes.c hS (a0 := (IntKind.u64.wrap (o0.2.2.1 + 1), a1))  hg3) (fun x4 => ?_)
      refine T.dNext (phi_cons (.inr (Cl.stays 5 rfl)) (phi_cons (.inr (Cl.stays 6 rfl)) phi_nil)) ?_
      obtain ⟨r4, hg4, hk1⟩ := inv_bind hk1
      refine T.pick [1, 2, 3, 4, 0, 5, 6, 7] 8 rfl rfl (Nat.le_add_left _ _) (hs' := Cl p0c 68 [.int .i64 r2.2.1.1, .map (some m0cb), .slice x3.1.1 r2.2.2.2.length x3.1.2, .bool r2.2.1.2.1, .int .i64 r2.2.1.2.2.1, .int .i64 r2.2.1.2.2.2.1, .int .u64 r2.2.1.2.2.2.2.1, .int .i64 r2.2.1.2.2.2.2.2.1, .int .i64 r2.2.1.2.2.2.2.2.2] :: Mp (Elt.slice E8) m0cb r2.2.2.1 :: Hb 82 x3.1.1 x3.1.2 x3.2 r2.2.2.2 :: Bb 5 x3.2 r2.2.2.2 :: Bf E8 5 x4.1 x4.2 r3 :: Cl b1 43 [.int .u64 (IntKind.u64.wrap (o0.2.2.1 + 1)), .int .i64 a1] :: Cl p0 45 [.int .i64 o0.1, .map (some m0b), .pointer (some ⟨p0c, 0, none⟩), .int .i64 o0.2.1, .int .u64 o0.2.2.1, .int .i64 o0.2.2.2] :: Mp E64 m0b q0b :: hs) rfl ?_
      refine T.dOnly (i := 10) (by kernel_rfl) ?_
      refine T.call (.dOne rfl (by kernel_rfl)) (wants0 rfl) rfl (run_callF (vs := [_, _, _]) rfl Try.func29 rfl (by decide) rfl) (fun w hS => disk_Disk_Write.c hS (o0 := (r2.2.1.1, r2.2.1.2.1, r2.2.1.2.2.1, r2.2.1.2.2.2.1, r2.2.1.2.2.2.2.1, r2.2.1.2.2.2.2.2.1, r2.2.1.2.2.2.2.2.2)) (q0b := r2.2.2.1) (q0c := r2.2.2.2) (l2 := r3)  hg4) (fun x5 => ?_)
      refine T.dNext (phi_cons (.inr (Cl.stays 5 rfl)) (phi_cons (.inr (Cl.stays 6 rfl)) phi_nil)) ?_
      refine T.assign (.dPure (i := 11) rfl (by kernel_rfl) (fun d _ _ _ _ h => by cases d <;> exact h)) rfl (wants0 rfl) rfl rfl ?_
      refine T.dDone (by kernel_rfl) ?_
      refine T.then_normal ?_
      refine T.seq ?_
      refine T.region ?_
      refine T.move .list rfl (wants0 rfl) rfl rfl ?_
      refine T.bin .list rfl (wants0 rfl) rfl rfl rfl rfl ?_
      refine T.nil ?_
      refine T.then_normal ?_
      refine T.cond rfl (fun hb5 => ?_) (fun hb5 => ?_)
      ·replace hk1 := inv_posB hb5 hk1
       refine T.seq ?_
       refine T.region ?_
       refine T.move .list rfl (wants0 rfl) rfl rfl ?_
       refine T.assign .list rfl (wants0 rfl) rfl rfl ?_
       refine T.nil ?_
       refine T.then_normal ?_
       refine T.ret ?_
       refine T.then_ret ?_
       obtain rfl := inv_some hk1
       refine T.pick [6, 7, 0, 1, 2, 3] 8 rfl rfl (Nat.le_add_left _ _) rfl ?_
       refine T.ret1 rfl rfl (fun w hS => ⟨((x5.1.1, x5.1.2), x5.2), rfl, hS⟩)
      ·replace hk1 := inv_negB hb5 hk1
       refine T.skip ?_
       refine T.then_normal ?_
       refine T.seq ?_
       refine T.seq ?_
       refine T.region ?_
       refine T.move .list rfl (wants0 rfl) rfl rfl ?_
       refine T.nilCheck .list rfl (wants0 rfl) rfl rfl ?_
       refine T.field .list rfl (wants0 rfl) rfl rfl ?_
       refine T.load .list 6 rfl rfl (wants0 rfl) rfl rfl rfl ?_
       refine T.pick [0, 1, 2, 3, 4, 5, 6, 7] 8 rfl rfl (Nat.le_add_left _ _) (hs' := Cl p0c 68 [.int .i64 r4.2.1.1, .map (some m0cb), .slice x5.1.1 r4.2.2.2.length x5.1.2, .bool r4.2.1.2.1, .int .i64 r4.2.1.2.2.1, .int .i64 r4.2.1.2.2.2.1, .int .u64 r4.2.1.2.2.2.2.1, .int .i64 r4.2.1.2.2.2.2.2.1, .int .i64 r4.2.1.2.2.2.2.2.2] :: Mp (Elt.slice E8) m0cb r4.2.2.1 :: Hb 82 x5.1.1 x5.1.2 x5.2 r4.2.2.2 :: Bb 5 x5.2 r4.2.2.2 :: Bf E8 5 x4.1 x4.2 r3 :: Cl b1 43 [.int .u64 (IntKind.u64.wrap (o0.2.2.1 + 1)), .int .i64 a1] :: Cl p0 45 [.int .i64 o0.1, .map (some m0b), .pointer (some ⟨p0c, 0, none⟩), .int .i64 o0.2.1, .int .u64 o0.2.2.1, .int .i64 o0.2.2.2] :: Mp E64 m0b q0b :: hs) rfl ?_
       obtain ⟨r5, hg5, hk1⟩ := inv_bind hk1
       refine T.call .list (wants0 rfl) rfl (run_callF (vs := [_]) rfl Try.func31 rfl (by decide) rfl) (fun w hS => disk_Disk_Flush.c hS (o0 := (r4.2.1.1, r4.2.1.2.1, r4.2.1.2.2.1, r4.2.1.2.2.2.1, r4.2.1.2.2.2.2.1, r4.2.1.2.2.2.2.2.1, r4.2.1.2.2.2.2.2.2)) (q0b := r4.2.2.1) (q0c := r4.2.2.2)  hg5) (fun x6 => ?_)
       refine T.assign .list rfl (wants0 rfl) rfl rfl ?_
       refine T.nil ?_
       refine T.then_normal ?_
       refine T.seq ?_
       refine T.region ?_
       refine T.move .list rfl (wants0 rfl) rfl rfl ?_
       refine T.bin .list rfl (wants0 rfl) rfl rfl rfl rfl ?_
       refine T.nil ?_
       refine T.then_normal ?_
       refine T.cond rfl (fun hb6 => ?_) (fun hb6 => ?_)
       ·replace hk1 := inv_posB hb6 hk1
        refine T.seq ?_
        refine T.region ?_
        refine T.move .list rfl (wants0 rfl) rfl rfl ?_
        refine T.assign .list rfl (wants0 rfl) rfl rfl ?_
        refine T.nil ?_
        refine T.then_normal ?_
        refine T.ret ?_
        refine T.then_ret ?_
        obtain rfl := inv_some hk1
        refine T.pick [6, 7, 0, 1, 2, 3] 8 rfl rfl (Nat.le_add_left _ _) rfl ?_
        refine T.ret1 rfl rfl (fun w hS => ⟨((x6.1.1, x6.1.2), x6.2), rfl, hS⟩)
       ·replace hk1 := inv_negB hb6 hk1
        refine T.skip ?_
        refine T.then_normal ?_
        refine T.seq ?_
        refine T.region ?_
        refine T.move .list rfl (wants0 rfl) rfl rfl ?_
        refine T.loadN .list 5 rfl rfl (wants0 rfl) rfl rfl (vs := [.int .u64 (IntKind.u64.wrap (o0.2.2.1 + 1)), .int .i64 a1]) rfl rfl ?_
        refine T.nilCheck .list rfl (wants0 rfl) rfl rfl ?_
        refine T.field .list rfl (wants0 rfl) rfl rfl ?_
        refine T.store .list 6 rfl rfl (wants0 rfl) rfl rfl rfl rfl (Nat.le_of_ble_eq_true rfl) rfl (cs' := [.int .i64 o0.1, .map (some m0b), .pointer (some ⟨p0c, 0, none⟩), .int .i64 o0.2.1, .int .u64 (IntKind.u64.wrap (o0.2.2.1 + 1)), .int .i64 a1]) rfl rfl ?_
        refine T.nil ?_
        refine T.then_normal ?_
        refine T.seq ?_
        refine T.region ?_
        refine T.move .list rfl (wants0 rfl) rfl rfl ?_
        refine T.nilCheck .list rfl (wants0 rfl) rfl rfl ?_
        refine T.field .list rfl (wants0 rfl) rfl rfl ?_
        refine T.pick [6, 7, 0, 1, 2, 3, 4, 5] 8 rfl rfl (Nat.le_add_left _ _) (hs' := Cl p0 45 [.int .i64 o0.1, .map (some m0b), .pointer (some ⟨p0c, 0, none⟩), .int .i64 o0.2.1, .int .u64 (IntKind.u64.wrap (o0.2.2.1 + 1)), .int .i64 a1] :: Mp E64 m0b q0b :: Cl p0c 68 [.int .i64 r5.2.1.1, .map (some m0cb), .slice x6.1.1 r5.2.2.2.length x6.1.2, .bool r5.2.1.2.1, .int .i64 r5.2.1.2.2.1, .int .i64 r5.2.1.2.2.2.1, .int .u64 r5.2.1.2.2.2.2.1, .int .i64 r5.2.1.2.2.2.2.2.1, .int .i64 r5.2.1.2.2.2.2.2.2] :: Mp (Elt.slice E8) m0cb r5.2.2.1 :: Hb 82 x6.1.1 x6.1.2 x6.2 r5.2.2.2 :: Bb 5 x6.2 r5.2.2.2 :: Bf E8 5 x4.1 x4.2 r3 :: Cl b1 43 [.int .u64 (IntKind.u64.wrap (o0.2.2.1 + 1)), .int .i64 a1] :: hs) rfl ?_
        obtain ⟨r6, hg6, hk1⟩ := inv_bind hk1
        refine T.call .list (wants0 rfl) rfl (run_callF (vs := [_]) rfl Try.func33 rfl (by decide) rfl) (fun w hS => page_counts_settle.c hS (T0 := 45) (rest0 := [.pointer (some ⟨p0c, 0, none⟩), .int .i64 o0.2.1, .int .u64 (IntKind.u64.wrap (o0.2.2.1 + 1)), .int .i64 a1]) (o0 := o0.1) (q0b := q0b)  hg6) (fun x7 => ?_)
        refine T.nil ?_
        refine T.then_normal ?_
        refine T.seq ?_
        refine T.region ?_
        refine T.assign .list rfl (wants0 rfl) rfl rfl ?_
        refine T.nil ?_
        refine T.then_normal ?_
        refine T.ret ?_
        obtain rfl := inv_some hk1
        refine T.pick [0, 1, 2, 3, 4, 5] 8 rfl rfl (Nat.le_add_left _ _) rfl ?_
        refine T.ret1 rfl rfl (fun w hS => ⟨((x6.1.1, x6.1.2), x6.2), rfl, hS⟩)
  ·refine T.region ?_
   refine T.move .list rfl (wants0 rfl) rfl rfl ?_
   refine T.bin .list rfl (wants0 rfl) rfl rfl rfl rfl ?_
   refine T.move .list rfl (wants0 rfl) rfl rfl ?_
   refine T.bool (b := (decide (a1 = 0))) (fun hb7 => ?_) (fun hb7 => ?_)
   ·replace hr := inv_posB hb7 hr
    refine T.leave .list (wantsNot rfl rfl rfl (not_t hb7)) rfl ?_
    refine T.leave .list (wantsNot rfl rfl rfl (not_t hb7)) rfl ?_
    refine T.leave .list (wantsNot rfl rfl rfl (not_t hb7)) rfl ?_
    refine T.leave .list (wantsNot rfl rfl rfl (not_t hb7)) rfl ?_
    refine T.leave .list (wantsNot rfl rfl rfl (not_t hb7)) rfl ?_
    refine T.leave .list (wantsNot rfl rfl rfl (not_t hb7)) rfl ?_
    refine T.leave .list (wantsNot rfl rfl rfl (not_t hb7)) rfl ?_
    refine T.leave .list (wantsNot rfl rfl rfl (not_t hb7)) rfl ?_
    refine T.pickF .list rfl (wants0 rfl) rfl rfl (not_t hb7) rfl ?_
    refine T.assign .list rfl (wants0 rfl) rfl rfl ?_
    refine T.nil ?_
    refine T.then_normal ?_
    exact T.le (EnvLe.cons rfl (EnvLe.cons rfl (EnvLe.cons rfl EnvLe.nil))) (T.pick [0, 1, 2, 3, 4, 5] 6 rfl rfl (Nat.le_add_left _ _) rfl (J1 false () hr))
   ·replace hr := inv_negB hb7 hr
    refine T.move .list rfl (wants1 rfl rfl rfl (not_f hb7)) rfl rfl ?_
    refine T.nilCheck .list rfl (wants1 rfl rfl rfl (not_f hb7)) rfl rfl ?_
    refine T.field .list rfl (wants1 rfl rfl rfl (not_f hb7)) rfl rfl ?_
    refine T.field .list rfl (wants1 rfl rfl rfl (not_f hb7)) rfl rfl ?_
    refine T.load .list 0 rfl rfl (wants1 rfl rfl rfl (not_f hb7)) rfl rfl rfl ?_
    refine T.move .list rfl (wants1 rfl rfl rfl (not_f hb7)) rfl rfl ?_
    refine T.lookup .list 1 (d := 0) Sh.sc (fun _ => rfl) rfl rfl (wants1 rfl rfl rfl (not_f hb7)) rfl rfl rfl (v := fun _ => .int .i64 (((mget q0b a1).getD 0))) (hs' := fun _ => Cl p0 45 [.int .i64 o0.1, .map (some m0b), .pointer (some ⟨p0c, 0, none⟩), .int .i64 o0.2.1, .int .u64 o0.2.2.1, .int .i64 o0.2.2.2] :: Mp E64 m0b q0b :: Cl p0c 68 [.int .i64 o0c.1, .map (some m0cb), .slice A0cc q0cc.length c0cc, .bool o0c.2.1, .int .i64 o0c.2.2.1, .int .i64 o0c.2.2.2.1, .int .u64 o0c.2.2.2.2.1, .int .i64 o0c.2.2.2.2.2.1, .int .i64 o0c.2.2.2.2.2.2] :: Mp (Elt.slice E8) m0cb q0cb :: Hb 82 A0cc c0cc d0cc q0cc :: Bb 5 d0cc q0cc :: hs) (fun _ => rfl) (fun _ => rfl) (fun _ => ?_)
    refine T.bin .list rfl (wants1 rfl rfl rfl (not_f hb7)) rfl rfl rfl rfl ?_
    refine T.pickT .list rfl (wants0 rfl) rfl rfl (not_f hb7) rfl ?_
    refine T.assign .list rfl (wants0 rfl) rfl rfl ?_
    refine T.nil ?_
    refine T.then_normal ?_
    exact T.le (EnvLe.cons rfl (EnvLe.cons rfl (EnvLe.cons rfl EnvLe.nil))) (T.pick [0, 1, 2, 3, 4, 5] 6 rfl rfl (Nat.le_add_left _ _) rfl (J1 (!(decide (((((mget q0b a1).getD 0))) = 1))) () hr))
end Go.Proofs.Ytccifnjlfhdpiaa
