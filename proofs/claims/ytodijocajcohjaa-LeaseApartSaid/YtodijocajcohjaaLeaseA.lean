/- LeaseA: what the functions compute, and that the program computes it; printed by a program of ours. -/
import Derived.Test.YtodijocajcohjaaLease
set_option linter.unusedVariables false
set_option linter.unusedSimpArgs false
namespace Go.Proofs.Ytodijocajcohjaa
open Go.RowKit
noncomputable def law19_LeaseApart.k2 (s2 : Unit) : Option Bool :=
  (law19_told.impl ).bind fun r3 => some r3
noncomputable def law19_LeaseApart.k6 (s3 : Int × Int × Int × Int × Int) (l1 : List Int) (l2 : List Int) (s4 : Int) (s5 : Int) (s7 : Bool) : Option ((Int × Int × Int × Int × Int) ⊕ (Bool ⊕ Unit)) :=
  (if s7 = true then some (.inr (.inl false)) else some (.inl (IntKind.i64.wrap (s3.1 + (((l1).getD (s3.2.2.2.2 : Int).toNat default))), IntKind.i64.wrap (s3.2.1 + (((l2).getD (s3.2.2.2.2 : Int).toNat default))), s4, s5, IntKind.i64.wrap (s3.2.2.2.2 + 1))))
noncomputable def law19_LeaseApart.k5 (s3 : Int × Int × Int × Int × Int) (l1 : List Int) (l2 : List Int) (a3 : Int) (l0 : List Int) (a4 : Int) (s4 : Int) (a5 : Int) (a6 : Int) (s5 : Int) (s6 : Bool) : Option ((Int × Int × Int × Int × Int) ⊕ (Bool ⊕ Unit)) :=
  (if s6 = true then (law19_told.impl ).bind fun r4 => some (.inr (.inl r4)) else chk (0 ≤ s3.2.2.2.2 ∧ s3.2.2.2.2 < (l1.length : Int)) (chk (0 ≤ s3.2.2.2.2 ∧ s3.2.2.2.2 < (l2.length : Int)) ((if ((decide (((IntKind.i64.wrap ((Int.tmod (bitsOf .and .i64 a3 65535) (min (min (min (l0.length : Int) ((l1.length : Int))) ((l2.length : Int))) 30)) + (Int.tmod (bitsOf .and .i64 a4 65535) (IntKind.i64.wrap ((min (min (min (l0.length : Int) ((l1.length : Int))) ((l2.length : Int))) 30) - (Int.tmod (bitsOf .and .i64 a3 65535) (min (min (min (l0.length : Int) ((l1.length : Int))) ((l2.length : Int))) 30)))))))) ≤ s3.2.2.2.2))) = true then (lease_Serves.impl (IntKind.i64.wrap (s3.1 + (((l1).getD (s3.2.2.2.2 : Int).toNat default)))) s4 (IntKind.i64.wrap ((bitsOf .and .i64 a5 1048575) + 1)) a6).bind fun r5 => (if r5 = true then (lease_Ended.impl (IntKind.i64.wrap (s3.2.1 + (((l2).getD (s3.2.2.2.2 : Int).toNat default)))) s5 (IntKind.i64.wrap ((bitsOf .and .i64 a5 1048575) + 1)) a6).bind fun r6 => law19_LeaseApart.k6 s3 l1 l2 s4 s5 r6 else law19_LeaseApart.k6 s3 l1 l2 s4 s5 false) else law19_LeaseApart.k6 s3 l1 l2 s4 s5 false))))
noncomputable def law19_LeaseApart.k4 (s3 : Int × Int × Int × Int × Int) (l0 : List Int) (l1 : List Int) (a6 : Int) (l2 : List Int) (a3 : Int) (a4 : Int) (s4 : Int) (a5 : Int) (s5 : Int) : Option ((Int × Int × Int × Int × Int) ⊕ (Bool ⊕ Unit)) :=
  chk (0 ≤ s3.2.2.2.2 ∧ s3.2.2.2.2 < (l0.length : Int)) (chk (0 ≤ s3.2.2.2.2 ∧ s3.2.2.2.2 < (l1.length : Int)) ((lease_Within.impl (((l0).getD (s3.2.2.2.2 : Int).toNat default)) (((l1).getD (s3.2.2.2.2 : Int).toNat default)) a6).bind fun r7 => (if r7 = true then chk (0 ≤ s3.2.2.2.2 ∧ s3.2.2.2.2 < (l0.length : Int)) (chk (0 ≤ s3.2.2.2.2 ∧ s3.2.2.2.2 < (l2.length : Int)) ((lease_Within.impl (((l0).getD (s3.2.2.2.2 : Int).toNat default)) (((l2).getD (s3.2.2.2.2 : Int).toNat default)) a6).bind fun r8 => (if r8 = true then (if ((decide ((549755813888 : Int) < s3.1))) = true then law19_LeaseApart.k5 s3 l1 l2 a3 l0 a4 s4 a5 a6 s5 true else (if ((decide ((549755813888 : Int) < s3.2.1))) = true then law19_LeaseApart.k5 s3 l1 l2 a3 l0 a4 s4 a5 a6 s5 true else chk (0 ≤ s3.2.2.2.2 ∧ s3.2.2.2.2 < (l1.length : Int)) ((if ((decide ((549755813888 : Int) < (((l1).getD (s3.2.2.2.2 : Int).toNat default))))) = true then law19_LeaseApart.k5 s3 l1 l2 a3 l0 a4 s4 a5 a6 s5 true else chk (0 ≤ s3.2.2.2.2 ∧ s3.2.2.2.2 < (l2.length : Int)) (law19_LeaseApart.k5 s3 l1 l2 a3 l0 a4 s4 a5 a6 s5 (decide ((549755813888 : Int) < (((l2).getD (s3.2.2.2.2 : Int).toNat default))))))))) else law19_LeaseApart.k5 s3 l1 l2 a3 l0 a4 s4 a5 a6 s5 true))) else law19_LeaseApart.k5 s3 l1 l2 a3 l0 a4 s4 a5 a6 s5 true)))
noncomputable def law19_LeaseApart.k3 (s3 : Int × Int × Int × Int × Int) (a3 : Int) (l0 : List Int) (l1 : List Int) (l2 : List Int) (a4 : Int) (a6 : Int) (a5 : Int) (s4 : Int) : Option ((Int × Int × Int × Int × Int) ⊕ (Bool ⊕ Unit)) :=
  (if ((decide (s3.2.2.2.2 = (IntKind.i64.wrap ((Int.tmod (bitsOf .and .i64 a3 65535) (min (min (min (l0.length : Int) ((l1.length : Int))) ((l2.length : Int))) 30)) + (Int.tmod (bitsOf .and .i64 a4 65535) (IntKind.i64.wrap ((min (min (min (l0.length : Int) ((l1.length : Int))) ((l2.length : Int))) 30) - (Int.tmod (bitsOf .and .i64 a3 65535) (min (min (min (l0.length : Int) ((l1.length : Int))) ((l2.length : Int))) 30)))))))))) = true then law19_LeaseApart.k4 s3 l0 l1 a6 l2 a3 a4 s4 a5 s3.2.1 else law19_LeaseApart.k4 s3 l0 l1 a6 l2 a3 a4 s4 a5 s3.2.2.2.1)
noncomputable def law19_LeaseApart.st1 (l0 : List Int) (l1 : List Int) (l2 : List Int) (a3 : Int) (a4 : Int) (a6 : Int) (a5 : Int) (s3 : Int × Int × Int × Int × Int) : Option ((Int × Int × Int × Int × Int) ⊕ (Bool ⊕ Unit)) :=
  (if ((decide (s3.2.2.2.2 < (min (min (min (l0.length : Int) ((l1.length : Int))) ((l2.length : Int))) 30)))) = true then (if ((decide (s3.2.2.2.2 = (Int.tmod (bitsOf .and .i64 a3 65535) (min (min (min (l0.length : Int) ((l1.length : Int))) ((l2.length : Int))) 30))))) = true then law19_LeaseApart.k3 s3 a3 l0 l1 l2 a4 a6 a5 s3.1 else law19_LeaseApart.k3 s3 a3 l0 l1 l2 a4 a6 a5 s3.2.2.1) else some (.inr (.inr ())))
noncomputable def law19_LeaseApart.k1 (l0 : List Int) (l1 : List Int) (l2 : List Int) (a3 : Int) (a4 : Int) (a6 : Int) (a5 : Int) (s1 : Bool) : Option Bool :=
  (if s1 = true then (law19_told.impl ).bind fun r1 => some r1 else (if ((decide (((min (min (min (l0.length : Int) ((l1.length : Int))) ((l2.length : Int))) 30)) = 0))) = true then (law19_told.impl ).bind fun r2 => some r2 else chk (¬ (min (min (min (l0.length : Int) ((l1.length : Int))) ((l2.length : Int))) 30) = 0) (chk (¬ (IntKind.i64.wrap ((min (min (min (l0.length : Int) ((l1.length : Int))) ((l2.length : Int))) 30) - (Int.tmod (bitsOf .and .i64 a3 65535) (min (min (min (l0.length : Int) ((l1.length : Int))) ((l2.length : Int))) 30)))) = 0) ((loop (law19_LeaseApart.st1 l0 l1 l2 a3 a4 a6 a5) (0, 0, 0, 0, 0)).bind (fun e1 => match e1 with | .inl v => some v | .inr v => law19_LeaseApart.k2 v)))))
noncomputable def law19_LeaseApart.impl (l0 : List Int) (l1 : List Int) (l2 : List Int) (a3 : Int) (a4 : Int) (a5 : Int) (a6 : Int) : Option Bool :=
  (if ((decide ((1048576 : Int) < (IntKind.i64.wrap ((bitsOf .and .i64 a5 1048575) + 1))))) = true then law19_LeaseApart.k1 l0 l1 l2 a3 a4 a6 a5 true else (if ((decide (a6 < 0))) = true then law19_LeaseApart.k1 l0 l1 l2 a3 a4 a6 a5 true else law19_LeaseApart.k1 l0 l1 l2 a3 a4 a6 a5 (decide ((500 : Int) < a6))))
set_option maxRecDepth 100000 in
set_option maxHeartbeats 4000000 in
theorem law19_LeaseApart.c {B : World} {hs : List MP} {w : World} {i0 c0 : Nat} {A0 : Option Addr} {l0 : List Int} {i1 c1 : Nat} {A1 : Option Addr} {l1 : List Int} {i2 c2 : Nat} {A2 : Option Addr} {l2 : List Int} {a3 : Int} {a4 : Int} {a5 : Int} {a6 : Int} (hS : St B (hs) w) (h0 : (hs)[i0]? = some (Ro E64 A0 c0 l0)) (h1 : (hs)[i1]? = some (Ro E64 A1 c1 l1)) (h2 : (hs)[i2]? = some (Ro E64 A2 c2 l2)) {r : Bool} (hr : law19_LeaseApart.impl l0 l1 l2 a3 a4 a5 a6 = some r) :
    Calls Try.prog 6 #[.slice A0 l0.length c0, .slice A1 l1.length c1, .slice A2 l2.length c2, .int .i64 a3, .int .i64 a4, .int .i64 a5, .int .i64 a6] w fun e w' => ∃ x : Unit, e = .returned (.bool r) ∧ St B (hs) w' := by
 unfold law19_LeaseApart.impl at hr
 refine calls_T Try.func6 rfl rfl rfl hS ?_
 refine T.front i0 h0 ?_
 refine T.front (i1 + 1) h1 ?_
 refine T.front (i2 + 2) h2 ?_
 refine T.seq ?_
 refine T.region ?_
 refine T.assign .list rfl (wants0 rfl) rfl rfl ?_
 refine T.nil ?_
 refine T.then_normal ?_
 refine T.seq ?_
 refine T.region ?_
 refine T.move .list rfl (wants0 rfl) rfl rfl ?_
 refine T.bin .list rfl (wants0 rfl) rfl rfl rfl rfl ?_
 refine T.bin .list rfl (wants0 rfl) rfl rfl rfl rfl ?_
 refine T.assign .list rfl (wants0 rfl) rfl rfl ?_
 refine T.nil ?_
 refine T.then_normal ?_
 refine T.seq ?_
 refine T.seqJ (fun (s1 : Bool) (x1 : Unit) => [(0, .slice A0 l0.length c0), (1, .slice A1 l1.length c1), (2, .slice A2 l2.length c2), (3, .int .i64 a3), (4, .int .i64 a4), (5, .int .i64 (IntKind.i64.wrap ((bitsOf .and .i64 a5 1048575) + 1))), (6, .int .i64 a6), (33, .bool s1)]) (fun s1 x1 => Ro E64 A0 c0 l0 :: Ro E64 A1 c1 l1 :: Ro E64 A2 c2 l2 :: hs) (fun s1 => law19_LeaseApart.k1 l0 l1 l2 a3 a4 a6 a5 s1 = some r) (fun s1 x1 hk1 => ?_) (fun J1 => ?_)
 ·unfold law19_LeaseApart.k1 at hk1
  refine T.cond rfl (fun hb1 => ?_) (fun hb1 => ?_)
  ·replace hk1 := inv_posB hb1 hk1
   refine T.seq ?_
   refine T.region ?_
   obtain ⟨r1, hg1, hk1⟩ := inv_bind hk1
   refine T.call .list (wants0 rfl) rfl (run_callF (vs := []) rfl Try.func16 rfl (by decide) rfl) (fun w hS => law19_told.c hS  hg1) (fun x2 => ?_)
   refine T.assign .list rfl (wants0 rfl) rfl rfl ?_
   refine T.nil ?_
   refine T.then_normal ?_
   refine T.ret ?_
   refine T.then_ret ?_
   obtain rfl := inv_some hk1
   refine T.pick [] 3 rfl rfl (Nat.le_add_left _ _) rfl ?_
   refine T.ret1 rfl rfl (fun w hS => ⟨(), rfl, hS⟩)
  ·replace hk1 := inv_negB hb1 hk1
   refine T.skip ?_
   refine T.then_normal ?_
   refine T.seq ?_
   refine T.region ?_
   refine T.move .list rfl (wants0 rfl) rfl rfl ?_
   refine T.lenSlice .list rfl (wants0 rfl) rfl rfl ?_
   refine T.move .list rfl (wants0 rfl) rfl rfl ?_
   refine T.lenSlice .list rfl (wants0 rfl) rfl rfl ?_
   refine T.move .list rfl (wants0 rfl) rfl rfl ?_
   refine T.lenSlice .list rfl (wants0 rfl) rfl rfl ?_
   refine T.min4 .list rfl (wants0 rfl) rfl rfl rfl rfl rfl ?_
   refine T.assign .list rfl (wants0 rfl) rfl rfl ?_
   refine T.nil ?_
   refine T.then_normal ?_
   refine T.seq ?_
   refine T.seq ?_
   refine T.region ?_
   refine T.move .list rfl (wants0 rfl) rfl rfl ?_
   refine T.bin .list rfl (wants0 rfl) rfl rfl rfl rfl ?_
   refine T.nil ?_
   refine T.then_normal ?_
   refine T.cond rfl (fun hb2 => ?_) (fun hb2 => ?_)
   ·replace hk1 := inv_posB hb2 hk1
    refine T.seq ?_
    refine T.region ?_
    obtain ⟨r2, hg2, hk1⟩ := inv_bind hk1
    refine T.call .list (wants0 rfl) rfl (run_callF (vs := []) rfl Try.func16 rfl (by decide) rfl) (fun w hS => law19_told.c hS  hg2) (fun x3 => ?_)
    refine T.assign .list rfl (wants0 rfl) rfl rfl ?_
    refine T.nil ?_
    refine T.then_normal ?_
    refine T.ret ?_
    refine T.then_ret ?_
    obtain rfl := inv_some hk1
    refine T.pick [] 3 rfl rfl (Nat.le_add_left _ _) rfl ?_
    refine T.ret1 rfl rfl (fun w hS => ⟨(), rfl, hS⟩)
   ·replace hk1 := inv_negB hb2 hk1
    refine T.skip ?_
    refine T.then_normal ?_
    refine T.seq ?_
    refine T.region ?_
    refine T.move .list rfl (wants0 rfl) rfl rfl ?_
    refine T.bin .list rfl (wants0 rfl) rfl rfl rfl rfl ?_
    refine T.move .list rfl (wants0 rfl) rfl rfl ?_
    obtain ⟨hc1, hk1⟩ := inv_chk hk1
    refine T.rem .list rfl (wants0 rfl) rfl rfl rfl hc1 ?_
    refine T.assign .list rfl (wants0 rfl) rfl rfl ?_
    refine T.nil ?_
    refine T.then_normal ?_
    refine T.seq ?_
    refine T.region ?_
    refine T.move .list rfl (wants0 rfl) rfl rfl ?_
    refine T.move .list rfl (wants0 rfl) rfl rfl ?_
    refine T.bin .list rfl (wants0 rfl) rfl rfl rfl rfl ?_
    refine T.move .list rfl (wants0 rfl) rfl rfl ?_
    refine T.move .list rfl (wants0 rfl) rfl rfl ?_
    refine T.bin .list rfl (wants0 rfl) rfl rfl rfl rfl ?_
    obtain ⟨hc2, hk1⟩ := inv_chk hk1
    refine T.rem .list rfl (wants0 rfl) rfl rfl rfl hc2 ?_
    refine T.bin .list rfl (wants0 rfl) rfl rfl rfl rfl ?_
    refine T.assign .list rfl (wants0 rfl) rfl rfl ?_
    refine T.nil ?_
    refine T.then_normal ?_
    refine T.seq ?_
    refine T.region ?_
    refine T.assign .list rfl (wants0 rfl) rfl rfl ?_
    refine T.assign .list rfl (wants0 rfl) rfl rfl ?_
    refine T.assign .list rfl (wants0 rfl) rfl rfl ?_
    refine T.assign .list rfl (wants0 rfl) rfl rfl ?_
    refine T.nil ?_
    refine T.then_normal ?_
    refine T.seqJ (fun (s2 : Unit) (x4 : Unit) => []) (fun s2 x4 => hs) (fun s2 => law19_LeaseApart.k2 s2 = some r) (fun s2 x4 hk2 => ?_) (fun J2 => ?_)
    ·unfold law19_LeaseApart.k2 at hk2
     refine T.seq ?_
     refine T.region ?_
     obtain ⟨r3, hg3, hk2⟩ := inv_bind hk2
     refine T.call .list (wants0 rfl) rfl (run_callF (vs := []) rfl Try.func16 rfl (by decide) rfl) (fun w hS => law19_told.c hS  hg3) (fun x5 => ?_)
     refine T.assign .list rfl (wants0 rfl) rfl rfl ?_
     refine T.nil ?_
     refine T.then_normal ?_
     refine T.ret ?_
     obtain rfl := inv_some hk2
     refine T.pick [] 0 rfl rfl (Nat.le_add_left _ _) rfl ?_
     refine T.ret1 rfl rfl (fun w hS => ⟨(), rfl, hS⟩)
    ·refine T.seq ?_
     refine T.region ?_
     refine T.assign .list rfl (wants0 rfl) rfl rfl ?_
     refine T.nil ?_
     refine T.then_normal ?_
     refine T.block ?_
     obtain ⟨e1, hl1, hk1⟩ := inv_bind hk1
     refine T.le (EnvLe.cons rfl (EnvLe.cons rfl (EnvLe.cons rfl (EnvLe.cons rfl (EnvLe.cons rfl (EnvLe.cons rfl (EnvLe.cons rfl (EnvLe.cons rfl (EnvLe.cons rfl (EnvLe.cons rfl (EnvLe.cons rfl (EnvLe.cons rfl (EnvLe.cons rfl EnvLe.nil))))))))))))) (T.pick [0, 1, 2] 3 rfl rfl (Nat.le_add_left _ _) rfl (T.loop (s0 := (0, 0, 0, 0, 0)) (env := fun s3 x6 => [(0, .slice A0 l0.length c0), (1, .slice A1 l1.length c1), (2, .slice A2 l2.length c2), (3, .int .i64 (Int.tmod (bitsOf .and .i64 a3 65535) (min (min (min (l0.length : Int) ((l1.length : Int))) ((l2.length : Int))) 30))), (4, .int .i64 (IntKind.i64.wrap ((Int.tmod (bitsOf .and .i64 a3 65535) (min (min (min (l0.length : Int) ((l1.length : Int))) ((l2.length : Int))) 30)) + (Int.tmod (bitsOf .and .i64 a4 65535) (IntKind.i64.wrap ((min (min (min (l0.length : Int) ((l1.length : Int))) ((l2.length : Int))) 30) - (Int.tmod (bitsOf .and .i64 a3 65535) (min (min (min (l0.length : Int) ((l1.length : Int))) ((l2.length : Int))) 30)))))))), (5, .int .i64 (IntKind.i64.wrap ((bitsOf .and .i64 a5 1048575) + 1))), (6, .int .i64 a6), (15, .int .i64 (min (min (min (l0.length : Int) ((l1.length : Int))) ((l2.length : Int))) 30)), (16, .int .i64 s3.1), (17, .int .i64 s3.2.1), (18, .int .i64 s3.2.2.1), (19, .int .i64 s3.2.2.2.1), (20, .int .i64 s3.2.2.2.2)]) (hs := fun (s3 : Int × Int × Int × Int × Int) (x6 : Unit) => Ro E64 A0 c0 l0 :: Ro E64 A1 c1 l1 :: Ro E64 A2 c2 l2 :: hs) hl1 () (fun K1 s3 x6 o1 he1 hm1 hx1 => ?_)))
     unfold law19_LeaseApart.st1 at he1
     refine T.seq ?_
     refine T.seq ?_
     refine T.region ?_
     refine T.move .list rfl (wants0 rfl) rfl rfl ?_
     refine T.move .list rfl (wants0 rfl) rfl rfl ?_
     refine T.bin .list rfl (wants0 rfl) rfl rfl rfl rfl ?_
     refine T.nil ?_
     refine T.then_normal ?_
     refine T.cond rfl (fun hb3 => ?_) (fun hb3 => ?_)
     ·replace he1 := inv_posB hb3 he1
      refine T.skip ?_
      refine T.then_normal ?_
      refine T.seq ?_
      refine T.block ?_
      refine T.seqJ (fun (s4 : Int) (x7 : Unit) => [(0, .slice A0 l0.length c0), (1, .slice A1 l1.length c1), (2, .slice A2 l2.length c2), (3, .int .i64 (Int.tmod (bitsOf .and .i64 a3 65535) (min (min (min (l0.length : Int) ((l1.length : Int))) ((l2.length : Int))) 30))), (4, .int .i64 (IntKind.i64.wrap ((Int.tmod (bitsOf .and .i64 a3 65535) (min (min (min (l0.length : Int) ((l1.length : Int))) ((l2.length : Int))) 30)) + (Int.tmod (bitsOf .and .i64 a4 65535) (IntKind.i64.wrap ((min (min (min (l0.length : Int) ((l1.length : Int))) ((l2.length : Int))) 30) - (Int.tmod (bitsOf .and .i64 a3 65535) (min (min (min (l0.length : Int) ((l1.length : Int))) ((l2.length : Int))) 30)))))))), (5, .int .i64 (IntKind.i64.wrap ((bitsOf .and .i64 a5 1048575) + 1))), (6, .int .i64 a6), (15, .int .i64 (min (min (min (l0.length : Int) ((l1.length : Int))) ((l2.length : Int))) 30)), (16, .int .i64 s3.1), (17, .int .i64 s3.2.1), (18, .int .i64 s4), (19, .int .i64 s3.2.2.2.1), (20, .int .i64 s3.2.2.2.2)]) (fun s4 x7 => Ro E64 A0 c0 l0 :: Ro E64 A1 c1 l1 :: Ro E64 A2 c2 l2 :: hs) (fun s4 => law19_LeaseApart.k3 s3 a3 l0 l1 l2 a4 a6 a5 s4 = some o1) (fun s4 x7 hk3 => ?_) (fun J3 => ?_)
      ·unfold law19_LeaseApart.k3 at hk3
       refine T.seqJ (fun (s5 : Int) (x8 : Unit) => [(0, .slice A0 l0.length c0), (1, .slice A1 l1.length c1), (2, .slice A2 l2.length c2), (3, .int .i64 (Int.tmod (bitsOf .and .i64 a3 65535) (min (min (min (l0.length : Int) ((l1.length : Int))) ((l2.length : Int))) 30))), (4, .int .i64 (IntKind.i64.wrap ((Int.tmod (bitsOf .and .i64 a3 65535) (min (min (min (l0.length : Int) ((l1.length : Int))) ((l2.length : Int))) 30)) + (Int.tmod (bitsOf .and .i64 a4 65535) (IntKind.i64.wrap ((min (min (min (l0.length : Int) ((l1.length : Int))) ((l2.length : Int))) 30) - (Int.tmod (bitsOf .and .i64 a3 65535) (min (min (min (l0.length : Int) ((l1.length : Int))) ((l2.length : Int))) 30)))))))), (5, .int .i64 (IntKind.i64.wrap ((bitsOf .and .i64 a5 1048575) + 1))), (6, .int .i64 a6), (15, .int .i64 (min (min (min (l0.length : Int) ((l1.length : Int))) ((l2.length : Int))) 30)), (16, .int .i64 s3.1), (17, .int .i64 s3.2.1), (18, .int .i64 s4), (19, .int .i64 s5), (20, .int .i64 s3.2.2.2.2)]) (fun s5 x8 => Ro E64 A0 c0 l0 :: Ro E64 A1 c1 l1 :: Ro E64 A2 c2 l2 :: hs) (fun s5 => law19_LeaseApart.k4 s3 l0 l1 a6 l2 a3 a4 s4 a5 s5 = some o1) (fun s5 x8 hk4 => ?_) (fun J4 => ?_)
       ·unfold law19_LeaseApart.k4 at hk4
        refine T.seq ?_
        refine T.seqJ (fun (s6 : Bool) (x9 : Unit) => [(0, .slice A0 l0.length c0), (1, .slice A1 l1.length c1), (2, .slice A2 l2.length c2), (3, .int .i64 (Int.tmod (bitsOf .and .i64 a3 65535) (min (min (min (l0.length : Int) ((l1.length : Int))) ((l2.length : Int))) 30))), (4, .int .i64 (IntKind.i64.wrap ((Int.tmod (bitsOf .and .i64 a3 65535) (min (min (min (l0.length : Int) ((l1.length : Int))) ((l2.length : Int))) 30)) + (Int.tmod (bitsOf .and .i64 a4 65535) (IntKind.i64.wrap ((min (min (min (l0.length : Int) ((l1.length : Int))) ((l2.length : Int))) 30) - (Int.tmod (bitsOf .and .i64 a3 65535) (min (min (min (l0.length : Int) ((l1.length : Int))) ((l2.length : Int))) 30)))))))), (5, .int .i64 (IntKind.i64.wrap ((bitsOf .and .i64 a5 1048575) + 1))), (6, .int .i64 a6), (15, .int .i64 (min (min (min (l0.length : Int) ((l1.length : Int))) ((l2.length : Int))) 30)), (16, .int .i64 s3.1), (17, .int .i64 s3.2.1), (18, .int .i64 s4), (19, .int .i64 s5), (20, .int .i64 s3.2.2.2.2), (115, .bool s6)]) (fun s6 x9 => Ro E64 A0 c0 l0 :: Ro E64 A1 c1 l1 :: Ro E64 A2 c2 l2 :: hs) (fun s6 => law19_LeaseApart.k5 s3 l1 l2 a3 l0 a4 s4 a5 a6 s5 s6 = some o1) (fun s6 x9 hk5 => ?_) (fun J5 => ?_)
        ·unfold law19_LeaseApart.k5 at hk5
         refine T.cond rfl (fun hb4 => ?_) (fun hb4 => ?_)
         ·replace hk5 := inv_posB hb4 hk5
          refine T.seq ?_
          refine T.region ?_
          obtain ⟨r4, hg4, hk5⟩ := inv_bind hk5
          refine T.call .list (wants0 rfl) rfl (run_callF (vs := []) rfl Try.func16 rfl (by decide) rfl) (fun w hS => law19_told.c hS  hg4) (fun x10 => ?_)
          refine T.assign .list rfl (wants0 rfl) rfl rfl ?_
          refine T.nil ?_
          refine T.then_normal ?_
          refine T.ret ?_
          refine T.then_ret ?_
          refine T.in_ret ?_
          refine T.then_ret ?_
          refine T.then_ret ?_
          obtain rfl := inv_some hk5
          obtain rfl := hx1 _ rfl
          refine T.in_ret ?_
          refine T.then_ret ?_
          obtain rfl := inv_some hk1
          refine T.pick [] 3 rfl rfl (Nat.le_add_left _ _) rfl ?_
          refine T.ret1 rfl rfl (fun w hS => ⟨(), rfl, hS⟩)
         ·replace hk5 := inv_negB hb4 hk5
          refine T.skip ?_
          refine T.then_normal ?_
          refine T.seq ?_
          refine T.plan [(0, 0), (1, 0), (2, 0), (3, 0), (6, 0), (7, 0), (8, 0), (9, 0), (4, 1), (5, 0), (12, 0), (10, 1), (11, 0), (13, 0)] mixed (by kernel_rfl) (by kernel_rfl) rfl (fun d _ _ _ _ h => by cases d <;> exact h) ?_
          refine T.move (.plan rfl) rfl (wants0 rfl) rfl rfl ?_
          refine T.move (.plan rfl) rfl (wants0 rfl) rfl rfl ?_
          refine T.move (.plan rfl) rfl (wants0 rfl) rfl rfl ?_
          obtain ⟨hc3, hk5⟩ := inv_chk hk5
          refine T.idxRo (.plan rfl) 1 rfl rfl (wants0 rfl) rfl rfl rfl hc3.1 hc3.2 (Nat.le_refl _) ?_
          refine T.move (.plan rfl) rfl (wants0 rfl) rfl rfl ?_
          refine T.move (.plan rfl) rfl (wants0 rfl) rfl rfl ?_
          refine T.move (.plan rfl) rfl (wants0 rfl) rfl rfl ?_
          obtain ⟨hc4, hk5⟩ := inv_chk hk5
          refine T.idxRo (.plan rfl) 2 rfl rfl (wants0 rfl) rfl rfl rfl hc4.1 hc4.2 (Nat.le_refl _) ?_
          refine T.ldRo1 (.plan rfl) 1 rfl rfl (wants0 rfl) rfl rfl hc3.1 hc3.2 ?_
          refine T.bin (.plan rfl) rfl (wants0 rfl) rfl rfl rfl rfl ?_
          refine T.assign (.plan rfl) rfl (wants0 rfl) rfl rfl ?_
          refine T.ldRo1 (.plan rfl) 2 rfl rfl (wants0 rfl) rfl rfl hc4.1 hc4.2 ?_
          refine T.bin (.plan rfl) rfl (wants0 rfl) rfl rfl rfl rfl ?_
          refine T.assign (.plan rfl) rfl (wants0 rfl) rfl rfl ?_
          refine T.planEnd ?_
          refine T.then_normal ?_
          refine T.seqJ (fun (s7 : Bool) (x11 : Unit) => [(0, .slice A0 l0.length c0), (1, .slice A1 l1.length c1), (2, .slice A2 l2.length c2), (3, .int .i64 (Int.tmod (bitsOf .and .i64 a3 65535) (min (min (min (l0.length : Int) ((l1.length : Int))) ((l2.length : Int))) 30))), (4, .int .i64 (IntKind.i64.wrap ((Int.tmod (bitsOf .and .i64 a3 65535) (min (min (min (l0.length : Int) ((l1.length : Int))) ((l2.length : Int))) 30)) + (Int.tmod (bitsOf .and .i64 a4 65535) (IntKind.i64.wrap ((min (min (min (l0.length : Int) ((l1.length : Int))) ((l2.length : Int))) 30) - (Int.tmod (bitsOf .and .i64 a3 65535) (min (min (min (l0.length : Int) ((l1.length : Int))) ((l2.length : Int))) 30)))))))), (5, .int .i64 (IntKind.i64.wrap ((bitsOf .and .i64 a5 1048575) + 1))), (6, .int .i64 a6), (15, .int .i64 (min (min (min (l0.length : Int) ((l1.length : Int))) ((l2.length : Int))) 30)), (16, .int .i64 (IntKind.i64.wrap (s3.1 + (((l1).getD (s3.2.2.2.2 : Int).toNat default))))), (17, .int .i64 (IntKind.i64.wrap (s3.2.1 + (((l2).getD (s3.2.2.2.2 : Int).toNat default))))), (18, .int .i64 s4), (19, .int .i64 s5), (20, .int .i64 s3.2.2.2.2), (145, .bool s7)]) (fun s7 x11 => Ro E64 A0 c0 l0 :: Ro E64 A1 c1 l1 :: Ro E64 A2 c2 l2 :: hs) (fun s7 => law19_LeaseApart.k6 s3 l1 l2 s4 s5 s7 = some o1) (fun s7 x11 hk6 => ?_) (fun J6 => ?_)
          ·unfold law19_LeaseApart.k6 at hk6
           refine T.cond rfl (fun hb5 => ?_) (fun hb5 => ?_)
           ·replace hk6 := inv_posB hb5 hk6
            refine T.seq ?_
            refine T.region ?_
            refine T.assign .list rfl (wants0 rfl) rfl rfl ?_
            refine T.nil ?_
            refine T.then_normal ?_
            refine T.ret ?_
            refine T.in_ret ?_
            refine T.then_ret ?_
            refine T.then_ret ?_
            obtain rfl := inv_some hk6
            obtain rfl := hx1 _ rfl
            refine T.in_ret ?_
            refine T.then_ret ?_
            obtain rfl := inv_some hk1
            refine T.pick [] 3 rfl rfl (Nat.le_add_left _ _) rfl ?_
            refine T.ret1 rfl rfl (fun w hS => ⟨(), rfl, hS⟩)
           ·replace hk6 := inv_negB hb5 hk6
            refine T.skip ?_
            refine T.in_normal ?_
            refine T.then_normal ?_
            refine T.region ?_
            refine T.move .list rfl (wants0 rfl) rfl rfl ?_
            refine T.bin .list rfl (wants0 rfl) rfl rfl rfl rfl ?_
            refine T.assign .list rfl (wants0 rfl) rfl rfl ?_
            refine T.nil ?_
            refine T.then_normal ?_
            obtain rfl := inv_some hk6
            exact T.le (EnvLe.cons rfl (EnvLe.cons rfl (EnvLe.cons rfl (EnvLe.cons rfl (EnvLe.cons rfl (EnvLe.cons rfl (EnvLe.cons rfl (EnvLe.cons rfl (EnvLe.cons rfl (EnvLe.cons rfl (EnvLe.cons rfl (EnvLe.cons rfl (EnvLe.cons rfl EnvLe.nil))))))))))))) (T.pick [0, 1, 2] 3 rfl rfl (Nat.le_add_left _ _) rfl (hm1 (IntKind.i64.wrap (s3.1 + (((l1).getD (s3.2.2.2.2 : Int).toNat default))), IntKind.i64.wrap (s3.2.1 + (((l2).getD (s3.2.2.2.2 : Int).toNat default))), s4, s5, IntKind.i64.wrap (s3.2.2.2.2 + 1)) rfl ()))
          ·refine T.region ?_
           refine T.move .list rfl (wants0 rfl) rfl rfl ?_
           refine T.move .list rfl (wants0 rfl) rfl rfl ?_
           refine T.bin .list rfl (wants0 rfl) rfl rfl rfl rfl ?_
           refine T.move .list rfl (wants0 rfl) rfl rfl ?_
           refine T.bool (b := (decide (((IntKind.i64.wrap ((Int.tmod (bitsOf .and .i64 a3 65535) (min (min (min (l0.length : Int) ((l1.length : Int))) ((l2.length : Int))) 30)) + (Int.tmod (bitsOf .and .i64 a4 65535) (IntKind.i64.wrap ((min (min (min (l0.length : Int) ((l1.length : Int))) ((l2.length : Int))) 30) - (Int.tmod (bitsOf .and .i64 a3 65535) (min (min (min (l0.length : Int) ((l1.length : Int))) ((l2.length : Int))) 30)))))))) ≤ s3.2.2.2.2))) (fun hb6 => ?_) (fun hb6 => ?_)
           ·replace hk5 := inv_posB hb6 hk5
            refine T.move .list rfl (wants1 rfl rfl rfl hb6) rfl rfl ?_
            refine T.move .list rfl (wants1 rfl rfl rfl hb6) rfl rfl ?_
            refine T.move .list rfl (wants1 rfl rfl rfl hb6) rfl rfl ?_
            refine T.move .list rfl (wants1 rfl rfl rfl hb6) rfl rfl ?_
            obtain ⟨r5, hg5, hk5⟩ := inv_bind hk5
            refine T.call .list (wants1 rfl rfl rfl hb6) rfl (run_callF (vs := [_, _, _, _]) rfl Try.func17 rfl (by decide) rfl) (fun w hS => lease_Serves.c hS  hg5) (fun x12 => ?_)
            refine T.pickT .list rfl (wants0 rfl) rfl rfl hb6 rfl ?_
            refine T.move .list rfl (wants0 rfl) rfl rfl ?_
            refine T.bool (b := r5) (fun hb7 => ?_) (fun hb7 => ?_)
            ·replace hk5 := inv_posB hb7 hk5
             refine T.move .list rfl (wants1 rfl rfl rfl hb7) rfl rfl ?_
             refine T.move .list rfl (wants1 rfl rfl rfl hb7) rfl rfl ?_
             refine T.move .list rfl (wants1 rfl rfl rfl hb7) rfl rfl ?_
             refine T.move .list rfl (wants1 rfl rfl rfl hb7) rfl rfl ?_
             obtain ⟨r6, hg6, hk5⟩ := inv_bind hk5
             refine T.call .list (wants1 rfl rfl rfl hb7) rfl (run_callF (vs := [_, _, _, _]) rfl Try.func18 rfl (by decide) rfl) (fun w hS => lease_Ended.c hS  hg6) (fun x13 => ?_)
             refine T.pickT .list rfl (wants0 rfl) rfl rfl hb7 rfl ?_
             refine T.nil ?_
             refine T.then_normal ?_
             exact T.le (EnvLe.cons rfl (EnvLe.cons rfl (EnvLe.cons rfl (EnvLe.cons rfl (EnvLe.cons rfl (EnvLe.cons rfl (EnvLe.cons rfl (EnvLe.cons rfl (EnvLe.cons rfl (EnvLe.cons rfl (EnvLe.cons rfl (EnvLe.cons rfl (EnvLe.cons rfl (EnvLe.cons rfl EnvLe.nil)))))))))))))) (T.pick [0, 1, 2] 3 rfl rfl (Nat.le_add_left _ _) rfl (J6 r6 () hk5))
            ·replace hk5 := inv_negB hb7 hk5
             refine T.leave .list (wantsNot rfl rfl rfl hb7) rfl ?_
             refine T.leave .list (wantsNot rfl rfl rfl hb7) rfl ?_
             refine T.leave .list (wantsNot rfl rfl rfl hb7) rfl ?_
             refine T.leave .list (wantsNot rfl rfl rfl hb7) rfl ?_
             refine T.leave .list (wantsNot rfl rfl rfl hb7) rfl ?_
             refine T.pickF .list rfl (wants0 rfl) rfl rfl hb7 rfl ?_
             refine T.nil ?_
             refine T.then_normal ?_
             exact T.le (EnvLe.cons rfl (EnvLe.cons rfl (EnvLe.cons rfl (EnvLe.cons rfl (EnvLe.cons rfl (EnvLe.cons rfl (EnvLe.cons rfl (EnvLe.cons rfl (EnvLe.cons rfl (EnvLe.cons rfl (EnvLe.cons rfl (EnvLe.cons rfl (EnvLe.cons rfl (EnvLe.cons rfl EnvLe.nil)))))))))))))) (T.pick [0, 1, 2] 3 rfl rfl (Nat.le_add_left _ _) rfl (J6 false () hk5))
           ·replace hk5 := inv_negB hb6 hk5
            refine T.leave .list (wantsNot rfl rfl rfl hb6) rfl ?_
            refine T.leave .list (wantsNot rfl rfl rfl hb6) rfl ?_
            refine T.leave .list (wantsNot rfl rfl rfl hb6) rfl ?_
            refine T.leave .list (wantsNot rfl rfl rfl hb6) rfl ?_
            refine T.leave .list (wantsNot rfl rfl rfl hb6) rfl ?_
            refine T.pickF .list rfl (wants0 rfl) rfl rfl hb6 rfl ?_
            refine T.move .list rfl (wants0 rfl) rfl rfl ?_
            refine T.leave .list (wantsNot rfl rfl rfl rfl) rfl ?_
            refine T.leave .list (wantsNot rfl rfl rfl rfl) rfl ?_
            refine T.leave .list (wantsNot rfl rfl rfl rfl) rfl ?_
            refine T.leave .list (wantsNot rfl rfl rfl rfl) rfl ?_
            refine T.leave .list (wantsNot rfl rfl rfl rfl) rfl ?_
            refine T.pickF .list rfl (wants0 rfl) rfl rfl rfl rfl ?_
            refine T.nil ?_
            refine T.then_normal ?_
            exact T.le (EnvLe.cons rfl (EnvLe.cons rfl (EnvLe.cons rfl (EnvLe.cons rfl (EnvLe.cons rfl (EnvLe.cons rfl (EnvLe.cons rfl (EnvLe.cons rfl (EnvLe.cons rfl (EnvLe.cons rfl (EnvLe.cons rfl (EnvLe.cons rfl (EnvLe.cons rfl (EnvLe.cons rfl EnvLe.nil)))))))))))))) (T.pick [0, 1, 2] 3 rfl rfl (Nat.le_add_left _ _) rfl (J6 false () hk5))
        ·refine T.plan [(0, 0), (1, 0), (2, 0), (4, 0), (5, 0), (6, 0), (8, 0), (3, 1), (7, 1), (9, 2), (10, 0), (11, 0), (12, 0), (13, 0), (14, 0), (16, 0), (17, 0), (18, 0), (20, 0), (15, 1), (19, 1), (21, 2), (22, 0), (23, 0), (24, 0), (25, 0), (26, 0), (27, 0), (28, 0), (29, 0), (30, 0), (31, 0), (32, 0), (33, 0), (34, 0), (35, 0), (36, 1), (37, 0), (38, 0), (39, 0), (40, 0), (41, 0), (42, 0), (43, 1), (44, 0), (45, 0)] mixed (by kernel_rfl) (by kernel_rfl) rfl (fun d _ _ _ _ h => by cases d <;> exact h) ?_
         refine T.move (.plan rfl) rfl (wants0 rfl) rfl rfl ?_
         refine T.move (.plan rfl) rfl (wants0 rfl) rfl rfl ?_
         obtain ⟨hc5, hk4⟩ := inv_chk hk4
         refine T.idxRo (.plan rfl) 0 rfl rfl (wants0 rfl) rfl rfl rfl hc5.1 hc5.2 (Nat.le_refl _) ?_
         refine T.move (.plan rfl) rfl (wants0 rfl) rfl rfl ?_
         refine T.move (.plan rfl) rfl (wants0 rfl) rfl rfl ?_
         obtain ⟨hc6, hk4⟩ := inv_chk hk4
         refine T.idxRo (.plan rfl) 1 rfl rfl (wants0 rfl) rfl rfl rfl hc6.1 hc6.2 (Nat.le_refl _) ?_
         refine T.move (.plan rfl) rfl (wants0 rfl) rfl rfl ?_
         refine T.ldRo1 (.plan rfl) 0 rfl rfl (wants0 rfl) rfl rfl hc5.1 hc5.2 ?_
         refine T.ldRo1 (.plan rfl) 1 rfl rfl (wants0 rfl) rfl rfl hc6.1 hc6.2 ?_
         obtain ⟨r7, hg7, hk4⟩ := inv_bind hk4
         refine T.call (.plan rfl) (wants0 rfl) rfl (run_callF (vs := [_, _, _]) rfl Try.func21 rfl (by decide) rfl) (fun w hS => lease_Within.c hS  hg7) (fun x14 => ?_)
         refine T.not (.plan rfl) rfl (wants0 rfl) rfl rfl ?_
         refine T.move (.plan rfl) rfl (wants0 rfl) rfl rfl ?_
         refine T.bool (b := r7) (fun hb8 => ?_) (fun hb8 => ?_)
         ·replace hk4 := inv_posB hb8 hk4
          refine T.move (.plan rfl) rfl (wants1 rfl rfl rfl (not_t hb8)) rfl rfl ?_
          refine T.move (.plan rfl) rfl (wants1 rfl rfl rfl (not_t hb8)) rfl rfl ?_
          obtain ⟨hc7, hk4⟩ := inv_chk hk4
          refine T.idxRo (.plan rfl) 0 rfl rfl (wants1 rfl rfl rfl (not_t hb8)) rfl rfl rfl hc7.1 hc7.2 (Nat.le_refl _) ?_
          refine T.move (.plan rfl) rfl (wants1 rfl rfl rfl (not_t hb8)) rfl rfl ?_
          refine T.move (.plan rfl) rfl (wants1 rfl rfl rfl (not_t hb8)) rfl rfl ?_
          obtain ⟨hc8, hk4⟩ := inv_chk hk4
          refine T.idxRo (.plan rfl) 2 rfl rfl (wants1 rfl rfl rfl (not_t hb8)) rfl rfl rfl hc8.1 hc8.2 (Nat.le_refl _) ?_
          refine T.move (.plan rfl) rfl (wants1 rfl rfl rfl (not_t hb8)) rfl rfl ?_
          refine T.ldRo1 (.plan rfl) 0 rfl rfl (wants1 rfl rfl rfl (not_t hb8)) rfl rfl hc7.1 hc7.2 ?_
          refine T.ldRo1 (.plan rfl) 2 rfl rfl (wants1 rfl rfl rfl (not_t hb8)) rfl rfl hc8.1 hc8.2 ?_
          obtain ⟨r8, hg8, hk4⟩ := inv_bind hk4
          refine T.call (.plan rfl) (wants1 rfl rfl rfl (not_t hb8)) rfl (run_callF (vs := [_, _, _]) rfl Try.func21 rfl (by decide) rfl) (fun w hS => lease_Within.c hS  hg8) (fun x15 => ?_)
          refine T.not (.plan rfl) rfl (wants1 rfl rfl rfl (not_t hb8)) rfl rfl ?_
          refine T.pickF (.plan rfl) rfl (wants0 rfl) rfl rfl (not_t hb8) rfl ?_
          refine T.move (.plan rfl) rfl (wants0 rfl) rfl rfl ?_
          refine T.bool (b := r8) (fun hb9 => ?_) (fun hb9 => ?_)
          ·replace hk4 := inv_posB hb9 hk4
           refine T.move (.plan rfl) rfl (wants1 rfl rfl rfl (not_t hb9)) rfl rfl ?_
           refine T.bin (.plan rfl) rfl (wants1 rfl rfl rfl (not_t hb9)) rfl rfl rfl rfl ?_
           refine T.pickF (.plan rfl) rfl (wants0 rfl) rfl rfl (not_t hb9) rfl ?_
           refine T.move (.plan rfl) rfl (wants0 rfl) rfl rfl ?_
           refine T.bool (b := (decide ((549755813888 : Int) < s3.1))) (fun hb10 => ?_) (fun hb10 => ?_)
           ·replace hk4 := inv_posB hb10 hk4
            refine T.leave (.plan rfl) (wantsNot rfl rfl rfl hb10) rfl ?_
            refine T.leave (.plan rfl) (wantsNot rfl rfl rfl hb10) rfl ?_
            refine T.pickT (.plan rfl) rfl (wants0 rfl) rfl rfl hb10 rfl ?_
            refine T.move (.plan rfl) rfl (wants0 rfl) rfl rfl ?_
            refine T.leave (.plan rfl) (wantsNot rfl rfl rfl rfl) rfl ?_
            refine T.leave (.plan rfl) (wantsNot rfl rfl rfl rfl) rfl ?_
            refine T.leave (.plan rfl) (wantsNot rfl rfl rfl rfl) rfl ?_
            refine T.leave (.plan rfl) (wantsNot rfl rfl rfl rfl) rfl ?_
            refine T.leave (.plan rfl) (wantsNot rfl rfl rfl rfl) rfl ?_
            refine T.pickT (.plan rfl) rfl (wants0 rfl) rfl rfl rfl rfl ?_
            refine T.move (.plan rfl) rfl (wants0 rfl) rfl rfl ?_
            refine T.leave (.plan rfl) (wantsNot rfl rfl rfl rfl) rfl ?_
            refine T.leave (.plan rfl) (wantsNot rfl rfl rfl rfl) rfl ?_
            refine T.leave (.plan rfl) (wantsNot rfl rfl rfl rfl) rfl ?_
            refine T.leave (.plan rfl) (wantsNot rfl rfl rfl rfl) rfl ?_
            refine T.leave (.plan rfl) (wantsNot rfl rfl rfl rfl) rfl ?_
            refine T.pickT (.plan rfl) rfl (wants0 rfl) rfl rfl rfl rfl ?_
            refine T.planEnd ?_
            refine T.then_normal ?_
            exact T.le (EnvLe.cons rfl (EnvLe.cons rfl (EnvLe.cons rfl (EnvLe.cons rfl (EnvLe.cons rfl (EnvLe.cons rfl (EnvLe.cons rfl (EnvLe.cons rfl (EnvLe.cons rfl (EnvLe.cons rfl (EnvLe.cons rfl (EnvLe.cons rfl (EnvLe.cons rfl (EnvLe.cons rfl EnvLe.nil)))))))))))))) (T.pick [0, 1, 2] 3 rfl rfl (Nat.le_add_left _ _) rfl (J5 true () hk4))
           ·replace hk4 := inv_negB hb10 hk4
            refine T.move (.plan rfl) rfl (wants1 rfl rfl rfl hb10) rfl rfl ?_
            refine T.bin (.plan rfl) rfl (wants1 rfl rfl rfl hb10) rfl rfl rfl rfl ?_
            refine T.pickF (.plan rfl) rfl (wants0 rfl) rfl rfl hb10 rfl ?_
            refine T.move (.plan rfl) rfl (wants0 rfl) rfl rfl ?_
            refine T.bool (b := (decide ((549755813888 : Int) < s3.2.1))) (fun hb11 => ?_) (fun hb11 => ?_)
            ·replace hk4 := inv_posB hb11 hk4
             refine T.leave (.plan rfl) (wantsNot rfl rfl rfl hb11) rfl ?_
             refine T.leave (.plan rfl) (wantsNot rfl rfl rfl hb11) rfl ?_
             refine T.leave (.plan rfl) (wantsNot rfl rfl rfl hb11) rfl ?_
             refine T.leave (.plan rfl) (wantsNot rfl rfl rfl hb11) rfl ?_
             refine T.leave (.plan rfl) (wantsNot rfl rfl rfl hb11) rfl ?_
             refine T.pickT (.plan rfl) rfl (wants0 rfl) rfl rfl hb11 rfl ?_
             refine T.move (.plan rfl) rfl (wants0 rfl) rfl rfl ?_
             refine T.leave (.plan rfl) (wantsNot rfl rfl rfl rfl) rfl ?_
             refine T.leave (.plan rfl) (wantsNot rfl rfl rfl rfl) rfl ?_
             refine T.leave (.plan rfl) (wantsNot rfl rfl rfl rfl) rfl ?_
             refine T.leave (.plan rfl) (wantsNot rfl rfl rfl rfl) rfl ?_
             refine T.leave (.plan rfl) (wantsNot rfl rfl rfl rfl) rfl ?_
             refine T.pickT (.plan rfl) rfl (wants0 rfl) rfl rfl rfl rfl ?_
             refine T.planEnd ?_
             refine T.then_normal ?_
             exact T.le (EnvLe.cons rfl (EnvLe.cons rfl (EnvLe.cons rfl (EnvLe.cons rfl (EnvLe.cons rfl (EnvLe.cons rfl (EnvLe.cons rfl (EnvLe.cons rfl (EnvLe.cons rfl (EnvLe.cons rfl (EnvLe.cons rfl (EnvLe.cons rfl (EnvLe.cons rfl (EnvLe.cons rfl EnvLe.nil)))))))))))))) (T.pick [0, 1, 2] 3 rfl rfl (Nat.le_add_left _ _) rfl (J5 true () hk4))
            ·replace hk4 := inv_negB hb11 hk4
             refine T.move (.plan rfl) rfl (wants1 rfl rfl rfl hb11) rfl rfl ?_
             refine T.move (.plan rfl) rfl (wants1 rfl rfl rfl hb11) rfl rfl ?_
             obtain ⟨hc9, hk4⟩ := inv_chk hk4
             refine T.idxRo (.plan rfl) 1 rfl rfl (wants1 rfl rfl rfl hb11) rfl rfl rfl hc9.1 hc9.2 (Nat.le_refl _) ?_
             refine T.ldRo1 (.plan rfl) 1 rfl rfl (wants1 rfl rfl rfl hb11) rfl rfl hc9.1 hc9.2 ?_
             refine T.bin (.plan rfl) rfl (wants1 rfl rfl rfl hb11) rfl rfl rfl rfl ?_
             refine T.pickF (.plan rfl) rfl (wants0 rfl) rfl rfl hb11 rfl ?_
             refine T.move (.plan rfl) rfl (wants0 rfl) rfl rfl ?_
             refine T.bool (b := (decide ((549755813888 : Int) < (((l1).getD (s3.2.2.2.2 : Int).toNat default))))) (fun hb12 => ?_) (fun hb12 => ?_)
             ·replace hk4 := inv_posB hb12 hk4
              refine T.leave (.plan rfl) (wantsNot rfl rfl rfl hb12) rfl ?_
              refine T.leave (.plan rfl) (wantsNot rfl rfl rfl hb12) rfl ?_
              refine T.leave (.plan rfl) (wantsNot rfl rfl rfl hb12) rfl ?_
              refine T.leave (.plan rfl) (wantsNot rfl rfl rfl hb12) rfl ?_
              refine T.leave (.plan rfl) (wantsNot rfl rfl rfl hb12) rfl ?_
              refine T.pickT (.plan rfl) rfl (wants0 rfl) rfl rfl hb12 rfl ?_
              refine T.planEnd ?_
              refine T.then_normal ?_
              exact T.le (EnvLe.cons rfl (EnvLe.cons rfl (EnvLe.cons rfl (EnvLe.cons rfl (EnvLe.cons rfl (EnvLe.cons rfl (EnvLe.cons rfl (EnvLe.cons rfl (EnvLe.cons rfl (EnvLe.cons rfl (EnvLe.cons rfl (EnvLe.cons rfl (EnvLe.cons rfl (EnvLe.cons rfl EnvLe.nil)))))))))))))) (T.pick [0, 1, 2] 3 rfl rfl (Nat.le_add_left _ _) rfl (J5 true () hk4))
             ·replace hk4 := inv_negB hb12 hk4
              refine T.move (.plan rfl) rfl (wants1 rfl rfl rfl hb12) rfl rfl ?_
              refine T.move (.plan rfl) rfl (wants1 rfl rfl rfl hb12) rfl rfl ?_
              obtain ⟨hc10, hk4⟩ := inv_chk hk4
              refine T.idxRo (.plan rfl) 2 rfl rfl (wants1 rfl rfl rfl hb12) rfl rfl rfl hc10.1 hc10.2 (Nat.le_refl _) ?_
              refine T.ldRo1 (.plan rfl) 2 rfl rfl (wants1 rfl rfl rfl hb12) rfl rfl hc10.1 hc10.2 ?_
              refine T.bin (.plan rfl) rfl (wants1 rfl rfl rfl hb12) rfl rfl rfl rfl ?_
              refine T.pickF (.plan rfl) rfl (wants0 rfl) rfl rfl hb12 rfl ?_
              refine T.planEnd ?_
              refine T.then_normal ?_
              exact T.le (EnvLe.cons rfl (EnvLe.cons rfl (EnvLe.cons rfl (EnvLe.cons rfl (EnvLe.cons rfl (EnvLe.cons rfl (EnvLe.cons rfl (EnvLe.cons rfl (EnvLe.cons rfl (EnvLe.cons rfl (EnvLe.cons rfl (EnvLe.cons rfl (EnvLe.cons rfl (EnvLe.cons rfl EnvLe.nil)))))))))))))) (T.pick [0, 1, 2] 3 rfl rfl (Nat.le_add_left _ _) rfl (J5 (decide ((549755813888 : Int) < (((l2).getD (s3.2.2.2.2 : Int).toNat default)))) () hk4))
          ·replace hk4 := inv_negB hb9 hk4
           refine T.leave (.plan rfl) (wantsNot rfl rfl rfl (not_f hb9)) rfl ?_
           refine T.leave (.plan rfl) (wantsNot rfl rfl rfl (not_f hb9)) rfl ?_
           refine T.pickT (.plan rfl) rfl (wants0 rfl) rfl rfl (not_f hb9) rfl ?_
           refine T.move (.plan rfl) rfl (wants0 rfl) rfl rfl ?_
           refine T.leave (.plan rfl) (wantsNot rfl rfl rfl rfl) rfl ?_
           refine T.leave (.plan rfl) (wantsNot rfl rfl rfl rfl) rfl ?_
           refine T.pickT (.plan rfl) rfl (wants0 rfl) rfl rfl rfl rfl ?_
           refine T.move (.plan rfl) rfl (wants0 rfl) rfl rfl ?_
           refine T.leave (.plan rfl) (wantsNot rfl rfl rfl rfl) rfl ?_
           refine T.leave (.plan rfl) (wantsNot rfl rfl rfl rfl) rfl ?_
           refine T.leave (.plan rfl) (wantsNot rfl rfl rfl rfl) rfl ?_
           refine T.leave (.plan rfl) (wantsNot rfl rfl rfl rfl) rfl ?_
           refine T.leave (.plan rfl) (wantsNot rfl rfl rfl rfl) rfl ?_
           refine T.pickT (.plan rfl) rfl (wants0 rfl) rfl rfl rfl rfl ?_
           refine T.move (.plan rfl) rfl (wants0 rfl) rfl rfl ?_
           refine T.leave (.plan rfl) (wantsNot rfl rfl rfl rfl) rfl ?_
           refine T.leave (.plan rfl) (wantsNot rfl rfl rfl rfl) rfl ?_
           refine T.leave (.plan rfl) (wantsNot rfl rfl rfl rfl) rfl ?_
           refine T.leave (.plan rfl) (wantsNot rfl rfl rfl rfl) rfl ?_
           refine T.leave (.plan rfl) (wantsNot rfl rfl rfl rfl) rfl ?_
           refine T.pickT (.plan rfl) rfl (wants0 rfl) rfl rfl rfl rfl ?_
           refine T.planEnd ?_
           refine T.then_normal ?_
           exact T.le (EnvLe.cons rfl (EnvLe.cons rfl (EnvLe.cons rfl (EnvLe.cons rfl (EnvLe.cons rfl (EnvLe.cons rfl (EnvLe.cons rfl (EnvLe.cons rfl (EnvLe.cons rfl (EnvLe.cons rfl (EnvLe.cons rfl (EnvLe.cons rfl (EnvLe.cons rfl (EnvLe.cons rfl EnvLe.nil)))))))))))))) (T.pick [0, 1, 2] 3 rfl rfl (Nat.le_add_left _ _) rfl (J5 true () hk4))
         ·replace hk4 := inv_negB hb8 hk4
          refine T.leave (.plan rfl) (wantsNot rfl rfl rfl (not_f hb8)) rfl ?_
          refine T.leave (.plan rfl) (wantsNot rfl rfl rfl (not_f hb8)) rfl ?_
          refine T.leave (.plan rfl) (wantsNot rfl rfl rfl (not_f hb8)) rfl ?_
          refine T.leave (.plan rfl) (wantsNot rfl rfl rfl (not_f hb8)) rfl ?_
          refine T.leave (.plan rfl) (wantsNot rfl rfl rfl (not_f hb8)) rfl ?_
          refine T.leave (.plan rfl) (wantsNot rfl rfl rfl (not_f hb8)) rfl ?_
          refine T.leave (.plan rfl) (wantsNot rfl rfl rfl (not_f hb8)) rfl ?_
          refine T.leave (.plan rfl) (wantsNot rfl rfl rfl (not_f hb8)) rfl ?_
          refine T.leave (.plan rfl) (wantsNot rfl rfl rfl (not_f hb8)) rfl ?_
          refine T.leave (.plan rfl) (wantsNot rfl rfl rfl (not_f hb8)) rfl ?_
          refine T.leave (.plan rfl) (wantsNot rfl rfl rfl (not_f hb8)) rfl ?_
          refine T.pickT (.plan rfl) rfl (wants0 rfl) rfl rfl (not_f hb8) rfl ?_
          refine T.move (.plan rfl) rfl (wants0 rfl) rfl rfl ?_
          refine T.leave (.plan rfl) (wantsNot rfl rfl rfl rfl) rfl ?_
          refine T.leave (.plan rfl) (wantsNot rfl rfl rfl rfl) rfl ?_
          refine T.pickT (.plan rfl) rfl (wants0 rfl) rfl rfl rfl rfl ?_
          refine T.move (.plan rfl) rfl (wants0 rfl) rfl rfl ?_
          refine T.leave (.plan rfl) (wantsNot rfl rfl rfl rfl) rfl ?_
          refine T.leave (.plan rfl) (wantsNot rfl rfl rfl rfl) rfl ?_
          refine T.pickT (.plan rfl) rfl (wants0 rfl) rfl rfl rfl rfl ?_
          refine T.move (.plan rfl) rfl (wants0 rfl) rfl rfl ?_
          refine T.leave (.plan rfl) (wantsNot rfl rfl rfl rfl) rfl ?_
          refine T.leave (.plan rfl) (wantsNot rfl rfl rfl rfl) rfl ?_
          refine T.leave (.plan rfl) (wantsNot rfl rfl rfl rfl) rfl ?_
          refine T.leave (.plan rfl) (wantsNot rfl rfl rfl rfl) rfl ?_
          refine T.leave (.plan rfl) (wantsNot rfl rfl rfl rfl) rfl ?_
          refine T.pickT (.plan rfl) rfl (wants0 rfl) rfl rfl rfl rfl ?_
          refine T.move (.plan rfl) rfl (wants0 rfl) rfl rfl ?_
          refine T.leave (.plan rfl) (wantsNot rfl rfl rfl rfl) rfl ?_
          refine T.leave (.plan rfl) (wantsNot rfl rfl rfl rfl) rfl ?_
          refine T.leave (.plan rfl) (wantsNot rfl rfl rfl rfl) rfl ?_
          refine T.leave (.plan rfl) (wantsNot rfl rfl rfl rfl) rfl ?_
          refine T.leave (.plan rfl) (wantsNot rfl rfl rfl rfl) rfl ?_
          refine T.pickT (.plan rfl) rfl (wants0 rfl) rfl rfl rfl rfl ?_
          refine T.planEnd ?_
          refine T.then_normal ?_
          exact T.le (EnvLe.cons rfl (EnvLe.cons rfl (EnvLe.cons rfl (EnvLe.cons rfl (EnvLe.cons rfl (EnvLe.cons rfl (EnvLe.cons rfl (EnvLe.cons rfl (EnvLe.cons rfl (EnvLe.cons rfl (EnvLe.cons rfl (EnvLe.cons rfl (EnvLe.cons rfl (EnvLe.cons rfl EnvLe.nil)))))))))))))) (T.pick [0, 1, 2] 3 rfl rfl (Nat.le_add_left _ _) rfl (J5 true () hk4))
       ·refine T.seq ?_
        refine T.region ?_
        refine T.move .list rfl (wants0 rfl) rfl rfl ?_
        refine T.move .list rfl (wants0 rfl) rfl rfl ?_
        refine T.bin .list rfl (wants0 rfl) rfl rfl rfl rfl ?_
        refine T.nil ?_
        refine T.then_normal ?_
        refine T.cond rfl (fun hb13 => ?_) (fun hb13 => ?_)
        ·replace hk3 := inv_posB hb13 hk3
         refine T.region ?_
         refine T.move .list rfl (wants0 rfl) rfl rfl ?_
         refine T.assign .list rfl (wants0 rfl) rfl rfl ?_
         refine T.nil ?_
         refine T.then_normal ?_
         exact T.le (EnvLe.cons rfl (EnvLe.cons rfl (EnvLe.cons rfl (EnvLe.cons rfl (EnvLe.cons rfl (EnvLe.cons rfl (EnvLe.cons rfl (EnvLe.cons rfl (EnvLe.cons rfl (EnvLe.cons rfl (EnvLe.cons rfl (EnvLe.cons rfl (EnvLe.cons rfl EnvLe.nil))))))))))))) (T.pick [0, 1, 2] 3 rfl rfl (Nat.le_add_left _ _) rfl (J4 s3.2.1 () hk3))
        ·replace hk3 := inv_negB hb13 hk3
         refine T.skip ?_
         refine T.then_normal ?_
         exact T.le (EnvLe.cons rfl (EnvLe.cons rfl (EnvLe.cons rfl (EnvLe.cons rfl (EnvLe.cons rfl (EnvLe.cons rfl (EnvLe.cons rfl (EnvLe.cons rfl (EnvLe.cons rfl (EnvLe.cons rfl (EnvLe.cons rfl (EnvLe.cons rfl (EnvLe.cons rfl EnvLe.nil))))))))))))) (T.pick [0, 1, 2] 3 rfl rfl (Nat.le_add_left _ _) rfl (J4 s3.2.2.2.1 () hk3))
      ·refine T.seq ?_
       refine T.region ?_
       refine T.move .list rfl (wants0 rfl) rfl rfl ?_
       refine T.move .list rfl (wants0 rfl) rfl rfl ?_
       refine T.bin .list rfl (wants0 rfl) rfl rfl rfl rfl ?_
       refine T.nil ?_
       refine T.then_normal ?_
       refine T.cond rfl (fun hb14 => ?_) (fun hb14 => ?_)
       ·replace he1 := inv_posB hb14 he1
        refine T.region ?_
        refine T.move .list rfl (wants0 rfl) rfl rfl ?_
        refine T.assign .list rfl (wants0 rfl) rfl rfl ?_
        refine T.nil ?_
        refine T.then_normal ?_
        exact T.le (EnvLe.cons rfl (EnvLe.cons rfl (EnvLe.cons rfl (EnvLe.cons rfl (EnvLe.cons rfl (EnvLe.cons rfl (EnvLe.cons rfl (EnvLe.cons rfl (EnvLe.cons rfl (EnvLe.cons rfl (EnvLe.cons rfl (EnvLe.cons rfl (EnvLe.cons rfl EnvLe.nil))))))))))))) (T.pick [0, 1, 2] 3 rfl rfl (Nat.le_add_left _ _) rfl (J3 s3.1 () he1))
       ·replace he1 := inv_negB hb14 he1
        refine T.skip ?_
        refine T.then_normal ?_
        exact T.le (EnvLe.cons rfl (EnvLe.cons rfl (EnvLe.cons rfl (EnvLe.cons rfl (EnvLe.cons rfl (EnvLe.cons rfl (EnvLe.cons rfl (EnvLe.cons rfl (EnvLe.cons rfl (EnvLe.cons rfl (EnvLe.cons rfl (EnvLe.cons rfl (EnvLe.cons rfl EnvLe.nil))))))))))))) (T.pick [0, 1, 2] 3 rfl rfl (Nat.le_add_left _ _) rfl (J3 s3.2.2.1 () he1))
     ·replace he1 := inv_negB hb3 he1
      refine T.exit ?_
      refine T.then_exit ?_
      refine T.then_exit ?_
      obtain rfl := inv_some he1
      obtain rfl := hx1 _ rfl
      refine T.in_hit ?_
      refine T.then_normal ?_
      exact T.le EnvLe.nil (T.pick [] 3 rfl rfl (Nat.le_add_left _ _) rfl (J2 () () hk1))
 ·refine T.region ?_
  refine T.move .list rfl (wants0 rfl) rfl rfl ?_
  refine T.bin .list rfl (wants0 rfl) rfl rfl rfl rfl ?_
  refine T.move .list rfl (wants0 rfl) rfl rfl ?_
  refine T.bool (b := (decide ((1048576 : Int) < (IntKind.i64.wrap ((bitsOf .and .i64 a5 1048575) + 1))))) (fun hb15 => ?_) (fun hb15 => ?_)
  ·replace hr := inv_posB hb15 hr
   refine T.leave .list (wantsNot rfl rfl rfl hb15) rfl ?_
   refine T.leave .list (wantsNot rfl rfl rfl hb15) rfl ?_
   refine T.pickT .list rfl (wants0 rfl) rfl rfl hb15 rfl ?_
   refine T.move .list rfl (wants0 rfl) rfl rfl ?_
   refine T.leave .list (wantsNot rfl rfl rfl rfl) rfl ?_
   refine T.leave .list (wantsNot rfl rfl rfl rfl) rfl ?_
   refine T.pickT .list rfl (wants0 rfl) rfl rfl rfl rfl ?_
   refine T.nil ?_
   refine T.then_normal ?_
   exact T.le (EnvLe.cons rfl (EnvLe.cons rfl (EnvLe.cons rfl (EnvLe.cons rfl (EnvLe.cons rfl (EnvLe.cons rfl (EnvLe.cons rfl (EnvLe.cons rfl EnvLe.nil)))))))) (T.pick [2, 1, 0] 3 rfl rfl (Nat.le_add_left _ _) rfl (J1 true () hr))
  ·replace hr := inv_negB hb15 hr
   refine T.move .list rfl (wants1 rfl rfl rfl hb15) rfl rfl ?_
   refine T.bin .list rfl (wants1 rfl rfl rfl hb15) rfl rfl rfl rfl ?_
   refine T.pickF .list rfl (wants0 rfl) rfl rfl hb15 rfl ?_
   refine T.move .list rfl (wants0 rfl) rfl rfl ?_
   refine T.bool (b := (decide (a6 < 0))) (fun hb16 => ?_) (fun hb16 => ?_)
   ·replace hr := inv_posB hb16 hr
    refine T.leave .list (wantsNot rfl rfl rfl hb16) rfl ?_
    refine T.leave .list (wantsNot rfl rfl rfl hb16) rfl ?_
    refine T.pickT .list rfl (wants0 rfl) rfl rfl hb16 rfl ?_
    refine T.nil ?_
    refine T.then_normal ?_
    exact T.le (EnvLe.cons rfl (EnvLe.cons rfl (EnvLe.cons rfl (EnvLe.cons rfl (EnvLe.cons rfl (EnvLe.cons rfl (EnvLe.cons rfl (EnvLe.cons rfl EnvLe.nil)))))))) (T.pick [2, 1, 0] 3 rfl rfl (Nat.le_add_left _ _) rfl (J1 true () hr))
   ·replace hr := inv_negB hb16 hr
    refine T.move .list rfl (wants1 rfl rfl rfl hb16) rfl rfl ?_
    refine T.bin .list rfl (wants1 rfl rfl rfl hb16) rfl rfl rfl rfl ?_
    refine T.pickF .list rfl (wants0 rfl) rfl rfl hb16 rfl ?_
    refine T.nil ?_
    refine T.then_normal ?_
    exact T.le (EnvLe.cons rfl (EnvLe.cons rfl (EnvLe.cons rfl (EnvLe.cons rfl (EnvLe.cons rfl (EnvLe.cons rfl (EnvLe.cons rfl (EnvLe.cons rfl EnvLe.nil)))))))) (T.pick [2, 1, 0] 3 rfl rfl (Nat.le_add_left _ _) rfl (J1 (decide ((500 : Int) < a6)) () hr))
end Go.Proofs.Ytodijocajcohjaa
