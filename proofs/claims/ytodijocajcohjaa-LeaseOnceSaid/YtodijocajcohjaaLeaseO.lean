/- LeaseO: what the functions compute, and that the program computes it; printed by a program of ours. -/
import Derived.Test.YtodijocajcohjaaLease
set_option linter.unusedVariables false
set_option linter.unusedSimpArgs false
namespace Go.Proofs.Ytodijocajcohjaa
open Go.RowKit
noncomputable def law19_LeaseOnce.k2 (s2 : Unit) : Option Bool :=
  (law19_told.impl ).bind fun r2 => some r2
noncomputable def law19_LeaseOnce.k6 (s3 : Int × Bool × Bool × Int) (l0 : List Int) (r3 : Bool) (r4 : Bool) (s7 : Bool) : Option ((Int × Bool × Bool × Int) ⊕ (Bool ⊕ Unit)) :=
  (if s7 = true then some (.inr (.inl false)) else some (.inl (IntKind.i64.wrap (s3.1 + (bitsOf .and .i64 (((l0).getD (s3.2.2.2 : Int).toNat default)) 65535)), r3, r4, IntKind.i64.wrap (s3.2.2.2 + 1))))
noncomputable def law19_LeaseOnce.k5 (s3 : Int × Bool × Bool × Int) (l0 : List Int) (a1 : Int) (a2 : Int) (a3 : Int) (r3 : Bool) (r4 : Bool) (s6 : Bool) : Option ((Int × Bool × Bool × Int) ⊕ (Bool ⊕ Unit)) :=
  (if s6 = true then some (.inr (.inl false)) else (lease_Serves.impl (IntKind.i64.wrap (s3.1 + (bitsOf .and .i64 (((l0).getD (s3.2.2.2 : Int).toNat default)) 65535))) a1 a2 (IntKind.i64.wrap (a3 + 1))).bind fun r5 => (if r5 = true then (if r3 = true then (lease_Ended.impl (IntKind.i64.wrap (s3.1 + (bitsOf .and .i64 (((l0).getD (s3.2.2.2 : Int).toNat default)) 65535))) a1 a2 (IntKind.i64.wrap (a3 + 1))).bind fun r6 => (if r6 = true then law19_LeaseOnce.k6 s3 l0 r3 r4 (!r4) else law19_LeaseOnce.k6 s3 l0 r3 r4 false) else law19_LeaseOnce.k6 s3 l0 r3 r4 true) else (lease_Ended.impl (IntKind.i64.wrap (s3.1 + (bitsOf .and .i64 (((l0).getD (s3.2.2.2 : Int).toNat default)) 65535))) a1 a2 (IntKind.i64.wrap (a3 + 1))).bind fun r7 => (if r7 = true then law19_LeaseOnce.k6 s3 l0 r3 r4 (!r4) else law19_LeaseOnce.k6 s3 l0 r3 r4 false)))
noncomputable def law19_LeaseOnce.k4 (r3 : Bool) (s3 : Int × Bool × Bool × Int) (l0 : List Int) (a1 : Int) (a2 : Int) (a4 : Int) (a3 : Int) (r4 : Bool) (s5 : Bool) : Option ((Int × Bool × Bool × Int) ⊕ (Bool ⊕ Unit)) :=
  (if s5 = true then some (.inr (.inl false)) else (if r3 = true then (lease_Serves.impl (IntKind.i64.wrap (s3.1 + (bitsOf .and .i64 (((l0).getD (s3.2.2.2 : Int).toNat default)) 65535))) a1 (IntKind.i64.wrap (a2 + (bitsOf .and .i64 a4 65535))) a3).bind fun r8 => (if r8 = true then (if r4 = true then (lease_Ended.impl (IntKind.i64.wrap (s3.1 + (bitsOf .and .i64 (((l0).getD (s3.2.2.2 : Int).toNat default)) 65535))) a1 (max (IntKind.i64.wrap (a2 - (bitsOf .and .i64 a4 65535))) 1) a3).bind fun r9 => law19_LeaseOnce.k5 s3 l0 a1 a2 a3 r3 r4 (!r9) else law19_LeaseOnce.k5 s3 l0 a1 a2 a3 r3 r4 false) else law19_LeaseOnce.k5 s3 l0 a1 a2 a3 r3 r4 true) else (if r4 = true then (lease_Ended.impl (IntKind.i64.wrap (s3.1 + (bitsOf .and .i64 (((l0).getD (s3.2.2.2 : Int).toNat default)) 65535))) a1 (max (IntKind.i64.wrap (a2 - (bitsOf .and .i64 a4 65535))) 1) a3).bind fun r10 => law19_LeaseOnce.k5 s3 l0 a1 a2 a3 r3 r4 (!r10) else law19_LeaseOnce.k5 s3 l0 a1 a2 a3 r3 r4 false)))
noncomputable def law19_LeaseOnce.k3 (s3 : Int × Bool × Bool × Int) (l0 : List Int) (a1 : Int) (a2 : Int) (a3 : Int) (a4 : Int) (s4 : Bool) : Option ((Int × Bool × Bool × Int) ⊕ (Bool ⊕ Unit)) :=
  (if s4 = true then chk (0 ≤ s3.2.2.2 ∧ s3.2.2.2 < (l0.length : Int)) ((lease_Serves.impl (IntKind.i64.wrap (s3.1 + (bitsOf .and .i64 (((l0).getD (s3.2.2.2 : Int).toNat default)) 65535))) a1 a2 a3).bind fun r3 => (lease_Ended.impl (IntKind.i64.wrap (s3.1 + (bitsOf .and .i64 (((l0).getD (s3.2.2.2 : Int).toNat default)) 65535))) a1 a2 a3).bind fun r4 => (if r3 = true then (if r4 = true then law19_LeaseOnce.k4 r3 s3 l0 a1 a2 a4 a3 r4 true else (if s3.2.1 = true then law19_LeaseOnce.k4 r3 s3 l0 a1 a2 a4 a3 r4 s3.2.2.1 else law19_LeaseOnce.k4 r3 s3 l0 a1 a2 a4 a3 r4 true)) else (if r4 = true then law19_LeaseOnce.k4 r3 s3 l0 a1 a2 a4 a3 r4 false else law19_LeaseOnce.k4 r3 s3 l0 a1 a2 a4 a3 r4 s3.2.2.1))) else some (.inr (.inr ())))
noncomputable def law19_LeaseOnce.st1 (l0 : List Int) (a1 : Int) (a2 : Int) (a3 : Int) (a4 : Int) (s3 : Int × Bool × Bool × Int) : Option ((Int × Bool × Bool × Int) ⊕ (Bool ⊕ Unit)) :=
  (if ((decide (s3.2.2.2 < ((l0.length : Int))))) = true then law19_LeaseOnce.k3 s3 l0 a1 a2 a3 a4 (decide (s3.2.2.2 < 30)) else law19_LeaseOnce.k3 s3 l0 a1 a2 a3 a4 false)
noncomputable def law19_LeaseOnce.k1 (l0 : List Int) (a1 : Int) (a2 : Int) (a3 : Int) (a4 : Int) (s1 : Bool) : Option Bool :=
  (if s1 = true then (law19_told.impl ).bind fun r1 => some r1 else (loop (law19_LeaseOnce.st1 l0 a1 a2 a3 a4) (a1, true, false, 0)).bind (fun e1 => match e1 with | .inl v => some v | .inr v => law19_LeaseOnce.k2 v))
noncomputable def law19_LeaseOnce.impl (l0 : List Int) (a1 : Int) (a2 : Int) (a3 : Int) (a4 : Int) : Option Bool :=
  (if ((decide (a1 < 0))) = true then law19_LeaseOnce.k1 l0 a1 a2 a3 a4 true else (if ((decide ((549755813888 : Int) < a1))) = true then law19_LeaseOnce.k1 l0 a1 a2 a3 a4 true else (if ((decide (a2 < 1))) = true then law19_LeaseOnce.k1 l0 a1 a2 a3 a4 true else (if ((decide ((524288 : Int) < a2))) = true then law19_LeaseOnce.k1 l0 a1 a2 a3 a4 true else (if ((decide (a3 < 0))) = true then law19_LeaseOnce.k1 l0 a1 a2 a3 a4 true else law19_LeaseOnce.k1 l0 a1 a2 a3 a4 (decide ((499 : Int) < a3)))))))
set_option maxRecDepth 100000 in
set_option maxHeartbeats 4000000 in
theorem law19_LeaseOnce.c {B : World} {hs : List MP} {w : World} {i0 c0 : Nat} {A0 : Option Addr} {l0 : List Int} {a1 : Int} {a2 : Int} {a3 : Int} {a4 : Int} (hS : St B (hs) w) (h0 : (hs)[i0]? = some (Ro E64 A0 c0 l0)) {r : Bool} (hr : law19_LeaseOnce.impl l0 a1 a2 a3 a4 = some r) :
    Calls Try.prog 4 #[.slice A0 l0.length c0, .int .i64 a1, .int .i64 a2, .int .i64 a3, .int .i64 a4] w fun e w' => ∃ x : Unit, e = .returned (.bool r) ∧ St B (hs) w' := by
 unfold law19_LeaseOnce.impl at hr
 refine calls_T Try.func4 rfl rfl rfl hS ?_
 refine T.front i0 h0 ?_
 refine T.seq ?_
 refine T.region ?_
 refine T.assign .list rfl (wants0 rfl) rfl rfl ?_
 refine T.nil ?_
 refine T.then_normal ?_
 refine T.seq ?_
 refine T.seqJ (fun (s1 : Bool) (x1 : Unit) => [(0, .slice A0 l0.length c0), (1, .int .i64 a1), (2, .int .i64 a2), (3, .int .i64 a3), (4, .int .i64 a4), (38, .bool s1)]) (fun s1 x1 => Ro E64 A0 c0 l0 :: hs) (fun s1 => law19_LeaseOnce.k1 l0 a1 a2 a3 a4 s1 = some r) (fun s1 x1 hk1 => ?_) (fun J1 => ?_)
 ·unfold law19_LeaseOnce.k1 at hk1
  refine T.cond rfl (fun hb1 => ?_) (fun hb1 => ?_)
  ·replace hk1 := inv_posB hb1 hk1
   refine T.seq ?_
   refine T.region ?_
   obtain ⟨r1, hg1, hk1⟩ := inv_bind hk1
   refine T.call .list (wants0 rfl) rfl (run_callF (vs := []) rfl Try.func16 rfl (by decide) rfl) (fun w hS => law19_told.c hS  hg1) (fun x2 => ?_)
   refine T.assign .list rfl (wants0 rfl) rfl rfl ?_
   refine T.nil ?_
   refine T.then_normal ?_
   refine T.ret ?_
   refine T.then_ret ?_
   obtain rfl := inv_some hk1
   refine T.pick [] 1 rfl rfl (Nat.le_add_left _ _) rfl ?_
   refine T.ret1 rfl rfl (fun w hS => ⟨(), rfl, hS⟩)
  ·replace hk1 := inv_negB hb1 hk1
   refine T.skip ?_
   refine T.then_normal ?_
   refine T.seq ?_
   refine T.region ?_
   refine T.move .list rfl (wants0 rfl) rfl rfl ?_
   refine T.assign .list rfl (wants0 rfl) rfl rfl ?_
   refine T.nil ?_
   refine T.then_normal ?_
   refine T.seq ?_
   refine T.region ?_
   refine T.assign .list rfl (wants0 rfl) rfl rfl ?_
   refine T.assign .list rfl (wants0 rfl) rfl rfl ?_
   refine T.nil ?_
   refine T.then_normal ?_
   refine T.seqJ (fun (s2 : Unit) (x3 : Unit) => []) (fun s2 x3 => hs) (fun s2 => law19_LeaseOnce.k2 s2 = some r) (fun s2 x3 hk2 => ?_) (fun J2 => ?_)
   ·unfold law19_LeaseOnce.k2 at hk2
    refine T.seq ?_
    refine T.region ?_
    obtain ⟨r2, hg2, hk2⟩ := inv_bind hk2
    refine T.call .list (wants0 rfl) rfl (run_callF (vs := []) rfl Try.func16 rfl (by decide) rfl) (fun w hS => law19_told.c hS  hg2) (fun x4 => ?_)
    refine T.assign .list rfl (wants0 rfl) rfl rfl ?_
    refine T.nil ?_
    refine T.then_normal ?_
    refine T.ret ?_
    obtain rfl := inv_some hk2
    refine T.pick [] 0 rfl rfl (Nat.le_add_left _ _) rfl ?_
    refine T.ret1 rfl rfl (fun w hS => ⟨(), rfl, hS⟩)
   ·refine T.seq ?_
    refine T.region ?_
    refine T.assign .list rfl (wants0 rfl) rfl rfl ?_
    refine T.nil ?_
    refine T.then_normal ?_
    refine T.block ?_
    obtain ⟨e1, hl1, hk1⟩ := inv_bind hk1
    refine T.le (EnvLe.cons rfl (EnvLe.cons rfl (EnvLe.cons rfl (EnvLe.cons rfl (EnvLe.cons rfl (EnvLe.cons rfl (EnvLe.cons rfl (EnvLe.cons rfl (EnvLe.cons rfl EnvLe.nil))))))))) (T.pick [0] 1 rfl rfl (Nat.le_add_left _ _) rfl (T.loop (s0 := (a1, true, false, 0)) (env := fun s3 x5 => [(0, .slice A0 l0.length c0), (1, .int .i64 a1), (2, .int .i64 a2), (3, .int .i64 a3), (4, .int .i64 a4), (11, .int .i64 s3.1), (12, .bool s3.2.1), (13, .bool s3.2.2.1), (14, .int .i64 s3.2.2.2)]) (hs := fun (s3 : Int × Bool × Bool × Int) (x5 : Unit) => Ro E64 A0 c0 l0 :: hs) hl1 () (fun K1 s3 x5 o1 he1 hm1 hx1 => ?_)))
    unfold law19_LeaseOnce.st1 at he1
    refine T.seq ?_
    refine T.seqJ (fun (s4 : Bool) (x6 : Unit) => [(0, .slice A0 l0.length c0), (1, .int .i64 a1), (2, .int .i64 a2), (3, .int .i64 a3), (4, .int .i64 a4), (11, .int .i64 s3.1), (12, .bool s3.2.1), (13, .bool s3.2.2.1), (14, .int .i64 s3.2.2.2), (48, .bool s4)]) (fun s4 x6 => Ro E64 A0 c0 l0 :: hs) (fun s4 => law19_LeaseOnce.k3 s3 l0 a1 a2 a3 a4 s4 = some o1) (fun s4 x6 hk3 => ?_) (fun J3 => ?_)
    ·unfold law19_LeaseOnce.k3 at hk3
     refine T.cond rfl (fun hb2 => ?_) (fun hb2 => ?_)
     ·replace hk3 := inv_posB hb2 hk3
      refine T.skip ?_
      refine T.then_normal ?_
      refine T.seq ?_
      refine T.block ?_
      refine T.seq ?_
      refine T.region ?_
      refine T.move .list rfl (wants0 rfl) rfl rfl ?_
      refine T.move .list rfl (wants0 rfl) rfl rfl ?_
      refine T.move .list rfl (wants0 rfl) rfl rfl ?_
      obtain ⟨hc1, hk3⟩ := inv_chk hk3
      refine T.idxRo .list 0 rfl rfl (wants0 rfl) rfl rfl rfl hc1.1 hc1.2 (Nat.le_refl _) ?_
      refine T.ldRo1 .list 0 rfl rfl (wants0 rfl) rfl rfl hc1.1 hc1.2 ?_
      refine T.bin .list rfl (wants0 rfl) rfl rfl rfl rfl ?_
      refine T.bin .list rfl (wants0 rfl) rfl rfl rfl rfl ?_
      refine T.assign .list rfl (wants0 rfl) rfl rfl ?_
      refine T.nil ?_
      refine T.then_normal ?_
      refine T.seq ?_
      refine T.region ?_
      refine T.move .list rfl (wants0 rfl) rfl rfl ?_
      refine T.move .list rfl (wants0 rfl) rfl rfl ?_
      refine T.move .list rfl (wants0 rfl) rfl rfl ?_
      refine T.move .list rfl (wants0 rfl) rfl rfl ?_
      obtain ⟨r3, hg3, hk3⟩ := inv_bind hk3
      refine T.call .list (wants0 rfl) rfl (run_callF (vs := [_, _, _, _]) rfl Try.func17 rfl (by decide) rfl) (fun w hS => lease_Serves.c hS  hg3) (fun x7 => ?_)
      refine T.move .list rfl (wants0 rfl) rfl rfl ?_
      refine T.move .list rfl (wants0 rfl) rfl rfl ?_
      refine T.move .list rfl (wants0 rfl) rfl rfl ?_
      refine T.move .list rfl (wants0 rfl) rfl rfl ?_
      obtain ⟨r4, hg4, hk3⟩ := inv_bind hk3
      refine T.call .list (wants0 rfl) rfl (run_callF (vs := [_, _, _, _]) rfl Try.func18 rfl (by decide) rfl) (fun w hS => lease_Ended.c hS  hg4) (fun x8 => ?_)
      refine T.assign .list rfl (wants0 rfl) rfl rfl ?_
      refine T.assign .list rfl (wants0 rfl) rfl rfl ?_
      refine T.nil ?_
      refine T.then_normal ?_
      refine T.seq ?_
      refine T.seqJ (fun (s5 : Bool) (x9 : Unit) => [(0, .slice A0 l0.length c0), (1, .int .i64 a1), (2, .int .i64 a2), (3, .int .i64 a3), (4, .int .i64 a4), (11, .int .i64 (IntKind.i64.wrap (s3.1 + (bitsOf .and .i64 (((l0).getD (s3.2.2.2 : Int).toNat default)) 65535)))), (14, .int .i64 s3.2.2.2), (15, .bool r3), (16, .bool r4), (85, .bool s5)]) (fun s5 x9 => Ro E64 A0 c0 l0 :: hs) (fun s5 => law19_LeaseOnce.k4 r3 s3 l0 a1 a2 a4 a3 r4 s5 = some o1) (fun s5 x9 hk4 => ?_) (fun J4 => ?_)
      ·unfold law19_LeaseOnce.k4 at hk4
       refine T.cond rfl (fun hb3 => ?_) (fun hb3 => ?_)
       ·replace hk4 := inv_posB hb3 hk4
        refine T.seq ?_
        refine T.region ?_
        refine T.assign .list rfl (wants0 rfl) rfl rfl ?_
        refine T.nil ?_
        refine T.then_normal ?_
        refine T.ret ?_
        refine T.then_ret ?_
        refine T.in_ret ?_
        refine T.then_ret ?_
        refine T.then_ret ?_
        obtain rfl := inv_some hk4
        obtain rfl := hx1 _ rfl
        refine T.in_ret ?_
        refine T.then_ret ?_
        obtain rfl := inv_some hk1
        refine T.pick [] 1 rfl rfl (Nat.le_add_left _ _) rfl ?_
        refine T.ret1 rfl rfl (fun w hS => ⟨(), rfl, hS⟩)
       ·replace hk4 := inv_negB hb3 hk4
        refine T.skip ?_
        refine T.then_normal ?_
        refine T.seq ?_
        refine T.region ?_
        refine T.move .list rfl (wants0 rfl) rfl rfl ?_
        refine T.move .list rfl (wants0 rfl) rfl rfl ?_
        refine T.assign .list rfl (wants0 rfl) rfl rfl ?_
        refine T.assign .list rfl (wants0 rfl) rfl rfl ?_
        refine T.nil ?_
        refine T.then_normal ?_
        refine T.seq ?_
        refine T.seqJ (fun (s6 : Bool) (x10 : Unit) => [(0, .slice A0 l0.length c0), (1, .int .i64 a1), (2, .int .i64 a2), (3, .int .i64 a3), (4, .int .i64 a4), (11, .int .i64 (IntKind.i64.wrap (s3.1 + (bitsOf .and .i64 (((l0).getD (s3.2.2.2 : Int).toNat default)) 65535)))), (12, .bool r3), (13, .bool r4), (14, .int .i64 s3.2.2.2), (15, .bool r3), (16, .bool r4), (114, .bool s6)]) (fun s6 x10 => Ro E64 A0 c0 l0 :: hs) (fun s6 => law19_LeaseOnce.k5 s3 l0 a1 a2 a3 r3 r4 s6 = some o1) (fun s6 x10 hk5 => ?_) (fun J5 => ?_)
        ·unfold law19_LeaseOnce.k5 at hk5
         refine T.cond rfl (fun hb4 => ?_) (fun hb4 => ?_)
         ·replace hk5 := inv_posB hb4 hk5
          refine T.seq ?_
          refine T.region ?_
          refine T.assign .list rfl (wants0 rfl) rfl rfl ?_
          refine T.nil ?_
          refine T.then_normal ?_
          refine T.ret ?_
          refine T.then_ret ?_
          refine T.in_ret ?_
          refine T.then_ret ?_
          refine T.then_ret ?_
          obtain rfl := inv_some hk5
          obtain rfl := hx1 _ rfl
          refine T.in_ret ?_
          refine T.then_ret ?_
          obtain rfl := inv_some hk1
          refine T.pick [] 1 rfl rfl (Nat.le_add_left _ _) rfl ?_
          refine T.ret1 rfl rfl (fun w hS => ⟨(), rfl, hS⟩)
         ·replace hk5 := inv_negB hb4 hk5
          refine T.skip ?_
          refine T.then_normal ?_
          refine T.seqJ (fun (s7 : Bool) (x11 : Unit) => [(0, .slice A0 l0.length c0), (1, .int .i64 a1), (2, .int .i64 a2), (3, .int .i64 a3), (4, .int .i64 a4), (11, .int .i64 (IntKind.i64.wrap (s3.1 + (bitsOf .and .i64 (((l0).getD (s3.2.2.2 : Int).toNat default)) 65535)))), (12, .bool r3), (13, .bool r4), (14, .int .i64 s3.2.2.2), (136, .bool s7)]) (fun s7 x11 => Ro E64 A0 c0 l0 :: hs) (fun s7 => law19_LeaseOnce.k6 s3 l0 r3 r4 s7 = some o1) (fun s7 x11 hk6 => ?_) (fun J6 => ?_)
          ·unfold law19_LeaseOnce.k6 at hk6
           refine T.cond rfl (fun hb5 => ?_) (fun hb5 => ?_)
           ·replace hk6 := inv_posB hb5 hk6
            refine T.seq ?_
            refine T.region ?_
            refine T.assign .list rfl (wants0 rfl) rfl rfl ?_
            refine T.nil ?_
            refine T.then_normal ?_
            refine T.ret ?_
            refine T.in_ret ?_
            refine T.then_ret ?_
            refine T.then_ret ?_
            obtain rfl := inv_some hk6
            obtain rfl := hx1 _ rfl
            refine T.in_ret ?_
            refine T.then_ret ?_
            obtain rfl := inv_some hk1
            refine T.pick [] 1 rfl rfl (Nat.le_add_left _ _) rfl ?_
            refine T.ret1 rfl rfl (fun w hS => ⟨(), rfl, hS⟩)
           ·replace hk6 := inv_negB hb5 hk6
            refine T.skip ?_
            refine T.in_normal ?_
            refine T.then_normal ?_
            refine T.region ?_
            refine T.move .list rfl (wants0 rfl) rfl rfl ?_
            refine T.bin .list rfl (wants0 rfl) rfl rfl rfl rfl ?_
            refine T.assign .list rfl (wants0 rfl) rfl rfl ?_
            refine T.nil ?_
            refine T.then_normal ?_
            obtain rfl := inv_some hk6
            exact T.le (EnvLe.cons rfl (EnvLe.cons rfl (EnvLe.cons rfl (EnvLe.cons rfl (EnvLe.cons rfl (EnvLe.cons rfl (EnvLe.cons rfl (EnvLe.cons rfl (EnvLe.cons rfl EnvLe.nil))))))))) (T.pick [0] 1 rfl rfl (Nat.le_add_left _ _) rfl (hm1 (IntKind.i64.wrap (s3.1 + (bitsOf .and .i64 (((l0).getD (s3.2.2.2 : Int).toNat default)) 65535)), r3, r4, IntKind.i64.wrap (s3.2.2.2 + 1)) rfl ()))
          ·refine T.region ?_
           refine T.move .list rfl (wants0 rfl) rfl rfl ?_
           refine T.move .list rfl (wants0 rfl) rfl rfl ?_
           refine T.move .list rfl (wants0 rfl) rfl rfl ?_
           refine T.move .list rfl (wants0 rfl) rfl rfl ?_
           refine T.bin .list rfl (wants0 rfl) rfl rfl rfl rfl ?_
           obtain ⟨r5, hg5, hk5⟩ := inv_bind hk5
           refine T.call .list (wants0 rfl) rfl (run_callF (vs := [_, _, _, _]) rfl Try.func17 rfl (by decide) rfl) (fun w hS => lease_Serves.c hS  hg5) (fun x12 => ?_)
           refine T.move .list rfl (wants0 rfl) rfl rfl ?_
           refine T.bool (b := r5) (fun hb6 => ?_) (fun hb6 => ?_)
           ·replace hk5 := inv_posB hb6 hk5
            refine T.move .list rfl (wants1 rfl rfl rfl hb6) rfl rfl ?_
            refine T.not .list rfl (wants1 rfl rfl rfl hb6) rfl rfl ?_
            refine T.pickT .list rfl (wants0 rfl) rfl rfl hb6 rfl ?_
            refine T.move .list rfl (wants0 rfl) rfl rfl ?_
            refine T.bool (b := r3) (fun hb7 => ?_) (fun hb7 => ?_)
            ·replace hk5 := inv_posB hb7 hk5
             refine T.move .list rfl (wants1 rfl rfl rfl (not_t hb7)) rfl rfl ?_
             refine T.move .list rfl (wants1 rfl rfl rfl (not_t hb7)) rfl rfl ?_
             refine T.move .list rfl (wants1 rfl rfl rfl (not_t hb7)) rfl rfl ?_
             refine T.move .list rfl (wants1 rfl rfl rfl (not_t hb7)) rfl rfl ?_
             refine T.bin .list rfl (wants1 rfl rfl rfl (not_t hb7)) rfl rfl rfl rfl ?_
             obtain ⟨r6, hg6, hk5⟩ := inv_bind hk5
             refine T.call .list (wants1 rfl rfl rfl (not_t hb7)) rfl (run_callF (vs := [_, _, _, _]) rfl Try.func18 rfl (by decide) rfl) (fun w hS => lease_Ended.c hS  hg6) (fun x13 => ?_)
             refine T.move .list rfl (wants1 rfl rfl rfl (not_t hb7)) rfl rfl ?_
             refine T.bool (b := r6) (fun hb8 => ?_) (fun hb8 => ?_)
             ·replace hk5 := inv_posB hb8 hk5
              refine T.move .list rfl (wants1 rfl rfl rfl hb8) rfl rfl ?_
              refine T.not .list rfl (wants1 rfl rfl rfl hb8) rfl rfl ?_
              refine T.pickT .list rfl (wants1 rfl rfl rfl (not_t hb7)) rfl rfl hb8 rfl ?_
              refine T.pickF .list rfl (wants0 rfl) rfl rfl (not_t hb7) rfl ?_
              refine T.nil ?_
              refine T.then_normal ?_
              exact T.le (EnvLe.cons rfl (EnvLe.cons rfl (EnvLe.cons rfl (EnvLe.cons rfl (EnvLe.cons rfl (EnvLe.cons rfl (EnvLe.cons rfl (EnvLe.cons rfl (EnvLe.cons rfl (EnvLe.cons rfl EnvLe.nil)))))))))) (T.pick [0] 1 rfl rfl (Nat.le_add_left _ _) rfl (J6 (!r4) () hk5))
             ·replace hk5 := inv_negB hb8 hk5
              refine T.leave .list (wantsNot rfl rfl rfl hb8) rfl ?_
              refine T.leave .list (wantsNot rfl rfl rfl hb8) rfl ?_
              refine T.pickF .list rfl (wants1 rfl rfl rfl (not_t hb7)) rfl rfl hb8 rfl ?_
              refine T.pickF .list rfl (wants0 rfl) rfl rfl (not_t hb7) rfl ?_
              refine T.nil ?_
              refine T.then_normal ?_
              exact T.le (EnvLe.cons rfl (EnvLe.cons rfl (EnvLe.cons rfl (EnvLe.cons rfl (EnvLe.cons rfl (EnvLe.cons rfl (EnvLe.cons rfl (EnvLe.cons rfl (EnvLe.cons rfl (EnvLe.cons rfl EnvLe.nil)))))))))) (T.pick [0] 1 rfl rfl (Nat.le_add_left _ _) rfl (J6 false () hk5))
            ·replace hk5 := inv_negB hb7 hk5
             refine T.leave .list (wantsNot rfl rfl rfl (not_f hb7)) rfl ?_
             refine T.leave .list (wantsNot rfl rfl rfl (not_f hb7)) rfl ?_
             refine T.leave .list (wantsNot rfl rfl rfl (not_f hb7)) rfl ?_
             refine T.leave .list (wantsNot rfl rfl rfl (not_f hb7)) rfl ?_
             refine T.leave .list (wantsNot rfl rfl rfl (not_f hb7)) rfl ?_
             refine T.leave .list (wantsNot rfl rfl rfl (not_f hb7)) rfl ?_
             refine T.leave .list (wantsNot rfl rfl rfl (not_f hb7)) rfl ?_
             refine T.leave .list (wantsUndef rfl rfl rfl) rfl ?_
             refine T.leave .list (wantsUndef rfl rfl rfl) rfl ?_
             refine T.leave .list (wantsNot rfl rfl rfl (not_f hb7)) rfl ?_
             refine T.pickT .list rfl (wants0 rfl) rfl rfl (not_f hb7) rfl ?_
             refine T.nil ?_
             refine T.then_normal ?_
             exact T.le (EnvLe.cons rfl (EnvLe.cons rfl (EnvLe.cons rfl (EnvLe.cons rfl (EnvLe.cons rfl (EnvLe.cons rfl (EnvLe.cons rfl (EnvLe.cons rfl (EnvLe.cons rfl (EnvLe.cons rfl EnvLe.nil)))))))))) (T.pick [0] 1 rfl rfl (Nat.le_add_left _ _) rfl (J6 true () hk5))
           ·replace hk5 := inv_negB hb6 hk5
            refine T.leave .list (wantsNot rfl rfl rfl hb6) rfl ?_
            refine T.leave .list (wantsNot rfl rfl rfl hb6) rfl ?_
            refine T.pickF .list rfl (wants0 rfl) rfl rfl hb6 rfl ?_
            refine T.move .list rfl (wants0 rfl) rfl rfl ?_
            refine T.move .list rfl (wants1 rfl rfl rfl rfl) rfl rfl ?_
            refine T.move .list rfl (wants1 rfl rfl rfl rfl) rfl rfl ?_
            refine T.move .list rfl (wants1 rfl rfl rfl rfl) rfl rfl ?_
            refine T.move .list rfl (wants1 rfl rfl rfl rfl) rfl rfl ?_
            refine T.bin .list rfl (wants1 rfl rfl rfl rfl) rfl rfl rfl rfl ?_
            obtain ⟨r7, hg7, hk5⟩ := inv_bind hk5
            refine T.call .list (wants1 rfl rfl rfl rfl) rfl (run_callF (vs := [_, _, _, _]) rfl Try.func18 rfl (by decide) rfl) (fun w hS => lease_Ended.c hS  hg7) (fun x14 => ?_)
            refine T.move .list rfl (wants1 rfl rfl rfl rfl) rfl rfl ?_
            refine T.bool (b := r7) (fun hb9 => ?_) (fun hb9 => ?_)
            ·replace hk5 := inv_posB hb9 hk5
             refine T.move .list rfl (wants1 rfl rfl rfl hb9) rfl rfl ?_
             refine T.not .list rfl (wants1 rfl rfl rfl hb9) rfl rfl ?_
             refine T.pickT .list rfl (wants1 rfl rfl rfl rfl) rfl rfl hb9 rfl ?_
             refine T.pickF .list rfl (wants0 rfl) rfl rfl rfl rfl ?_
             refine T.nil ?_
             refine T.then_normal ?_
             exact T.le (EnvLe.cons rfl (EnvLe.cons rfl (EnvLe.cons rfl (EnvLe.cons rfl (EnvLe.cons rfl (EnvLe.cons rfl (EnvLe.cons rfl (EnvLe.cons rfl (EnvLe.cons rfl (EnvLe.cons rfl EnvLe.nil)))))))))) (T.pick [0] 1 rfl rfl (Nat.le_add_left _ _) rfl (J6 (!r4) () hk5))
            ·replace hk5 := inv_negB hb9 hk5
             refine T.leave .list (wantsNot rfl rfl rfl hb9) rfl ?_
             refine T.leave .list (wantsNot rfl rfl rfl hb9) rfl ?_
             refine T.pickF .list rfl (wants1 rfl rfl rfl rfl) rfl rfl hb9 rfl ?_
             refine T.pickF .list rfl (wants0 rfl) rfl rfl rfl rfl ?_
             refine T.nil ?_
             refine T.then_normal ?_
             exact T.le (EnvLe.cons rfl (EnvLe.cons rfl (EnvLe.cons rfl (EnvLe.cons rfl (EnvLe.cons rfl (EnvLe.cons rfl (EnvLe.cons rfl (EnvLe.cons rfl (EnvLe.cons rfl (EnvLe.cons rfl EnvLe.nil)))))))))) (T.pick [0] 1 rfl rfl (Nat.le_add_left _ _) rfl (J6 false () hk5))
        ·refine T.region ?_
         refine T.move .list rfl (wants0 rfl) rfl rfl ?_
         refine T.move .list rfl (wants0 rfl) rfl rfl ?_
         refine T.bool (b := r3) (fun hb10 => ?_) (fun hb10 => ?_)
         ·replace hk4 := inv_posB hb10 hk4
          refine T.move .list rfl (wants1 rfl rfl rfl hb10) rfl rfl ?_
          refine T.move .list rfl (wants1 rfl rfl rfl hb10) rfl rfl ?_
          refine T.move .list rfl (wants1 rfl rfl rfl hb10) rfl rfl ?_
          refine T.move .list rfl (wants1 rfl rfl rfl hb10) rfl rfl ?_
          refine T.bin .list rfl (wants1 rfl rfl rfl hb10) rfl rfl rfl rfl ?_
          refine T.bin .list rfl (wants1 rfl rfl rfl hb10) rfl rfl rfl rfl ?_
          refine T.move .list rfl (wants1 rfl rfl rfl hb10) rfl rfl ?_
          obtain ⟨r8, hg8, hk4⟩ := inv_bind hk4
          refine T.call .list (wants1 rfl rfl rfl hb10) rfl (run_callF (vs := [_, _, _, _]) rfl Try.func17 rfl (by decide) rfl) (fun w hS => lease_Serves.c hS  hg8) (fun x15 => ?_)
          refine T.not .list rfl (wants1 rfl rfl rfl hb10) rfl rfl ?_
          refine T.pickT .list rfl (wants0 rfl) rfl rfl hb10 rfl ?_
          refine T.move .list rfl (wants0 rfl) rfl rfl ?_
          refine T.bool (b := r8) (fun hb11 => ?_) (fun hb11 => ?_)
          ·replace hk4 := inv_posB hb11 hk4
           refine T.move .list rfl (wants1 rfl rfl rfl (not_t hb11)) rfl rfl ?_
           refine T.move .list rfl (wants1 rfl rfl rfl (not_t hb11)) rfl rfl ?_
           refine T.bool (b := r4) (fun hb12 => ?_) (fun hb12 => ?_)
           ·replace hk4 := inv_posB hb12 hk4
            refine T.move .list rfl (wants1 rfl rfl rfl hb12) rfl rfl ?_
            refine T.move .list rfl (wants1 rfl rfl rfl hb12) rfl rfl ?_
            refine T.move .list rfl (wants1 rfl rfl rfl hb12) rfl rfl ?_
            refine T.move .list rfl (wants1 rfl rfl rfl hb12) rfl rfl ?_
            refine T.bin .list rfl (wants1 rfl rfl rfl hb12) rfl rfl rfl rfl ?_
            refine T.bin .list rfl (wants1 rfl rfl rfl hb12) rfl rfl rfl rfl ?_
            refine T.max2 .list rfl (wants1 rfl rfl rfl hb12) rfl rfl rfl ?_
            refine T.move .list rfl (wants1 rfl rfl rfl hb12) rfl rfl ?_
            obtain ⟨r9, hg9, hk4⟩ := inv_bind hk4
            refine T.call .list (wants1 rfl rfl rfl hb12) rfl (run_callF (vs := [_, _, _, _]) rfl Try.func18 rfl (by decide) rfl) (fun w hS => lease_Ended.c hS  hg9) (fun x16 => ?_)
            refine T.not .list rfl (wants1 rfl rfl rfl hb12) rfl rfl ?_
            refine T.pickT .list rfl (wants1 rfl rfl rfl (not_t hb11)) rfl rfl hb12 rfl ?_
            refine T.pickF .list rfl (wants0 rfl) rfl rfl (not_t hb11) rfl ?_
            refine T.nil ?_
            refine T.then_normal ?_
            exact T.le (EnvLe.cons rfl (EnvLe.cons rfl (EnvLe.cons rfl (EnvLe.cons rfl (EnvLe.cons rfl (EnvLe.cons rfl (EnvLe.cons rfl (EnvLe.cons rfl (EnvLe.cons rfl (EnvLe.cons rfl (EnvLe.cons rfl (EnvLe.cons rfl EnvLe.nil)))))))))))) (T.pick [0] 1 rfl rfl (Nat.le_add_left _ _) rfl (J5 (!r9) () hk4))
           ·replace hk4 := inv_negB hb12 hk4
            refine T.leave .list (wantsNot rfl rfl rfl hb12) rfl ?_
            refine T.leave .list (wantsNot rfl rfl rfl hb12) rfl ?_
            refine T.leave .list (wantsNot rfl rfl rfl hb12) rfl ?_
            refine T.leave .list (wantsNot rfl rfl rfl hb12) rfl ?_
            refine T.leave .list (wantsNot rfl rfl rfl hb12) rfl ?_
            refine T.leave .list (wantsNot rfl rfl rfl hb12) rfl ?_
            refine T.leave .list (wantsNot rfl rfl rfl hb12) rfl ?_
            refine T.leave .list (wantsNot rfl rfl rfl hb12) rfl ?_
            refine T.leave .list (wantsNot rfl rfl rfl hb12) rfl ?_
            refine T.leave .list (wantsNot rfl rfl rfl hb12) rfl ?_
            refine T.pickF .list rfl (wants1 rfl rfl rfl (not_t hb11)) rfl rfl hb12 rfl ?_
            refine T.pickF .list rfl (wants0 rfl) rfl rfl (not_t hb11) rfl ?_
            refine T.nil ?_
            refine T.then_normal ?_
            exact T.le (EnvLe.cons rfl (EnvLe.cons rfl (EnvLe.cons rfl (EnvLe.cons rfl (EnvLe.cons rfl (EnvLe.cons rfl (EnvLe.cons rfl (EnvLe.cons rfl (EnvLe.cons rfl (EnvLe.cons rfl (EnvLe.cons rfl (EnvLe.cons rfl EnvLe.nil)))))))))))) (T.pick [0] 1 rfl rfl (Nat.le_add_left _ _) rfl (J5 false () hk4))
          ·replace hk4 := inv_negB hb11 hk4
           refine T.leave .list (wantsNot rfl rfl rfl (not_f hb11)) rfl ?_
           refine T.leave .list (wantsNot rfl rfl rfl (not_f hb11)) rfl ?_
           refine T.leave .list (wantsUndef rfl rfl rfl) rfl ?_
           refine T.leave .list (wantsUndef rfl rfl rfl) rfl ?_
           refine T.leave .list (wantsUndef rfl rfl rfl) rfl ?_
           refine T.leave .list (wantsUndef rfl rfl rfl) rfl ?_
           refine T.leave .list (wantsUndef rfl rfl rfl) rfl ?_
           refine T.leave .list (wantsUndef rfl rfl rfl) rfl ?_
           refine T.leave .list (wantsUndef rfl rfl rfl) rfl ?_
           refine T.leave .list (wantsUndef rfl rfl rfl) rfl ?_
           refine T.leave .list (wantsUndef rfl rfl rfl) rfl ?_
           refine T.leave .list (wantsUndef rfl rfl rfl) rfl ?_
           refine T.leave .list (wantsNot rfl rfl rfl (not_f hb11)) rfl ?_
           refine T.pickT .list rfl (wants0 rfl) rfl rfl (not_f hb11) rfl ?_
           refine T.nil ?_
           refine T.then_normal ?_
           exact T.le (EnvLe.cons rfl (EnvLe.cons rfl (EnvLe.cons rfl (EnvLe.cons rfl (EnvLe.cons rfl (EnvLe.cons rfl (EnvLe.cons rfl (EnvLe.cons rfl (EnvLe.cons rfl (EnvLe.cons rfl (EnvLe.cons rfl (EnvLe.cons rfl EnvLe.nil)))))))))))) (T.pick [0] 1 rfl rfl (Nat.le_add_left _ _) rfl (J5 true () hk4))
         ·replace hk4 := inv_negB hb10 hk4
          refine T.leave .list (wantsNot rfl rfl rfl hb10) rfl ?_
          refine T.leave .list (wantsNot rfl rfl rfl hb10) rfl ?_
          refine T.leave .list (wantsNot rfl rfl rfl hb10) rfl ?_
          refine T.leave .list (wantsNot rfl rfl rfl hb10) rfl ?_
          refine T.leave .list (wantsNot rfl rfl rfl hb10) rfl ?_
          refine T.leave .list (wantsNot rfl rfl rfl hb10) rfl ?_
          refine T.leave .list (wantsNot rfl rfl rfl hb10) rfl ?_
          refine T.leave .list (wantsNot rfl rfl rfl hb10) rfl ?_
          refine T.leave .list (wantsNot rfl rfl rfl hb10) rfl ?_
          refine T.pickF .list rfl (wants0 rfl) rfl rfl hb10 rfl ?_
          refine T.move .list rfl (wants0 rfl) rfl rfl ?_
          refine T.move .list rfl (wants1 rfl rfl rfl rfl) rfl rfl ?_
          refine T.move .list rfl (wants1 rfl rfl rfl rfl) rfl rfl ?_
          refine T.bool (b := r4) (fun hb13 => ?_) (fun hb13 => ?_)
          ·replace hk4 := inv_posB hb13 hk4
           refine T.move .list rfl (wants1 rfl rfl rfl hb13) rfl rfl ?_
           refine T.move .list rfl (wants1 rfl rfl rfl hb13) rfl rfl ?_
           refine T.move .list rfl (wants1 rfl rfl rfl hb13) rfl rfl ?_
           refine T.move .list rfl (wants1 rfl rfl rfl hb13) rfl rfl ?_
           refine T.bin .list rfl (wants1 rfl rfl rfl hb13) rfl rfl rfl rfl ?_
           refine T.bin .list rfl (wants1 rfl rfl rfl hb13) rfl rfl rfl rfl ?_
           refine T.max2 .list rfl (wants1 rfl rfl rfl hb13) rfl rfl rfl ?_
           refine T.move .list rfl (wants1 rfl rfl rfl hb13) rfl rfl ?_
           obtain ⟨r10, hg10, hk4⟩ := inv_bind hk4
           refine T.call .list (wants1 rfl rfl rfl hb13) rfl (run_callF (vs := [_, _, _, _]) rfl Try.func18 rfl (by decide) rfl) (fun w hS => lease_Ended.c hS  hg10) (fun x17 => ?_)
           refine T.not .list rfl (wants1 rfl rfl rfl hb13) rfl rfl ?_
           refine T.pickT .list rfl (wants1 rfl rfl rfl rfl) rfl rfl hb13 rfl ?_
           refine T.pickF .list rfl (wants0 rfl) rfl rfl rfl rfl ?_
           refine T.nil ?_
           refine T.then_normal ?_
           exact T.le (EnvLe.cons rfl (EnvLe.cons rfl (EnvLe.cons rfl (EnvLe.cons rfl (EnvLe.cons rfl (EnvLe.cons rfl (EnvLe.cons rfl (EnvLe.cons rfl (EnvLe.cons rfl (EnvLe.cons rfl (EnvLe.cons rfl (EnvLe.cons rfl EnvLe.nil)))))))))))) (T.pick [0] 1 rfl rfl (Nat.le_add_left _ _) rfl (J5 (!r10) () hk4))
          ·replace hk4 := inv_negB hb13 hk4
           refine T.leave .list (wantsNot rfl rfl rfl hb13) rfl ?_
           refine T.leave .list (wantsNot rfl rfl rfl hb13) rfl ?_
           refine T.leave .list (wantsNot rfl rfl rfl hb13) rfl ?_
           refine T.leave .list (wantsNot rfl rfl rfl hb13) rfl ?_
           refine T.leave .list (wantsNot rfl rfl rfl hb13) rfl ?_
           refine T.leave .list (wantsNot rfl rfl rfl hb13) rfl ?_
           refine T.leave .list (wantsNot rfl rfl rfl hb13) rfl ?_
           refine T.leave .list (wantsNot rfl rfl rfl hb13) rfl ?_
           refine T.leave .list (wantsNot rfl rfl rfl hb13) rfl ?_
           refine T.leave .list (wantsNot rfl rfl rfl hb13) rfl ?_
           refine T.pickF .list rfl (wants1 rfl rfl rfl rfl) rfl rfl hb13 rfl ?_
           refine T.pickF .list rfl (wants0 rfl) rfl rfl rfl rfl ?_
           refine T.nil ?_
           refine T.then_normal ?_
           exact T.le (EnvLe.cons rfl (EnvLe.cons rfl (EnvLe.cons rfl (EnvLe.cons rfl (EnvLe.cons rfl (EnvLe.cons rfl (EnvLe.cons rfl (EnvLe.cons rfl (EnvLe.cons rfl (EnvLe.cons rfl (EnvLe.cons rfl (EnvLe.cons rfl EnvLe.nil)))))))))))) (T.pick [0] 1 rfl rfl (Nat.le_add_left _ _) rfl (J5 false () hk4))
      ·refine T.region ?_
       refine T.move .list rfl (wants0 rfl) rfl rfl ?_
       refine T.move .list rfl (wants0 rfl) rfl rfl ?_
       refine T.bool (b := r3) (fun hb14 => ?_) (fun hb14 => ?_)
       ·replace hk3 := inv_posB hb14 hk3
        refine T.move .list rfl (wants1 rfl rfl rfl hb14) rfl rfl ?_
        refine T.pickT .list rfl (wants0 rfl) rfl rfl hb14 rfl ?_
        refine T.move .list rfl (wants0 rfl) rfl rfl ?_
        refine T.bool (b := r4) (fun hb15 => ?_) (fun hb15 => ?_)
        ·replace hk3 := inv_posB hb15 hk3
         refine T.leave .list (wantsNot rfl rfl rfl hb15) rfl ?_
         refine T.leave .list (wantsNot rfl rfl rfl hb15) rfl ?_
         refine T.leave .list (wantsUndef rfl rfl rfl) rfl ?_
         refine T.leave .list (wantsUndef rfl rfl rfl) rfl ?_
         refine T.leave .list (wantsNot rfl rfl rfl hb15) rfl ?_
         refine T.pickT .list rfl (wants0 rfl) rfl rfl hb15 rfl ?_
         refine T.move .list rfl (wants0 rfl) rfl rfl ?_
         refine T.leave .list (wantsNot rfl rfl rfl rfl) rfl ?_
         refine T.leave .list (wantsNot rfl rfl rfl rfl) rfl ?_
         refine T.leave .list (wantsNot rfl rfl rfl rfl) rfl ?_
         refine T.leave .list (wantsUndef rfl rfl rfl) rfl ?_
         refine T.leave .list (wantsNot rfl rfl rfl rfl) rfl ?_
         refine T.pickT .list rfl (wants0 rfl) rfl rfl rfl rfl ?_
         refine T.nil ?_
         refine T.then_normal ?_
         exact T.le (EnvLe.cons rfl (EnvLe.cons rfl (EnvLe.cons rfl (EnvLe.cons rfl (EnvLe.cons rfl (EnvLe.cons rfl (EnvLe.cons rfl (EnvLe.cons rfl (EnvLe.cons rfl (EnvLe.cons rfl EnvLe.nil)))))))))) (T.pick [0] 1 rfl rfl (Nat.le_add_left _ _) rfl (J4 true () hk3))
        ·replace hk3 := inv_negB hb15 hk3
         refine T.move .list rfl (wants1 rfl rfl rfl hb15) rfl rfl ?_
         refine T.move .list rfl (wants1 rfl rfl rfl hb15) rfl rfl ?_
         refine T.move .list rfl (wants1 rfl rfl rfl hb14) rfl rfl ?_
         refine T.not .list rfl (wants1 rfl rfl rfl hb14) rfl rfl ?_
         refine T.pickT .list rfl (wants1 rfl rfl rfl hb15) rfl rfl hb14 rfl ?_
         refine T.pickF .list rfl (wants0 rfl) rfl rfl hb15 rfl ?_
         refine T.move .list rfl (wants0 rfl) rfl rfl ?_
         refine T.bool (b := s3.2.1) (fun hb16 => ?_) (fun hb16 => ?_)
         ·replace hk3 := inv_posB hb16 hk3
          refine T.move .list rfl (wants1 rfl rfl rfl (not_t hb16)) rfl rfl ?_
          refine T.not .list rfl (wants1 rfl rfl rfl (not_t hb16)) rfl rfl ?_
          refine T.move .list rfl (wants1 rfl rfl rfl (not_t hb16)) rfl rfl ?_
          refine T.move .list rfl (wants1 rfl rfl rfl (not_f hb15)) rfl rfl ?_
          refine T.pickT .list rfl (wants1 rfl rfl rfl (not_t hb16)) rfl rfl (not_f hb15) rfl ?_
          refine T.pickF .list rfl (wants0 rfl) rfl rfl (not_t hb16) rfl ?_
          refine T.nil ?_
          refine T.then_normal ?_
          exact T.le (EnvLe.cons rfl (EnvLe.cons rfl (EnvLe.cons rfl (EnvLe.cons rfl (EnvLe.cons rfl (EnvLe.cons rfl (EnvLe.cons rfl (EnvLe.cons rfl (EnvLe.cons rfl (EnvLe.cons rfl EnvLe.nil)))))))))) (T.pick [0] 1 rfl rfl (Nat.le_add_left _ _) rfl (J4 s3.2.2.1 () hk3))
         ·replace hk3 := inv_negB hb16 hk3
          refine T.leave .list (wantsNot rfl rfl rfl (not_f hb16)) rfl ?_
          refine T.leave .list (wantsNot rfl rfl rfl (not_f hb16)) rfl ?_
          refine T.leave .list (wantsNot rfl rfl rfl (not_f hb16)) rfl ?_
          refine T.leave .list (wantsUndef rfl rfl rfl) rfl ?_
          refine T.leave .list (wantsNot rfl rfl rfl (not_f hb16)) rfl ?_
          refine T.pickT .list rfl (wants0 rfl) rfl rfl (not_f hb16) rfl ?_
          refine T.nil ?_
          refine T.then_normal ?_
          exact T.le (EnvLe.cons rfl (EnvLe.cons rfl (EnvLe.cons rfl (EnvLe.cons rfl (EnvLe.cons rfl (EnvLe.cons rfl (EnvLe.cons rfl (EnvLe.cons rfl (EnvLe.cons rfl (EnvLe.cons rfl EnvLe.nil)))))))))) (T.pick [0] 1 rfl rfl (Nat.le_add_left _ _) rfl (J4 true () hk3))
       ·replace hk3 := inv_negB hb14 hk3
        refine T.leave .list (wantsNot rfl rfl rfl hb14) rfl ?_
        refine T.pickF .list rfl (wants0 rfl) rfl rfl hb14 rfl ?_
        refine T.move .list rfl (wants0 rfl) rfl rfl ?_
        refine T.move .list rfl (wants1 rfl rfl rfl rfl) rfl rfl ?_
        refine T.move .list rfl (wants1 rfl rfl rfl rfl) rfl rfl ?_
        refine T.leave .list (wantsNot rfl rfl rfl hb14) rfl ?_
        refine T.leave .list (wantsNot rfl rfl rfl hb14) rfl ?_
        refine T.pickF .list rfl (wants1 rfl rfl rfl rfl) rfl rfl hb14 rfl ?_
        refine T.pickF .list rfl (wants0 rfl) rfl rfl rfl rfl ?_
        refine T.move .list rfl (wants0 rfl) rfl rfl ?_
        refine T.move .list rfl (wants1 rfl rfl rfl rfl) rfl rfl ?_
        refine T.not .list rfl (wants1 rfl rfl rfl rfl) rfl rfl ?_
        refine T.move .list rfl (wants1 rfl rfl rfl rfl) rfl rfl ?_
        refine T.bool (b := r4) (fun hb17 => ?_) (fun hb17 => ?_)
        ·replace hk3 := inv_posB hb17 hk3
         refine T.leave .list (wantsNot rfl rfl rfl (not_t hb17)) rfl ?_
         refine T.pickF .list rfl (wants1 rfl rfl rfl rfl) rfl rfl (not_t hb17) rfl ?_
         refine T.pickF .list rfl (wants0 rfl) rfl rfl rfl rfl ?_
         refine T.nil ?_
         refine T.then_normal ?_
         exact T.le (EnvLe.cons rfl (EnvLe.cons rfl (EnvLe.cons rfl (EnvLe.cons rfl (EnvLe.cons rfl (EnvLe.cons rfl (EnvLe.cons rfl (EnvLe.cons rfl (EnvLe.cons rfl (EnvLe.cons rfl EnvLe.nil)))))))))) (T.pick [0] 1 rfl rfl (Nat.le_add_left _ _) rfl (J4 false () hk3))
        ·replace hk3 := inv_negB hb17 hk3
         refine T.move .list rfl (wants1 rfl rfl rfl (not_f hb17)) rfl rfl ?_
         refine T.pickT .list rfl (wants1 rfl rfl rfl rfl) rfl rfl (not_f hb17) rfl ?_
         refine T.pickF .list rfl (wants0 rfl) rfl rfl rfl rfl ?_
         refine T.nil ?_
         refine T.then_normal ?_
         exact T.le (EnvLe.cons rfl (EnvLe.cons rfl (EnvLe.cons rfl (EnvLe.cons rfl (EnvLe.cons rfl (EnvLe.cons rfl (EnvLe.cons rfl (EnvLe.cons rfl (EnvLe.cons rfl (EnvLe.cons rfl EnvLe.nil)))))))))) (T.pick [0] 1 rfl rfl (Nat.le_add_left _ _) rfl (J4 s3.2.2.1 () hk3))
     ·replace hk3 := inv_negB hb2 hk3
      refine T.exit ?_
      refine T.then_exit ?_
      refine T.then_exit ?_
      obtain rfl := inv_some hk3
      obtain rfl := hx1 _ rfl
      refine T.in_hit ?_
      refine T.then_normal ?_
      exact T.le EnvLe.nil (T.pick [] 1 rfl rfl (Nat.le_add_left _ _) rfl (J2 () () hk1))
    ·refine T.region ?_
     refine T.move .list rfl (wants0 rfl) rfl rfl ?_
     refine T.move .list rfl (wants0 rfl) rfl rfl ?_
     refine T.lenSlice .list rfl (wants0 rfl) rfl rfl ?_
     refine T.bin .list rfl (wants0 rfl) rfl rfl rfl rfl ?_
     refine T.move .list rfl (wants0 rfl) rfl rfl ?_
     refine T.bool (b := (decide (s3.2.2.2 < ((l0.length : Int))))) (fun hb18 => ?_) (fun hb18 => ?_)
     ·replace he1 := inv_posB hb18 he1
      refine T.move .list rfl (wants1 rfl rfl rfl hb18) rfl rfl ?_
      refine T.bin .list rfl (wants1 rfl rfl rfl hb18) rfl rfl rfl rfl ?_
      refine T.pickT .list rfl (wants0 rfl) rfl rfl hb18 rfl ?_
      refine T.nil ?_
      refine T.then_normal ?_
      exact T.le (EnvLe.cons rfl (EnvLe.cons rfl (EnvLe.cons rfl (EnvLe.cons rfl (EnvLe.cons rfl (EnvLe.cons rfl (EnvLe.cons rfl (EnvLe.cons rfl (EnvLe.cons rfl (EnvLe.cons rfl EnvLe.nil)))))))))) (T.pick [0] 1 rfl rfl (Nat.le_add_left _ _) rfl (J3 (decide (s3.2.2.2 < 30)) () he1))
     ·replace he1 := inv_negB hb18 he1
      refine T.leave .list (wantsNot rfl rfl rfl hb18) rfl ?_
      refine T.leave .list (wantsNot rfl rfl rfl hb18) rfl ?_
      refine T.pickF .list rfl (wants0 rfl) rfl rfl hb18 rfl ?_
      refine T.nil ?_
      refine T.then_normal ?_
      exact T.le (EnvLe.cons rfl (EnvLe.cons rfl (EnvLe.cons rfl (EnvLe.cons rfl (EnvLe.cons rfl (EnvLe.cons rfl (EnvLe.cons rfl (EnvLe.cons rfl (EnvLe.cons rfl (EnvLe.cons rfl EnvLe.nil)))))))))) (T.pick [0] 1 rfl rfl (Nat.le_add_left _ _) rfl (J3 false () he1))
 ·refine T.region ?_
  refine T.move .list rfl (wants0 rfl) rfl rfl ?_
  refine T.bin .list rfl (wants0 rfl) rfl rfl rfl rfl ?_
  refine T.move .list rfl (wants0 rfl) rfl rfl ?_
  refine T.bool (b := (decide (a1 < 0))) (fun hb19 => ?_) (fun hb19 => ?_)
  ·replace hr := inv_posB hb19 hr
   refine T.leave .list (wantsNot rfl rfl rfl hb19) rfl ?_
   refine T.leave .list (wantsNot rfl rfl rfl hb19) rfl ?_
   refine T.pickT .list rfl (wants0 rfl) rfl rfl hb19 rfl ?_
   refine T.move .list rfl (wants0 rfl) rfl rfl ?_
   refine T.leave .list (wantsNot rfl rfl rfl rfl) rfl ?_
   refine T.leave .list (wantsNot rfl rfl rfl rfl) rfl ?_
   refine T.pickT .list rfl (wants0 rfl) rfl rfl rfl rfl ?_
   refine T.move .list rfl (wants0 rfl) rfl rfl ?_
   refine T.leave .list (wantsNot rfl rfl rfl rfl) rfl ?_
   refine T.leave .list (wantsNot rfl rfl rfl rfl) rfl ?_
   refine T.pickT .list rfl (wants0 rfl) rfl rfl rfl rfl ?_
   refine T.move .list rfl (wants0 rfl) rfl rfl ?_
   refine T.leave .list (wantsNot rfl rfl rfl rfl) rfl ?_
   refine T.leave .list (wantsNot rfl rfl rfl rfl) rfl ?_
   refine T.pickT .list rfl (wants0 rfl) rfl rfl rfl rfl ?_
   refine T.move .list rfl (wants0 rfl) rfl rfl ?_
   refine T.leave .list (wantsNot rfl rfl rfl rfl) rfl ?_
   refine T.leave .list (wantsNot rfl rfl rfl rfl) rfl ?_
   refine T.pickT .list rfl (wants0 rfl) rfl rfl rfl rfl ?_
   refine T.nil ?_
   refine T.then_normal ?_
   exact T.le (EnvLe.cons rfl (EnvLe.cons rfl (EnvLe.cons rfl (EnvLe.cons rfl (EnvLe.cons rfl (EnvLe.cons rfl EnvLe.nil)))))) (T.pick [0] 1 rfl rfl (Nat.le_add_left _ _) rfl (J1 true () hr))
  ·replace hr := inv_negB hb19 hr
   refine T.move .list rfl (wants1 rfl rfl rfl hb19) rfl rfl ?_
   refine T.bin .list rfl (wants1 rfl rfl rfl hb19) rfl rfl rfl rfl ?_
   refine T.pickF .list rfl (wants0 rfl) rfl rfl hb19 rfl ?_
   refine T.move .list rfl (wants0 rfl) rfl rfl ?_
   refine T.bool (b := (decide ((549755813888 : Int) < a1))) (fun hb20 => ?_) (fun hb20 => ?_)
   ·replace hr := inv_posB hb20 hr
    refine T.leave .list (wantsNot rfl rfl rfl hb20) rfl ?_
    refine T.leave .list (wantsNot rfl rfl rfl hb20) rfl ?_
    refine T.pickT .list rfl (wants0 rfl) rfl rfl hb20 rfl ?_
    refine T.move .list rfl (wants0 rfl) rfl rfl ?_
    refine T.leave .list (wantsNot rfl rfl rfl rfl) rfl ?_
    refine T.leave .list (wantsNot rfl rfl rfl rfl) rfl ?_
    refine T.pickT .list rfl (wants0 rfl) rfl rfl rfl rfl ?_
    refine T.move .list rfl (wants0 rfl) rfl rfl ?_
    refine T.leave .list (wantsNot rfl rfl rfl rfl) rfl ?_
    refine T.leave .list (wantsNot rfl rfl rfl rfl) rfl ?_
    refine T.pickT .list rfl (wants0 rfl) rfl rfl rfl rfl ?_
    refine T.move .list rfl (wants0 rfl) rfl rfl ?_
    refine T.leave .list (wantsNot rfl rfl rfl rfl) rfl ?_
    refine T.leave .list (wantsNot rfl rfl rfl rfl) rfl ?_
    refine T.pickT .list rfl (wants0 rfl) rfl rfl rfl rfl ?_
    refine T.nil ?_
    refine T.then_normal ?_
    exact T.le (EnvLe.cons rfl (EnvLe.cons rfl (EnvLe.cons rfl (EnvLe.cons rfl (EnvLe.cons rfl (EnvLe.cons rfl EnvLe.nil)))))) (T.pick [0] 1 rfl rfl (Nat.le_add_left _ _) rfl (J1 true () hr))
   ·replace hr := inv_negB hb20 hr
    refine T.move .list rfl (wants1 rfl rfl rfl hb20) rfl rfl ?_
    refine T.bin .list rfl (wants1 rfl rfl rfl hb20) rfl rfl rfl rfl ?_
    refine T.pickF .list rfl (wants0 rfl) rfl rfl hb20 rfl ?_
    refine T.move .list rfl (wants0 rfl) rfl rfl ?_
    refine T.bool (b := (decide (a2 < 1))) (fun hb21 => ?_) (fun hb21 => ?_)
    ·replace hr := inv_posB hb21 hr
     refine T.leave .list (wantsNot rfl rfl rfl hb21) rfl ?_
     refine T.leave .list (wantsNot rfl rfl rfl hb21) rfl ?_
     refine T.pickT .list rfl (wants0 rfl) rfl rfl hb21 rfl ?_
     refine T.move .list rfl (wants0 rfl) rfl rfl ?_
     refine T.leave .list (wantsNot rfl rfl rfl rfl) rfl ?_
     refine T.leave .list (wantsNot rfl rfl rfl rfl) rfl ?_
     refine T.pickT .list rfl (wants0 rfl) rfl rfl rfl rfl ?_
     refine T.move .list rfl (wants0 rfl) rfl rfl ?_
     refine T.leave .list (wantsNot rfl rfl rfl rfl) rfl ?_
     refine T.leave .list (wantsNot rfl rfl rfl rfl) rfl ?_
     refine T.pickT .list rfl (wants0 rfl) rfl rfl rfl rfl ?_
     refine T.nil ?_
     refine T.then_normal ?_
     exact T.le (EnvLe.cons rfl (EnvLe.cons rfl (EnvLe.cons rfl (EnvLe.cons rfl (EnvLe.cons rfl (EnvLe.cons rfl EnvLe.nil)))))) (T.pick [0] 1 rfl rfl (Nat.le_add_left _ _) rfl (J1 true () hr))
    ·replace hr := inv_negB hb21 hr
     refine T.move .list rfl (wants1 rfl rfl rfl hb21) rfl rfl ?_
     refine T.bin .list rfl (wants1 rfl rfl rfl hb21) rfl rfl rfl rfl ?_
     refine T.pickF .list rfl (wants0 rfl) rfl rfl hb21 rfl ?_
     refine T.move .list rfl (wants0 rfl) rfl rfl ?_
     refine T.bool (b := (decide ((524288 : Int) < a2))) (fun hb22 => ?_) (fun hb22 => ?_)
     ·replace hr := inv_posB hb22 hr
      refine T.leave .list (wantsNot rfl rfl rfl hb22) rfl ?_
      refine T.leave .list (wantsNot rfl rfl rfl hb22) rfl ?_
      refine T.pickT .list rfl (wants0 rfl) rfl rfl hb22 rfl ?_
      refine T.move .list rfl (wants0 rfl) rfl rfl ?_
      refine T.leave .list (wantsNot rfl rfl rfl rfl) rfl ?_
      refine T.leave .list (wantsNot rfl rfl rfl rfl) rfl ?_
      refine T.pickT .list rfl (wants0 rfl) rfl rfl rfl rfl ?_
      refine T.nil ?_
      refine T.then_normal ?_
      exact T.le (EnvLe.cons rfl (EnvLe.cons rfl (EnvLe.cons rfl (EnvLe.cons rfl (EnvLe.cons rfl (EnvLe.cons rfl EnvLe.nil)))))) (T.pick [0] 1 rfl rfl (Nat.le_add_left _ _) rfl (J1 true () hr))
     ·replace hr := inv_negB hb22 hr
      refine T.move .list rfl (wants1 rfl rfl rfl hb22) rfl rfl ?_
      refine T.bin .list rfl (wants1 rfl rfl rfl hb22) rfl rfl rfl rfl ?_
      refine T.pickF .list rfl (wants0 rfl) rfl rfl hb22 rfl ?_
      refine T.move .list rfl (wants0 rfl) rfl rfl ?_
      refine T.bool (b := (decide (a3 < 0))) (fun hb23 => ?_) (fun hb23 => ?_)
      ·replace hr := inv_posB hb23 hr
       refine T.leave .list (wantsNot rfl rfl rfl hb23) rfl ?_
       refine T.leave .list (wantsNot rfl rfl rfl hb23) rfl ?_
       refine T.pickT .list rfl (wants0 rfl) rfl rfl hb23 rfl ?_
       refine T.nil ?_
       refine T.then_normal ?_
       exact T.le (EnvLe.cons rfl (EnvLe.cons rfl (EnvLe.cons rfl (EnvLe.cons rfl (EnvLe.cons rfl (EnvLe.cons rfl EnvLe.nil)))))) (T.pick [0] 1 rfl rfl (Nat.le_add_left _ _) rfl (J1 true () hr))
      ·replace hr := inv_negB hb23 hr
       refine T.move .list rfl (wants1 rfl rfl rfl hb23) rfl rfl ?_
       refine T.bin .list rfl (wants1 rfl rfl rfl hb23) rfl rfl rfl rfl ?_
       refine T.pickF .list rfl (wants0 rfl) rfl rfl hb23 rfl ?_
       refine T.nil ?_
       refine T.then_normal ?_
       exact T.le (EnvLe.cons rfl (EnvLe.cons rfl (EnvLe.cons rfl (EnvLe.cons rfl (EnvLe.cons rfl (EnvLe.cons rfl EnvLe.nil)))))) (T.pick [0] 1 rfl rfl (Nat.le_add_left _ _) rfl (J1 (decide ((499 : Int) < a3)) () hr))
end Go.Proofs.Ytodijocajcohjaa
