/- LeaseP: what the functions compute, and that the program computes it; printed by a program of ours. -/
import Derived.Test.YtodijocajcohjaaLease
set_option linter.unusedVariables false
set_option linter.unusedSimpArgs false
namespace Go.Proofs.Ytodijocajcohjaa
open Go.RowKit
noncomputable def law19_LeasePlays.k1 (s1 : Unit) : Option Bool :=
  (law19_told.impl ).bind fun r3 => some r3
noncomputable def law19_LeasePlays.k3 (s2 : (List ((Int × (List UInt8) × (List UInt8)) × Bool)) × Int × Int × Int × Int) (s4 : (List ((Int × (List UInt8) × (List UInt8)) × Bool)) × Int × Int × Int) : Option (((List ((Int × (List UInt8) × (List UInt8)) × Bool)) × Int × Int × Int × Int) ⊕ (Bool ⊕ Unit)) :=
  some (.inl (s4.1, s4.2.1, s4.2.2.1, s4.2.2.2, IntKind.i64.wrap (s2.2.2.2.2 + 1)))
noncomputable def law19_LeasePlays.st2 (r4 : (Int × Int × Int) × Int) (s5 : (List ((Int × (List UInt8) × (List UInt8)) × Bool)) × Int × Int × Int) (s7 : Int) : Option (Int ⊕ (Bool ⊕ ((List ((Int × (List UInt8) × (List UInt8)) × Bool)) × Int × Int × Int))) :=
  (if ((decide (s7 < 5))) = true then (lease_May.impl ((r4.1.1, r4.1.2.1, r4.1.2.2)) s7).bind fun r5 => (ref19_May.impl ((s5.2.1, s5.2.2.1, s5.2.2.2)) s7).bind fun r6 => (if ((!(decide (r5 = r6)))) = true then some (.inr (.inl false)) else some (.inl (IntKind.i64.wrap (s7 + 1)))) else some (.inr (.inr (s5.1, s5.2.1, s5.2.2.1, s5.2.2.2))))
noncomputable def law19_LeasePlays.k5 (r4 : (Int × Int × Int) × Int) (s5 : (List ((Int × (List UInt8) × (List UInt8)) × Bool)) × Int × Int × Int) (s2 : (List ((Int × (List UInt8) × (List UInt8)) × Bool)) × Int × Int × Int × Int) (s6 : Bool) : Option (((List ((Int × (List UInt8) × (List UInt8)) × Bool)) × Int × Int × Int × Int) ⊕ (Bool ⊕ Unit)) :=
  (if s6 = true then some (.inr (.inl false)) else (loop (law19_LeasePlays.st2 r4 s5) (-2)).bind (fun e2 => match e2 with | .inl v => some (.inr (.inl v)) | .inr v => law19_LeasePlays.k3 s2 v))
noncomputable def law19_LeasePlays.k4 (r1p0 : Unit × (Int × Int × Int × Int × Int × Int × Int × Int × Int × Int × Int × Int × Int × Int × Int × Int × Int) × (Int × Int × Int × Int) × (Int × Int × Int × Int) × (List (Int × Int)) × (Int × Bool × Int × Int × Int × Int × Int) × (List (Int × (List UInt8))) × (List (Int × (List UInt8))) × (List (Int × Int)) × (List (Int × Int)) × (List ((Int × (List UInt8) × (List UInt8)) × Bool))) (s2 : (List ((Int × (List UInt8) × (List UInt8)) × Bool)) × Int × Int × Int × Int) (s5 : (List ((Int × (List UInt8) × (List UInt8)) × Bool)) × Int × Int × Int) : Option (((List ((Int × (List UInt8) × (List UInt8)) × Bool)) × Int × Int × Int × Int) ⊕ (Bool ⊕ Unit)) :=
  (lease_Now.impl ((r1p0.2.1.1, r1p0.2.1.2.1, r1p0.2.1.2.2.1, r1p0.2.1.2.2.2.1, r1p0.2.1.2.2.2.2.1, r1p0.2.1.2.2.2.2.2.1, r1p0.2.1.2.2.2.2.2.2.1, r1p0.2.1.2.2.2.2.2.2.2.1, r1p0.2.1.2.2.2.2.2.2.2.2.1, r1p0.2.1.2.2.2.2.2.2.2.2.2.1, r1p0.2.1.2.2.2.2.2.2.2.2.2.2.1, r1p0.2.1.2.2.2.2.2.2.2.2.2.2.2.1, r1p0.2.1.2.2.2.2.2.2.2.2.2.2.2.2.1, r1p0.2.1.2.2.2.2.2.2.2.2.2.2.2.2.2.1, r1p0.2.1.2.2.2.2.2.2.2.2.2.2.2.2.2.2.1, r1p0.2.1.2.2.2.2.2.2.2.2.2.2.2.2.2.2.2.1, r1p0.2.1.2.2.2.2.2.2.2.2.2.2.2.2.2.2.2.2)) ((r1p0.2.2.1.1, r1p0.2.2.1.2.1, r1p0.2.2.1.2.2.1, r1p0.2.2.1.2.2.2)) ((r1p0.2.2.2.1.1, r1p0.2.2.2.1.2.1, r1p0.2.2.2.1.2.2.1, r1p0.2.2.2.1.2.2.2)) r1p0.2.2.2.2.1 ((r1p0.2.2.2.2.2.1.1, r1p0.2.2.2.2.2.1.2.1, r1p0.2.2.2.2.2.1.2.2.1, r1p0.2.2.2.2.2.1.2.2.2.1, r1p0.2.2.2.2.2.1.2.2.2.2.1, r1p0.2.2.2.2.2.1.2.2.2.2.2.1, r1p0.2.2.2.2.2.1.2.2.2.2.2.2)) r1p0.2.2.2.2.2.2.1 r1p0.2.2.2.2.2.2.2.1 r1p0.2.2.2.2.2.2.2.2.1 r1p0.2.2.2.2.2.2.2.2.2.1 s5.1).bind fun r4 => (if ((decide (r4.2 = 0))) = true then law19_LeasePlays.k5 r4 s5 s2 (!(decide ((r4.1.1, r4.1.2.1, r4.1.2.2) = (s5.2.1, s5.2.2.1, s5.2.2.2)))) else law19_LeasePlays.k5 r4 s5 s2 true)
noncomputable def law19_LeasePlays.k7 (r1p0 : Unit × (Int × Int × Int × Int × Int × Int × Int × Int × Int × Int × Int × Int × Int × Int × Int × Int × Int) × (Int × Int × Int × Int) × (Int × Int × Int × Int) × (List (Int × Int)) × (Int × Bool × Int × Int × Int × Int × Int) × (List (Int × (List UInt8))) × (List (Int × (List UInt8))) × (List (Int × Int)) × (List (Int × Int)) × (List ((Int × (List UInt8) × (List UInt8)) × Bool))) (s2 : (List ((Int × (List UInt8) × (List UInt8)) × Bool)) × Int × Int × Int × Int) (r7 : Bool × Int × (List ((Int × (List UInt8) × (List UInt8)) × Bool))) (s9 : Bool) : Option (((List ((Int × (List UInt8) × (List UInt8)) × Bool)) × Int × Int × Int × Int) ⊕ (Bool ⊕ Unit)) :=
  (if s9 = true then some (.inr (.inl false)) else law19_LeasePlays.k4 r1p0 s2 (r7.2.2, s2.2.1, s2.2.2.1, s2.2.2.2.1))
noncomputable def law19_LeasePlays.k8 (r1p0 : Unit × (Int × Int × Int × Int × Int × Int × Int × Int × Int × Int × Int × Int × Int × Int × Int × Int × Int) × (Int × Int × Int × Int) × (Int × Int × Int × Int) × (List (Int × Int)) × (Int × Bool × Int × Int × Int × Int × Int) × (List (Int × (List UInt8))) × (List (Int × (List UInt8))) × (List (Int × Int)) × (List (Int × Int)) × (List ((Int × (List UInt8) × (List UInt8)) × Bool))) (s2 : (List ((Int × (List UInt8) × (List UInt8)) × Bool)) × Int × Int × Int × Int) (r7 : Bool × Int × (List ((Int × (List UInt8) × (List UInt8)) × Bool))) (r8 : (Int × Int × Int) × Bool) (s10 : Bool) : Option (((List ((Int × (List UInt8) × (List UInt8)) × Bool)) × Int × Int × Int × Int) ⊕ (Bool ⊕ Unit)) :=
  (if s10 = true then some (.inr (.inl false)) else law19_LeasePlays.k4 r1p0 s2 (r7.2.2, r8.1.1, r8.1.2.1, r8.1.2.2))
noncomputable def law19_LeasePlays.k6 (r7 : Bool × Int × (List ((Int × (List UInt8) × (List UInt8)) × Bool))) (r1p0 : Unit × (Int × Int × Int × Int × Int × Int × Int × Int × Int × Int × Int × Int × Int × Int × Int × Int × Int) × (Int × Int × Int × Int) × (Int × Int × Int × Int) × (List (Int × Int)) × (Int × Bool × Int × Int × Int × Int × Int) × (List (Int × (List UInt8))) × (List (Int × (List UInt8))) × (List (Int × Int)) × (List (Int × Int)) × (List ((Int × (List UInt8) × (List UInt8)) × Bool))) (s2 : (List ((Int × (List UInt8) × (List UInt8)) × Bool)) × Int × Int × Int × Int) (l0 : List (Int × Int × Int × Int)) (s8 : Bool) : Option (((List ((Int × (List UInt8) × (List UInt8)) × Bool)) × Int × Int × Int × Int) ⊕ (Bool ⊕ Unit)) :=
  (if s8 = true then (if ((decide (r7.2.1 = 1))) = true then law19_LeasePlays.k7 r1p0 s2 r7 r7.1 else law19_LeasePlays.k7 r1p0 s2 r7 true) else (ref19_Grant.impl ((s2.2.1, s2.2.2.1, s2.2.2.2.1)) (((((l0).getD (s2.2.2.2.2 : Int).toNat default)).2.1)) (((((l0).getD (s2.2.2.2.2 : Int).toNat default)).2.2.1)) (((((l0).getD (s2.2.2.2.2 : Int).toNat default)).2.2.2))).bind fun r8 => (if ((decide (r7.2.1 = 0))) = true then law19_LeasePlays.k8 r1p0 s2 r7 r8 (!(decide (r7.1 = r8.2))) else law19_LeasePlays.k8 r1p0 s2 r7 r8 true))
noncomputable def law19_LeasePlays.k9 (r1p0 : Unit × (Int × Int × Int × Int × Int × Int × Int × Int × Int × Int × Int × Int × Int × Int × Int × Int × Int) × (Int × Int × Int × Int) × (Int × Int × Int × Int) × (List (Int × Int)) × (Int × Bool × Int × Int × Int × Int × Int) × (List (Int × (List UInt8))) × (List (Int × (List UInt8))) × (List (Int × Int)) × (List (Int × Int)) × (List ((Int × (List UInt8) × (List UInt8)) × Bool))) (s2 : (List ((Int × (List UInt8) × (List UInt8)) × Bool)) × Int × Int × Int × Int) (r9 : Bool × Int × (List ((Int × (List UInt8) × (List UInt8)) × Bool))) (r10 : (Int × Int × Int) × Bool) (s11 : Bool) : Option (((List ((Int × (List UInt8) × (List UInt8)) × Bool)) × Int × Int × Int × Int) ⊕ (Bool ⊕ Unit)) :=
  (if s11 = true then some (.inr (.inl false)) else law19_LeasePlays.k4 r1p0 s2 (r9.2.2, r10.1.1, r10.1.2.1, r10.1.2.2))
noncomputable def law19_LeasePlays.k2 (s2 : (List ((Int × (List UInt8) × (List UInt8)) × Bool)) × Int × Int × Int × Int) (l0 : List (Int × Int × Int × Int)) (r1p0 : Unit × (Int × Int × Int × Int × Int × Int × Int × Int × Int × Int × Int × Int × Int × Int × Int × Int × Int) × (Int × Int × Int × Int) × (Int × Int × Int × Int) × (List (Int × Int)) × (Int × Bool × Int × Int × Int × Int × Int) × (List (Int × (List UInt8))) × (List (Int × (List UInt8))) × (List (Int × Int)) × (List (Int × Int)) × (List ((Int × (List UInt8) × (List UInt8)) × Bool))) (s3 : Bool) : Option (((List ((Int × (List UInt8) × (List UInt8)) × Bool)) × Int × Int × Int × Int) ⊕ (Bool ⊕ Unit)) :=
  (if s3 = true then chk (0 ≤ s2.2.2.2.2 ∧ s2.2.2.2.2 < (l0.length : Int)) ((if ((decide (((((((l0).getD (s2.2.2.2.2 : Int).toNat default)).1))) = 0))) = true then (lease_Grant.impl ((r1p0.2.1.1, r1p0.2.1.2.1, r1p0.2.1.2.2.1, r1p0.2.1.2.2.2.1, r1p0.2.1.2.2.2.2.1, r1p0.2.1.2.2.2.2.2.1, r1p0.2.1.2.2.2.2.2.2.1, r1p0.2.1.2.2.2.2.2.2.2.1, r1p0.2.1.2.2.2.2.2.2.2.2.1, r1p0.2.1.2.2.2.2.2.2.2.2.2.1, r1p0.2.1.2.2.2.2.2.2.2.2.2.2.1, r1p0.2.1.2.2.2.2.2.2.2.2.2.2.2.1, r1p0.2.1.2.2.2.2.2.2.2.2.2.2.2.2.1, r1p0.2.1.2.2.2.2.2.2.2.2.2.2.2.2.2.1, r1p0.2.1.2.2.2.2.2.2.2.2.2.2.2.2.2.2.1, r1p0.2.1.2.2.2.2.2.2.2.2.2.2.2.2.2.2.2.1, r1p0.2.1.2.2.2.2.2.2.2.2.2.2.2.2.2.2.2.2)) ((r1p0.2.2.1.1, r1p0.2.2.1.2.1, r1p0.2.2.1.2.2.1, r1p0.2.2.1.2.2.2)) ((r1p0.2.2.2.1.1, r1p0.2.2.2.1.2.1, r1p0.2.2.2.1.2.2.1, r1p0.2.2.2.1.2.2.2)) r1p0.2.2.2.2.1 ((r1p0.2.2.2.2.2.1.1, r1p0.2.2.2.2.2.1.2.1, r1p0.2.2.2.2.2.1.2.2.1, r1p0.2.2.2.2.2.1.2.2.2.1, r1p0.2.2.2.2.2.1.2.2.2.2.1, r1p0.2.2.2.2.2.1.2.2.2.2.2.1, r1p0.2.2.2.2.2.1.2.2.2.2.2.2)) r1p0.2.2.2.2.2.2.1 r1p0.2.2.2.2.2.2.2.1 r1p0.2.2.2.2.2.2.2.2.1 r1p0.2.2.2.2.2.2.2.2.2.1 s2.1 (((((l0).getD (s2.2.2.2.2 : Int).toNat default)).2.1)) (((((l0).getD (s2.2.2.2.2 : Int).toNat default)).2.2.1)) (((((l0).getD (s2.2.2.2.2 : Int).toNat default)).2.2.2))).bind fun r7 => (if ((decide (((((((l0).getD (s2.2.2.2.2 : Int).toNat default)).2.1))) < 0))) = true then law19_LeasePlays.k6 r7 r1p0 s2 l0 true else (if ((decide ((3 : Int) < (((((l0).getD (s2.2.2.2.2 : Int).toNat default)).2.1))))) = true then law19_LeasePlays.k6 r7 r1p0 s2 l0 true else (if ((decide (((((((l0).getD (s2.2.2.2.2 : Int).toNat default)).2.2.1))) < 1))) = true then law19_LeasePlays.k6 r7 r1p0 s2 l0 true else (if ((decide ((1048576 : Int) < (((((l0).getD (s2.2.2.2.2 : Int).toNat default)).2.2.1))))) = true then law19_LeasePlays.k6 r7 r1p0 s2 l0 true else law19_LeasePlays.k6 r7 r1p0 s2 l0 (decide (((((((l0).getD (s2.2.2.2.2 : Int).toNat default)).2.2.2))) < 0)))))) else (if ((decide (((((((l0).getD (s2.2.2.2.2 : Int).toNat default)).1))) = 1))) = true then (lease_End.impl ((r1p0.2.1.1, r1p0.2.1.2.1, r1p0.2.1.2.2.1, r1p0.2.1.2.2.2.1, r1p0.2.1.2.2.2.2.1, r1p0.2.1.2.2.2.2.2.1, r1p0.2.1.2.2.2.2.2.2.1, r1p0.2.1.2.2.2.2.2.2.2.1, r1p0.2.1.2.2.2.2.2.2.2.2.1, r1p0.2.1.2.2.2.2.2.2.2.2.2.1, r1p0.2.1.2.2.2.2.2.2.2.2.2.2.1, r1p0.2.1.2.2.2.2.2.2.2.2.2.2.2.1, r1p0.2.1.2.2.2.2.2.2.2.2.2.2.2.2.1, r1p0.2.1.2.2.2.2.2.2.2.2.2.2.2.2.2.1, r1p0.2.1.2.2.2.2.2.2.2.2.2.2.2.2.2.2.1, r1p0.2.1.2.2.2.2.2.2.2.2.2.2.2.2.2.2.2.1, r1p0.2.1.2.2.2.2.2.2.2.2.2.2.2.2.2.2.2.2)) ((r1p0.2.2.1.1, r1p0.2.2.1.2.1, r1p0.2.2.1.2.2.1, r1p0.2.2.1.2.2.2)) ((r1p0.2.2.2.1.1, r1p0.2.2.2.1.2.1, r1p0.2.2.2.1.2.2.1, r1p0.2.2.2.1.2.2.2)) r1p0.2.2.2.2.1 ((r1p0.2.2.2.2.2.1.1, r1p0.2.2.2.2.2.1.2.1, r1p0.2.2.2.2.2.1.2.2.1, r1p0.2.2.2.2.2.1.2.2.2.1, r1p0.2.2.2.2.2.1.2.2.2.2.1, r1p0.2.2.2.2.2.1.2.2.2.2.2.1, r1p0.2.2.2.2.2.1.2.2.2.2.2.2)) r1p0.2.2.2.2.2.2.1 r1p0.2.2.2.2.2.2.2.1 r1p0.2.2.2.2.2.2.2.2.1 r1p0.2.2.2.2.2.2.2.2.2.1 s2.1 (((((l0).getD (s2.2.2.2.2 : Int).toNat default)).2.2.2))).bind fun r9 => (ref19_End.impl ((s2.2.1, s2.2.2.1, s2.2.2.2.1)) (((((l0).getD (s2.2.2.2.2 : Int).toNat default)).2.2.2))).bind fun r10 => (if ((decide (r9.2.1 = 0))) = true then law19_LeasePlays.k9 r1p0 s2 r9 r10 (!(decide (r9.1 = r10.2))) else law19_LeasePlays.k9 r1p0 s2 r9 r10 true) else law19_LeasePlays.k4 r1p0 s2 (s2.1, s2.2.1, s2.2.2.1, s2.2.2.2.1)))) else some (.inr (.inr ())))
noncomputable def law19_LeasePlays.st1 (l0 : List (Int × Int × Int × Int)) (r1p0 : Unit × (Int × Int × Int × Int × Int × Int × Int × Int × Int × Int × Int × Int × Int × Int × Int × Int × Int) × (Int × Int × Int × Int) × (Int × Int × Int × Int) × (List (Int × Int)) × (Int × Bool × Int × Int × Int × Int × Int) × (List (Int × (List UInt8))) × (List (Int × (List UInt8))) × (List (Int × Int)) × (List (Int × Int)) × (List ((Int × (List UInt8) × (List UInt8)) × Bool))) (s2 : (List ((Int × (List UInt8) × (List UInt8)) × Bool)) × Int × Int × Int × Int) : Option (((List ((Int × (List UInt8) × (List UInt8)) × Bool)) × Int × Int × Int × Int) ⊕ (Bool ⊕ Unit)) :=
  (if ((decide (s2.2.2.2.2 < ((l0.length : Int))))) = true then law19_LeasePlays.k2 s2 l0 r1p0 (decide (s2.2.2.2.2 < 60)) else law19_LeasePlays.k2 s2 l0 r1p0 false)
noncomputable def law19_LeasePlays.impl (l0 : List (Int × Int × Int × Int)) : Option Bool :=
  (law13_New.impl ).bind fun r1 => (match r1 with | (none, r1p1) => (some false) | (some r1p0, r1p1) => ((ref19_None.impl ).bind fun r2 => (loop (law19_LeasePlays.st1 l0 r1p0) (r1p0.2.2.2.2.2.2.2.2.2.2, r2.1, r2.2.1, r2.2.2, 0)).bind (fun e1 => match e1 with | .inl v => some v | .inr v => law19_LeasePlays.k1 v)))
set_option maxRecDepth 100000 in
set_option maxHeartbeats 4000000 in
theorem law19_LeasePlays.c {B : World} {hs : List MP} {w : World} {i0 c0 : Nat} {A0 : Option Addr} {l0 : List (Int × Int × Int × Int)} (hS : St B (hs) w) (h0 : (hs)[i0]? = some (Ro (Elt.pair E64 (Elt.pair E64 (Elt.pair E64 E64))) A0 c0 l0)) {r : Bool} (hr : law19_LeasePlays.impl l0 = some r) :
    Calls Try.prog 3 #[.slice A0 l0.length c0] w fun e w' => ∃ x : Unit, e = .returned (.bool r) ∧ St B (hs) w' := by
 unfold law19_LeasePlays.impl at hr
 refine calls_T Try.func3 rfl rfl rfl hS ?_
 refine T.front i0 h0 ?_
 refine T.seq ?_
 refine T.region ?_
 refine T.assign .list rfl (wants0 rfl) rfl rfl ?_
 refine T.nil ?_
 refine T.then_normal ?_
 refine T.seq ?_
 refine T.region ?_
 obtain ⟨r1, hg1, hr⟩ := inv_bind hr
 rcases r1 with ⟨_ | r1p0, r1p1⟩
 ·dsimp only at hr
  refine T.call (v := fun (x1 : (Nat) × (Nat) × (Nat) × (Nat) × (Nat) × (Nat) × (Nat) × (Option Addr × Nat) × (Nat) × (Nat) × (Option Addr × Nat)) => .tuple #[.pointer none, .pointer none]) (hs' := fun x1 => Ro (Elt.pair E64 (Elt.pair E64 (Elt.pair E64 E64))) A0 c0 l0 :: hs) .list (wants0 rfl) rfl (run_callF (vs := []) rfl Try.func7 rfl (by decide) rfl) (fun w hS => law13_New.c hS  hg1) (fun x1 => ?_)
  refine T.move .list rfl (wants0 rfl) rfl rfl ?_
  refine T.extract .list rfl (wants0 rfl) rfl rfl rfl ?_
  refine T.extract .list rfl (wants0 rfl) rfl rfl rfl ?_
  refine T.assign .list rfl (wants0 rfl) rfl rfl ?_
  refine T.assign .list rfl (wants0 rfl) rfl rfl ?_
  refine T.nil ?_
  refine T.then_normal ?_
  refine T.seq ?_
  refine T.seq ?_
  refine T.region ?_
  refine T.move .list rfl (wants0 rfl) rfl rfl ?_
  refine T.ptrEq (pt := 88) .list rfl (wants0 rfl) rfl rfl rfl (by kernel_rfl) (.inr rfl) rfl ?_
  refine T.nil ?_
  refine T.then_normal ?_
  refine T.condT rfl rfl ?_
  refine T.seq ?_
  refine T.region ?_
  refine T.assign .list rfl (wants0 rfl) rfl rfl ?_
  refine T.nil ?_
  refine T.then_normal ?_
  refine T.ret ?_
  refine T.then_ret ?_
  obtain rfl := inv_some hr
  refine T.pick [] 1 rfl rfl (Nat.le_add_left _ _) rfl ?_
  refine T.ret1 rfl rfl (fun w hS => ⟨(), rfl, hS⟩)
 ·dsimp only at hr
  refine T.call (v := fun (x2 : (Nat) × (Nat) × (Nat) × (Nat) × (Nat) × (Nat) × (Nat) × (Option Addr × Nat) × (Nat) × (Nat) × (Option Addr × Nat)) => .tuple #[.pointer (some ⟨x2.1, 0, none⟩), .pointer (some ⟨x2.2.1, 0, none⟩)]) (hs' := fun x2 => Cl x2.1 88 [.pointer (some ⟨x2.2.1, 0, none⟩), .slice x2.2.2.2.2.2.2.2.2.2.2.1 r1p0.2.2.2.2.2.2.2.2.2.2.length x2.2.2.2.2.2.2.2.2.2.2.2] :: Cl x2.2.1 80 [.pointer (some ⟨x2.2.2.1, 0, none⟩), .int .i64 r1p0.2.1.1, .int .i64 r1p0.2.1.2.1, .int .i64 r1p0.2.1.2.2.1, .int .i64 r1p0.2.1.2.2.2.1, .int .i64 r1p0.2.1.2.2.2.2.1, .int .i64 r1p0.2.1.2.2.2.2.2.1, .int .i64 r1p0.2.1.2.2.2.2.2.2.1, .int .i64 r1p0.2.1.2.2.2.2.2.2.2.1, .int .i64 r1p0.2.1.2.2.2.2.2.2.2.2.1, .int .i64 r1p0.2.1.2.2.2.2.2.2.2.2.2.1, .int .i64 r1p0.2.1.2.2.2.2.2.2.2.2.2.2.1, .int .i64 r1p0.2.1.2.2.2.2.2.2.2.2.2.2.2.1, .int .i64 r1p0.2.1.2.2.2.2.2.2.2.2.2.2.2.2.1, .int .i64 r1p0.2.1.2.2.2.2.2.2.2.2.2.2.2.2.2.1, .int .i64 r1p0.2.1.2.2.2.2.2.2.2.2.2.2.2.2.2.2.1, .int .i64 r1p0.2.1.2.2.2.2.2.2.2.2.2.2.2.2.2.2.2.1, .int .i64 r1p0.2.1.2.2.2.2.2.2.2.2.2.2.2.2.2.2.2.2] :: Cl x2.2.2.1 103 [.pointer (some ⟨x2.2.2.2.1, 0, none⟩), .nilIface, .int .i64 r1p0.2.2.1.1, .int .i64 r1p0.2.2.1.2.1, .nilIface, .int .i64 r1p0.2.2.1.2.2.1, .int .i64 r1p0.2.2.1.2.2.2, .map (some x2.2.2.2.2.2.2.2.2.1), .slice none 0 0, .slice none 0 0, .map (some x2.2.2.2.2.2.2.2.2.2.1)] :: Cl x2.2.2.2.1 124 [.int .i64 r1p0.2.2.2.1.1, .map (some x2.2.2.2.2.1), .pointer (some ⟨x2.2.2.2.2.2.1, 0, none⟩), .int .i64 r1p0.2.2.2.1.2.1, .int .u64 r1p0.2.2.2.1.2.2.1, .int .i64 r1p0.2.2.2.1.2.2.2] :: Mp E64 x2.2.2.2.2.1 r1p0.2.2.2.2.1 :: Cl x2.2.2.2.2.2.1 74 [.int .i64 r1p0.2.2.2.2.2.1.1, .map (some x2.2.2.2.2.2.2.1), .slice x2.2.2.2.2.2.2.2.1.1 r1p0.2.2.2.2.2.2.2.1.length x2.2.2.2.2.2.2.2.1.2, .bool r1p0.2.2.2.2.2.1.2.1, .int .i64 r1p0.2.2.2.2.2.1.2.2.1, .int .i64 r1p0.2.2.2.2.2.1.2.2.2.1, .int .u64 r1p0.2.2.2.2.2.1.2.2.2.2.1, .int .i64 r1p0.2.2.2.2.2.1.2.2.2.2.2.1, .int .i64 r1p0.2.2.2.2.2.1.2.2.2.2.2.2] :: Mp (Elt.slice E8) x2.2.2.2.2.2.2.1 r1p0.2.2.2.2.2.2.1 :: Bf (Elt.pair E64 (Elt.slice E8)) 147 x2.2.2.2.2.2.2.2.1.1 x2.2.2.2.2.2.2.2.1.2 r1p0.2.2.2.2.2.2.2.1 :: Mp E64 x2.2.2.2.2.2.2.2.2.1 r1p0.2.2.2.2.2.2.2.2.1 :: Mp E64 x2.2.2.2.2.2.2.2.2.2.1 r1p0.2.2.2.2.2.2.2.2.2.1 :: Bf (Elt.pair (Elt.pair E64 (Elt.pair (Elt.slice E8) (Elt.slice E8))) EBool) 91 x2.2.2.2.2.2.2.2.2.2.2.1 x2.2.2.2.2.2.2.2.2.2.2.2 r1p0.2.2.2.2.2.2.2.2.2.2 :: Ro (Elt.pair E64 (Elt.pair E64 (Elt.pair E64 E64))) A0 c0 l0 :: hs) .list (wants0 rfl) rfl (run_callF (vs := []) rfl Try.func7 rfl (by decide) rfl) (fun w hS => law13_New.c hS  hg1) (fun x2 => ?_)
  refine T.move .list rfl (wants0 rfl) rfl rfl ?_
  refine T.extract .list rfl (wants0 rfl) rfl rfl rfl ?_
  refine T.extract .list rfl (wants0 rfl) rfl rfl rfl ?_
  refine T.assign .list rfl (wants0 rfl) rfl rfl ?_
  refine T.assign .list rfl (wants0 rfl) rfl rfl ?_
  refine T.nil ?_
  refine T.then_normal ?_
  refine T.seq ?_
  refine T.seq ?_
  refine T.region ?_
  refine T.move .list rfl (wants0 rfl) rfl rfl ?_
  refine T.ptrEq (pt := 88) .list rfl (wants0 rfl) rfl rfl rfl (by kernel_rfl) (.inr rfl) rfl ?_
  refine T.nil ?_
  refine T.then_normal ?_
  refine T.condF rfl rfl ?_
  refine T.skip ?_
  refine T.then_normal ?_
  refine T.seq ?_
  refine T.region ?_
  obtain ⟨r2, hg2, hr⟩ := inv_bind hr
  refine T.call .list (wants0 rfl) rfl (run_callF (vs := []) rfl Try.func8 rfl (by decide) rfl) (fun w hS => ref19_None.c hS  hg2) (fun x3 => ?_)
  refine T.allocS .list rfl (wants0 rfl) rfl (cs := [.int .i64 0, .int .i64 0, .int .i64 0]) rfl (fun b1 => ?_)
  refine T.store .list 0 rfl rfl (wants0 rfl) rfl rfl rfl rfl (Nat.le_of_ble_eq_true rfl) rfl (cs' := [.int .i64 r2.1, .int .i64 r2.2.1, .int .i64 r2.2.2]) rfl rfl ?_
  refine T.nil ?_
  refine T.then_normal ?_
  refine T.seqJ (fun (s1 : Unit) (x4 : Unit) => []) (fun s1 x4 => hs) (fun s1 => law19_LeasePlays.k1 s1 = some r) (fun s1 x4 hk1 => ?_) (fun J1 => ?_)
  ·unfold law19_LeasePlays.k1 at hk1
   refine T.seq ?_
   refine T.region ?_
   obtain ⟨r3, hg3, hk1⟩ := inv_bind hk1
   refine T.call .list (wants0 rfl) rfl (run_callF (vs := []) rfl Try.func16 rfl (by decide) rfl) (fun w hS => law19_told.c hS  hg3) (fun x5 => ?_)
   refine T.assign .list rfl (wants0 rfl) rfl rfl ?_
   refine T.nil ?_
   refine T.then_normal ?_
   refine T.ret ?_
   obtain rfl := inv_some hk1
   refine T.pick [] 0 rfl rfl (Nat.le_add_left _ _) rfl ?_
   refine T.ret1 rfl rfl (fun w hS => ⟨(), rfl, hS⟩)
  ·refine T.seq ?_
   refine T.region ?_
   refine T.assign .list rfl (wants0 rfl) rfl rfl ?_
   refine T.nil ?_
   refine T.then_normal ?_
   refine T.block ?_
   obtain ⟨e1, hl1, hr⟩ := inv_bind hr
   refine T.le (EnvLe.cons rfl (EnvLe.cons rfl (EnvLe.cons rfl (EnvLe.cons rfl EnvLe.nil)))) (T.pick [12, 1, 2, 3, 4, 5, 6, 7, 8, 9, 10, 11, 0] 13 rfl rfl (Nat.le_add_left _ _) rfl (T.loop (s0 := (r1p0.2.2.2.2.2.2.2.2.2.2, r2.1, r2.2.1, r2.2.2, 0)) (env := fun s2 x6 => [(0, .slice A0 l0.length c0), (3, .pointer (some ⟨x2.1, 0, none⟩)), (5, .pointer (some ⟨b1, 0, none⟩)), (6, .int .i64 s2.2.2.2.2)]) (hs := fun (s2 : (List ((Int × (List UInt8) × (List UInt8)) × Bool)) × Int × Int × Int × Int) (x6 : (Option Addr × Nat)) => Ro (Elt.pair E64 (Elt.pair E64 (Elt.pair E64 E64))) A0 c0 l0 :: Cl x2.1 88 [.pointer (some ⟨x2.2.1, 0, none⟩), .slice x6.1 s2.1.length x6.2] :: Cl x2.2.1 80 [.pointer (some ⟨x2.2.2.1, 0, none⟩), .int .i64 r1p0.2.1.1, .int .i64 r1p0.2.1.2.1, .int .i64 r1p0.2.1.2.2.1, .int .i64 r1p0.2.1.2.2.2.1, .int .i64 r1p0.2.1.2.2.2.2.1, .int .i64 r1p0.2.1.2.2.2.2.2.1, .int .i64 r1p0.2.1.2.2.2.2.2.2.1, .int .i64 r1p0.2.1.2.2.2.2.2.2.2.1, .int .i64 r1p0.2.1.2.2.2.2.2.2.2.2.1, .int .i64 r1p0.2.1.2.2.2.2.2.2.2.2.2.1, .int .i64 r1p0.2.1.2.2.2.2.2.2.2.2.2.2.1, .int .i64 r1p0.2.1.2.2.2.2.2.2.2.2.2.2.2.1, .int .i64 r1p0.2.1.2.2.2.2.2.2.2.2.2.2.2.2.1, .int .i64 r1p0.2.1.2.2.2.2.2.2.2.2.2.2.2.2.2.1, .int .i64 r1p0.2.1.2.2.2.2.2.2.2.2.2.2.2.2.2.2.1, .int .i64 r1p0.2.1.2.2.2.2.2.2.2.2.2.2.2.2.2.2.2.1, .int .i64 r1p0.2.1.2.2.2.2.2.2.2.2.2.2.2.2.2.2.2.2] :: Cl x2.2.2.1 103 [.pointer (some ⟨x2.2.2.2.1, 0, none⟩), .nilIface, .int .i64 r1p0.2.2.1.1, .int .i64 r1p0.2.2.1.2.1, .nilIface, .int .i64 r1p0.2.2.1.2.2.1, .int .i64 r1p0.2.2.1.2.2.2, .map (some x2.2.2.2.2.2.2.2.2.1), .slice none 0 0, .slice none 0 0, .map (some x2.2.2.2.2.2.2.2.2.2.1)] :: Cl x2.2.2.2.1 124 [.int .i64 r1p0.2.2.2.1.1, .map (some x2.2.2.2.2.1), .pointer (some ⟨x2.2.2.2.2.2.1, 0, none⟩), .int .i64 r1p0.2.2.2.1.2.1, .int .u64 r1p0.2.2.2.1.2.2.1, .int .i64 r1p0.2.2.2.1.2.2.2] :: Mp E64 x2.2.2.2.2.1 r1p0.2.2.2.2.1 :: Cl x2.2.2.2.2.2.1 74 [.int .i64 r1p0.2.2.2.2.2.1.1, .map (some x2.2.2.2.2.2.2.1), .slice x2.2.2.2.2.2.2.2.1.1 r1p0.2.2.2.2.2.2.2.1.length x2.2.2.2.2.2.2.2.1.2, .bool r1p0.2.2.2.2.2.1.2.1, .int .i64 r1p0.2.2.2.2.2.1.2.2.1, .int .i64 r1p0.2.2.2.2.2.1.2.2.2.1, .int .u64 r1p0.2.2.2.2.2.1.2.2.2.2.1, .int .i64 r1p0.2.2.2.2.2.1.2.2.2.2.2.1, .int .i64 r1p0.2.2.2.2.2.1.2.2.2.2.2.2] :: Mp (Elt.slice E8) x2.2.2.2.2.2.2.1 r1p0.2.2.2.2.2.2.1 :: Bf (Elt.pair E64 (Elt.slice E8)) 147 x2.2.2.2.2.2.2.2.1.1 x2.2.2.2.2.2.2.2.1.2 r1p0.2.2.2.2.2.2.2.1 :: Mp E64 x2.2.2.2.2.2.2.2.2.1 r1p0.2.2.2.2.2.2.2.2.1 :: Mp E64 x2.2.2.2.2.2.2.2.2.2.1 r1p0.2.2.2.2.2.2.2.2.2.1 :: Bf (Elt.pair (Elt.pair E64 (Elt.pair (Elt.slice E8) (Elt.slice E8))) EBool) 91 x6.1 x6.2 s2.1 :: Cl b1 28 [.int .i64 s2.2.1, .int .i64 s2.2.2.1, .int .i64 s2.2.2.2.1] :: hs) hl1 (x2.2.2.2.2.2.2.2.2.2.2.1, x2.2.2.2.2.2.2.2.2.2.2.2) (fun K1 s2 x6 o1 he1 hm1 hx1 => ?_)))
   unfold law19_LeasePlays.st1 at he1
   refine T.seq ?_
   refine T.seqJ (fun (s3 : Bool) (x7 : Unit) => [(0, .slice A0 l0.length c0), (3, .pointer (some ⟨x2.1, 0, none⟩)), (5, .pointer (some ⟨b1, 0, none⟩)), (6, .int .i64 s2.2.2.2.2), (33, .bool s3)]) (fun s3 x7 => Ro (Elt.pair E64 (Elt.pair E64 (Elt.pair E64 E64))) A0 c0 l0 :: Cl x2.1 88 [.pointer (some ⟨x2.2.1, 0, none⟩), .slice x6.1 s2.1.length x6.2] :: Cl x2.2.1 80 [.pointer (some ⟨x2.2.2.1, 0, none⟩), .int .i64 r1p0.2.1.1, .int .i64 r1p0.2.1.2.1, .int .i64 r1p0.2.1.2.2.1, .int .i64 r1p0.2.1.2.2.2.1, .int .i64 r1p0.2.1.2.2.2.2.1, .int .i64 r1p0.2.1.2.2.2.2.2.1, .int .i64 r1p0.2.1.2.2.2.2.2.2.1, .int .i64 r1p0.2.1.2.2.2.2.2.2.2.1, .int .i64 r1p0.2.1.2.2.2.2.2.2.2.2.1, .int .i64 r1p0.2.1.2.2.2.2.2.2.2.2.2.1, .int .i64 r1p0.2.1.2.2.2.2.2.2.2.2.2.2.1, .int .i64 r1p0.2.1.2.2.2.2.2.2.2.2.2.2.2.1, .int .i64 r1p0.2.1.2.2.2.2.2.2.2.2.2.2.2.2.1, .int .i64 r1p0.2.1.2.2.2.2.2.2.2.2.2.2.2.2.2.1, .int .i64 r1p0.2.1.2.2.2.2.2.2.2.2.2.2.2.2.2.2.1, .int .i64 r1p0.2.1.2.2.2.2.2.2.2.2.2.2.2.2.2.2.2.1, .int .i64 r1p0.2.1.2.2.2.2.2.2.2.2.2.2.2.2.2.2.2.2] :: Cl x2.2.2.1 103 [.pointer (some ⟨x2.2.2.2.1, 0, none⟩), .nilIface, .int .i64 r1p0.2.2.1.1, .int .i64 r1p0.2.2.1.2.1, .nilIface, .int .i64 r1p0.2.2.1.2.2.1, .int .i64 r1p0.2.2.1.2.2.2, .map (some x2.2.2.2.2.2.2.2.2.1), .slice none 0 0, .slice none 0 0, .map (some x2.2.2.2.2.2.2.2.2.2.1)] :: Cl x2.2.2.2.1 124 [.int .i64 r1p0.2.2.2.1.1, .map (some x2.2.2.2.2.1), .pointer (some ⟨x2.2.2.2.2.2.1, 0, none⟩), .int .i64 r1p0.2.2.2.1.2.1, .int .u64 r1p0.2.2.2.1.2.2.1, .int .i64 r1p0.2.2.2.1.2.2.2] :: Mp E64 x2.2.2.2.2.1 r1p0.2.2.2.2.1 :: Cl x2.2.2.2.2.2.1 74 [.int .i64 r1p0.2.2.2.2.2.1.1, .map (some x2.2.2.2.2.2.2.1), .slice x2.2.2.2.2.2.2.2.1.1 r1p0.2.2.2.2.2.2.2.1.length x2.2.2.2.2.2.2.2.1.2, .bool r1p0.2.2.2.2.2.1.2.1, .int .i64 r1p0.2.2.2.2.2.1.2.2.1, .int .i64 r1p0.2.2.2.2.2.1.2.2.2.1, .int .u64 r1p0.2.2.2.2.2.1.2.2.2.2.1, .int .i64 r1p0.2.2.2.2.2.1.2.2.2.2.2.1, .int .i64 r1p0.2.2.2.2.2.1.2.2.2.2.2.2] :: Mp (Elt.slice E8) x2.2.2.2.2.2.2.1 r1p0.2.2.2.2.2.2.1 :: Bf (Elt.pair E64 (Elt.slice E8)) 147 x2.2.2.2.2.2.2.2.1.1 x2.2.2.2.2.2.2.2.1.2 r1p0.2.2.2.2.2.2.2.1 :: Mp E64 x2.2.2.2.2.2.2.2.2.1 r1p0.2.2.2.2.2.2.2.2.1 :: Mp E64 x2.2.2.2.2.2.2.2.2.2.1 r1p0.2.2.2.2.2.2.2.2.2.1 :: Bf (Elt.pair (Elt.pair E64 (Elt.pair (Elt.slice E8) (Elt.slice E8))) EBool) 91 x6.1 x6.2 s2.1 :: Cl b1 28 [.int .i64 s2.2.1, .int .i64 s2.2.2.1, .int .i64 s2.2.2.2.1] :: hs) (fun s3 => law19_LeasePlays.k2 s2 l0 r1p0 s3 = some o1) (fun s3 x7 hk2 => ?_) (fun J2 => ?_)
   ·unfold law19_LeasePlays.k2 at hk2
    refine T.cond rfl (fun hb1 => ?_) (fun hb1 => ?_)
    ·replace hk2 := inv_posB hb1 hk2
     refine T.skip ?_
     refine T.then_normal ?_
     refine T.seqJ (fun (s4 : (List ((Int × (List UInt8) × (List UInt8)) × Bool)) × Int × Int × Int) (x8 : (Option Addr × Nat)) => [(0, .slice A0 l0.length c0), (3, .pointer (some ⟨x2.1, 0, none⟩)), (5, .pointer (some ⟨b1, 0, none⟩)), (6, .int .i64 s2.2.2.2.2)]) (fun s4 x8 => Ro (Elt.pair E64 (Elt.pair E64 (Elt.pair E64 E64))) A0 c0 l0 :: Cl x2.1 88 [.pointer (some ⟨x2.2.1, 0, none⟩), .slice x8.1 s4.1.length x8.2] :: Cl x2.2.1 80 [.pointer (some ⟨x2.2.2.1, 0, none⟩), .int .i64 r1p0.2.1.1, .int .i64 r1p0.2.1.2.1, .int .i64 r1p0.2.1.2.2.1, .int .i64 r1p0.2.1.2.2.2.1, .int .i64 r1p0.2.1.2.2.2.2.1, .int .i64 r1p0.2.1.2.2.2.2.2.1, .int .i64 r1p0.2.1.2.2.2.2.2.2.1, .int .i64 r1p0.2.1.2.2.2.2.2.2.2.1, .int .i64 r1p0.2.1.2.2.2.2.2.2.2.2.1, .int .i64 r1p0.2.1.2.2.2.2.2.2.2.2.2.1, .int .i64 r1p0.2.1.2.2.2.2.2.2.2.2.2.2.1, .int .i64 r1p0.2.1.2.2.2.2.2.2.2.2.2.2.2.1, .int .i64 r1p0.2.1.2.2.2.2.2.2.2.2.2.2.2.2.1, .int .i64 r1p0.2.1.2.2.2.2.2.2.2.2.2.2.2.2.2.1, .int .i64 r1p0.2.1.2.2.2.2.2.2.2.2.2.2.2.2.2.2.1, .int .i64 r1p0.2.1.2.2.2.2.2.2.2.2.2.2.2.2.2.2.2.1, .int .i64 r1p0.2.1.2.2.2.2.2.2.2.2.2.2.2.2.2.2.2.2] :: Cl x2.2.2.1 103 [.pointer (some ⟨x2.2.2.2.1, 0, none⟩), .nilIface, .int .i64 r1p0.2.2.1.1, .int .i64 r1p0.2.2.1.2.1, .nilIface, .int .i64 r1p0.2.2.1.2.2.1, .int .i64 r1p0.2.2.1.2.2.2, .map (some x2.2.2.2.2.2.2.2.2.1), .slice none 0 0, .slice none 0 0, .map (some x2.2.2.2.2.2.2.2.2.2.1)] :: Cl x2.2.2.2.1 124 [.int .i64 r1p0.2.2.2.1.1, .map (some x2.2.2.2.2.1), .pointer (some ⟨x2.2.2.2.2.2.1, 0, none⟩), .int .i64 r1p0.2.2.2.1.2.1, .int .u64 r1p0.2.2.2.1.2.2.1, .int .i64 r1p0.2.2.2.1.2.2.2] :: Mp E64 x2.2.2.2.2.1 r1p0.2.2.2.2.1 :: Cl x2.2.2.2.2.2.1 74 [.int .i64 r1p0.2.2.2.2.2.1.1, .map (some x2.2.2.2.2.2.2.1), .slice x2.2.2.2.2.2.2.2.1.1 r1p0.2.2.2.2.2.2.2.1.length x2.2.2.2.2.2.2.2.1.2, .bool r1p0.2.2.2.2.2.1.2.1, .int .i64 r1p0.2.2.2.2.2.1.2.2.1, .int .i64 r1p0.2.2.2.2.2.1.2.2.2.1, .int .u64 r1p0.2.2.2.2.2.1.2.2.2.2.1, .int .i64 r1p0.2.2.2.2.2.1.2.2.2.2.2.1, .int .i64 r1p0.2.2.2.2.2.1.2.2.2.2.2.2] :: Mp (Elt.slice E8) x2.2.2.2.2.2.2.1 r1p0.2.2.2.2.2.2.1 :: Bf (Elt.pair E64 (Elt.slice E8)) 147 x2.2.2.2.2.2.2.2.1.1 x2.2.2.2.2.2.2.2.1.2 r1p0.2.2.2.2.2.2.2.1 :: Mp E64 x2.2.2.2.2.2.2.2.2.1 r1p0.2.2.2.2.2.2.2.2.1 :: Mp E64 x2.2.2.2.2.2.2.2.2.2.1 r1p0.2.2.2.2.2.2.2.2.2.1 :: Bf (Elt.pair (Elt.pair E64 (Elt.pair (Elt.slice E8) (Elt.slice E8))) EBool) 91 x8.1 x8.2 s4.1 :: Cl b1 28 [.int .i64 s4.2.1, .int .i64 s4.2.2.1, .int .i64 s4.2.2.2] :: hs) (fun s4 => law19_LeasePlays.k3 s2 s4 = some o1) (fun s4 x8 hk3 => ?_) (fun J3 => ?_)
     ·unfold law19_LeasePlays.k3 at hk3
      refine T.region ?_
      refine T.move .list rfl (wants0 rfl) rfl rfl ?_
      refine T.bin .list rfl (wants0 rfl) rfl rfl rfl rfl ?_
      refine T.assign .list rfl (wants0 rfl) rfl rfl ?_
      refine T.nil ?_
      refine T.then_normal ?_
      obtain rfl := inv_some hk3
      exact T.le (EnvLe.cons rfl (EnvLe.cons rfl (EnvLe.cons rfl (EnvLe.cons rfl EnvLe.nil)))) (T.pick [0, 1, 2, 3, 4, 5, 6, 7, 8, 9, 10, 11, 12] 13 rfl rfl (Nat.le_add_left _ _) rfl (hm1 (s4.1, s4.2.1, s4.2.2.1, s4.2.2.2, IntKind.i64.wrap (s2.2.2.2.2 + 1)) rfl (x8.1, x8.2)))
     ·refine T.block ?_
      refine T.seq ?_
      refine T.region ?_
      refine T.move .list rfl (wants0 rfl) rfl rfl ?_
      refine T.move .list rfl (wants0 rfl) rfl rfl ?_
      obtain ⟨hc1, hk2⟩ := inv_chk hk2
      refine T.idxRo .list 0 rfl rfl (wants0 rfl) rfl rfl rfl hc1.1 hc1.2 (Nat.le_refl _) ?_
      refine T.ldFRo 0 .list Fd.self (Sh.pair Sh.sc (Sh.pair Sh.sc (Sh.pair Sh.sc Sh.sc))) rfl (.inl rfl) rfl rfl hc1.1 hc1.2 rfl (wants0 rfl) rfl rfl rfl (v := fun x9 => .agg #[.int .i64 (((((l0).getD (s2.2.2.2.2 : Int).toNat default)).1)), .int .i64 (((((l0).getD (s2.2.2.2.2 : Int).toNat default)).2.1)), .int .i64 (((((l0).getD (s2.2.2.2.2 : Int).toNat default)).2.2.1)), .int .i64 (((((l0).getD (s2.2.2.2.2 : Int).toNat default)).2.2.2))]) (hs' := fun x9 => Ro (Elt.pair E64 (Elt.pair E64 (Elt.pair E64 E64))) A0 c0 l0 :: Cl x2.1 88 [.pointer (some ⟨x2.2.1, 0, none⟩), .slice x6.1 s2.1.length x6.2] :: Cl x2.2.1 80 [.pointer (some ⟨x2.2.2.1, 0, none⟩), .int .i64 r1p0.2.1.1, .int .i64 r1p0.2.1.2.1, .int .i64 r1p0.2.1.2.2.1, .int .i64 r1p0.2.1.2.2.2.1, .int .i64 r1p0.2.1.2.2.2.2.1, .int .i64 r1p0.2.1.2.2.2.2.2.1, .int .i64 r1p0.2.1.2.2.2.2.2.2.1, .int .i64 r1p0.2.1.2.2.2.2.2.2.2.1, .int .i64 r1p0.2.1.2.2.2.2.2.2.2.2.1, .int .i64 r1p0.2.1.2.2.2.2.2.2.2.2.2.1, .int .i64 r1p0.2.1.2.2.2.2.2.2.2.2.2.2.1, .int .i64 r1p0.2.1.2.2.2.2.2.2.2.2.2.2.2.1, .int .i64 r1p0.2.1.2.2.2.2.2.2.2.2.2.2.2.2.1, .int .i64 r1p0.2.1.2.2.2.2.2.2.2.2.2.2.2.2.2.1, .int .i64 r1p0.2.1.2.2.2.2.2.2.2.2.2.2.2.2.2.2.1, .int .i64 r1p0.2.1.2.2.2.2.2.2.2.2.2.2.2.2.2.2.2.1, .int .i64 r1p0.2.1.2.2.2.2.2.2.2.2.2.2.2.2.2.2.2.2] :: Cl x2.2.2.1 103 [.pointer (some ⟨x2.2.2.2.1, 0, none⟩), .nilIface, .int .i64 r1p0.2.2.1.1, .int .i64 r1p0.2.2.1.2.1, .nilIface, .int .i64 r1p0.2.2.1.2.2.1, .int .i64 r1p0.2.2.1.2.2.2, .map (some x2.2.2.2.2.2.2.2.2.1), .slice none 0 0, .slice none 0 0, .map (some x2.2.2.2.2.2.2.2.2.2.1)] :: Cl x2.2.2.2.1 124 [.int .i64 r1p0.2.2.2.1.1, .map (some x2.2.2.2.2.1), .pointer (some ⟨x2.2.2.2.2.2.1, 0, none⟩), .int .i64 r1p0.2.2.2.1.2.1, .int .u64 r1p0.2.2.2.1.2.2.1, .int .i64 r1p0.2.2.2.1.2.2.2] :: Mp E64 x2.2.2.2.2.1 r1p0.2.2.2.2.1 :: Cl x2.2.2.2.2.2.1 74 [.int .i64 r1p0.2.2.2.2.2.1.1, .map (some x2.2.2.2.2.2.2.1), .slice x2.2.2.2.2.2.2.2.1.1 r1p0.2.2.2.2.2.2.2.1.length x2.2.2.2.2.2.2.2.1.2, .bool r1p0.2.2.2.2.2.1.2.1, .int .i64 r1p0.2.2.2.2.2.1.2.2.1, .int .i64 r1p0.2.2.2.2.2.1.2.2.2.1, .int .u64 r1p0.2.2.2.2.2.1.2.2.2.2.1, .int .i64 r1p0.2.2.2.2.2.1.2.2.2.2.2.1, .int .i64 r1p0.2.2.2.2.2.1.2.2.2.2.2.2] :: Mp (Elt.slice E8) x2.2.2.2.2.2.2.1 r1p0.2.2.2.2.2.2.1 :: Bf (Elt.pair E64 (Elt.slice E8)) 147 x2.2.2.2.2.2.2.2.1.1 x2.2.2.2.2.2.2.2.1.2 r1p0.2.2.2.2.2.2.2.1 :: Mp E64 x2.2.2.2.2.2.2.2.2.1 r1p0.2.2.2.2.2.2.2.2.1 :: Mp E64 x2.2.2.2.2.2.2.2.2.2.1 r1p0.2.2.2.2.2.2.2.2.2.1 :: Bf (Elt.pair (Elt.pair E64 (Elt.pair (Elt.slice E8) (Elt.slice E8))) EBool) 91 x6.1 x6.2 s2.1 :: Cl b1 28 [.int .i64 s2.2.1, .int .i64 s2.2.2.1, .int .i64 s2.2.2.2.1] :: hs) (fun _ => rfl) (fun _ => rfl) (fun x9 => ?_)
      refine T.allocS .list rfl (wants0 rfl) rfl (cs := [.int .i64 0, .int .i64 0, .int .i64 0, .int .i64 0]) rfl (fun b2 => ?_)
      refine T.store .list 0 rfl rfl (wants0 rfl) rfl rfl rfl rfl (Nat.le_of_ble_eq_true rfl) rfl (cs' := [.int .i64 (((((l0).getD (s2.2.2.2.2 : Int).toNat default)).1)), .int .i64 (((((l0).getD (s2.2.2.2.2 : Int).toNat default)).2.1)), .int .i64 (((((l0).getD (s2.2.2.2.2 : Int).toNat default)).2.2.1)), .int .i64 (((((l0).getD (s2.2.2.2.2 : Int).toNat default)).2.2.2))]) rfl rfl ?_
      refine T.nil ?_
      refine T.then_normal ?_
      refine T.seqJ (fun (s5 : (List ((Int × (List UInt8) × (List UInt8)) × Bool)) × Int × Int × Int) (x10 : (Option Addr × Nat)) => [(0, .slice A0 l0.length c0), (3, .pointer (some ⟨x2.1, 0, none⟩)), (5, .pointer (some ⟨b1, 0, none⟩)), (6, .int .i64 s2.2.2.2.2)]) (fun s5 x10 => Ro (Elt.pair E64 (Elt.pair E64 (Elt.pair E64 E64))) A0 c0 l0 :: Cl x2.1 88 [.pointer (some ⟨x2.2.1, 0, none⟩), .slice x10.1 s5.1.length x10.2] :: Cl x2.2.1 80 [.pointer (some ⟨x2.2.2.1, 0, none⟩), .int .i64 r1p0.2.1.1, .int .i64 r1p0.2.1.2.1, .int .i64 r1p0.2.1.2.2.1, .int .i64 r1p0.2.1.2.2.2.1, .int .i64 r1p0.2.1.2.2.2.2.1, .int .i64 r1p0.2.1.2.2.2.2.2.1, .int .i64 r1p0.2.1.2.2.2.2.2.2.1, .int .i64 r1p0.2.1.2.2.2.2.2.2.2.1, .int .i64 r1p0.2.1.2.2.2.2.2.2.2.2.1, .int .i64 r1p0.2.1.2.2.2.2.2.2.2.2.2.1, .int .i64 r1p0.2.1.2.2.2.2.2.2.2.2.2.2.1, .int .i64 r1p0.2.1.2.2.2.2.2.2.2.2.2.2.2.1, .int .i64 r1p0.2.1.2.2.2.2.2.2.2.2.2.2.2.2.1, .int .i64 r1p0.2.1.2.2.2.2.2.2.2.2.2.2.2.2.2.1, .int .i64 r1p0.2.1.2.2.2.2.2.2.2.2.2.2.2.2.2.2.1, .int .i64 r1p0.2.1.2.2.2.2.2.2.2.2.2.2.2.2.2.2.2.1, .int .i64 r1p0.2.1.2.2.2.2.2.2.2.2.2.2.2.2.2.2.2.2] :: Cl x2.2.2.1 103 [.pointer (some ⟨x2.2.2.2.1, 0, none⟩), .nilIface, .int .i64 r1p0.2.2.1.1, .int .i64 r1p0.2.2.1.2.1, .nilIface, .int .i64 r1p0.2.2.1.2.2.1, .int .i64 r1p0.2.2.1.2.2.2, .map (some x2.2.2.2.2.2.2.2.2.1), .slice none 0 0, .slice none 0 0, .map (some x2.2.2.2.2.2.2.2.2.2.1)] :: Cl x2.2.2.2.1 124 [.int .i64 r1p0.2.2.2.1.1, .map (some x2.2.2.2.2.1), .pointer (some ⟨x2.2.2.2.2.2.1, 0, none⟩), .int .i64 r1p0.2.2.2.1.2.1, .int .u64 r1p0.2.2.2.1.2.2.1, .int .i64 r1p0.2.2.2.1.2.2.2] :: Mp E64 x2.2.2.2.2.1 r1p0.2.2.2.2.1 :: Cl x2.2.2.2.2.2.1 74 [.int .i64 r1p0.2.2.2.2.2.1.1, .map (some x2.2.2.2.2.2.2.1), .slice x2.2.2.2.2.2.2.2.1.1 r1p0.2.2.2.2.2.2.2.1.length x2.2.2.2.2.2.2.2.1.2, .bool r1p0.2.2.2.2.2.1.2.1, .int .i64 r1p0.2.2.2.2.2.1.2.2.1, .int .i64 r1p0.2.2.2.2.2.1.2.2.2.1, .int .u64 r1p0.2.2.2.2.2.1.2.2.2.2.1, .int .i64 r1p0.2.2.2.2.2.1.2.2.2.2.2.1, .int .i64 r1p0.2.2.2.2.2.1.2.2.2.2.2.2] :: Mp (Elt.slice E8) x2.2.2.2.2.2.2.1 r1p0.2.2.2.2.2.2.1 :: Bf (Elt.pair E64 (Elt.slice E8)) 147 x2.2.2.2.2.2.2.2.1.1 x2.2.2.2.2.2.2.2.1.2 r1p0.2.2.2.2.2.2.2.1 :: Mp E64 x2.2.2.2.2.2.2.2.2.1 r1p0.2.2.2.2.2.2.2.2.1 :: Mp E64 x2.2.2.2.2.2.2.2.2.2.1 r1p0.2.2.2.2.2.2.2.2.2.1 :: Bf (Elt.pair (Elt.pair E64 (Elt.pair (Elt.slice E8) (Elt.slice E8))) EBool) 91 x10.1 x10.2 s5.1 :: Cl b1 28 [.int .i64 s5.2.1, .int .i64 s5.2.2.1, .int .i64 s5.2.2.2] :: hs) (fun s5 => law19_LeasePlays.k4 r1p0 s2 s5 = some o1) (fun s5 x10 hk4 => ?_) (fun J4 => ?_)
      ·unfold law19_LeasePlays.k4 at hk4
       refine T.seq ?_
       refine T.region ?_
       refine T.move .list rfl (wants0 rfl) rfl rfl ?_
       refine T.pick [1, 2, 3, 4, 5, 6, 7, 8, 9, 10, 11, 0, 12] 13 rfl rfl (Nat.le_add_left _ _) (hs' := Cl x2.1 88 [.pointer (some ⟨x2.2.1, 0, none⟩), .slice x10.1 s5.1.length x10.2] :: Cl x2.2.1 80 [.pointer (some ⟨x2.2.2.1, 0, none⟩), .int .i64 r1p0.2.1.1, .int .i64 r1p0.2.1.2.1, .int .i64 r1p0.2.1.2.2.1, .int .i64 r1p0.2.1.2.2.2.1, .int .i64 r1p0.2.1.2.2.2.2.1, .int .i64 r1p0.2.1.2.2.2.2.2.1, .int .i64 r1p0.2.1.2.2.2.2.2.2.1, .int .i64 r1p0.2.1.2.2.2.2.2.2.2.1, .int .i64 r1p0.2.1.2.2.2.2.2.2.2.2.1, .int .i64 r1p0.2.1.2.2.2.2.2.2.2.2.2.1, .int .i64 r1p0.2.1.2.2.2.2.2.2.2.2.2.2.1, .int .i64 r1p0.2.1.2.2.2.2.2.2.2.2.2.2.2.1, .int .i64 r1p0.2.1.2.2.2.2.2.2.2.2.2.2.2.2.1, .int .i64 r1p0.2.1.2.2.2.2.2.2.2.2.2.2.2.2.2.1, .int .i64 r1p0.2.1.2.2.2.2.2.2.2.2.2.2.2.2.2.2.1, .int .i64 r1p0.2.1.2.2.2.2.2.2.2.2.2.2.2.2.2.2.2.1, .int .i64 r1p0.2.1.2.2.2.2.2.2.2.2.2.2.2.2.2.2.2.2] :: Cl x2.2.2.1 103 [.pointer (some ⟨x2.2.2.2.1, 0, none⟩), .nilIface, .int .i64 r1p0.2.2.1.1, .int .i64 r1p0.2.2.1.2.1, .nilIface, .int .i64 r1p0.2.2.1.2.2.1, .int .i64 r1p0.2.2.1.2.2.2, .map (some x2.2.2.2.2.2.2.2.2.1), .slice none 0 0, .slice none 0 0, .map (some x2.2.2.2.2.2.2.2.2.2.1)] :: Cl x2.2.2.2.1 124 [.int .i64 r1p0.2.2.2.1.1, .map (some x2.2.2.2.2.1), .pointer (some ⟨x2.2.2.2.2.2.1, 0, none⟩), .int .i64 r1p0.2.2.2.1.2.1, .int .u64 r1p0.2.2.2.1.2.2.1, .int .i64 r1p0.2.2.2.1.2.2.2] :: Mp E64 x2.2.2.2.2.1 r1p0.2.2.2.2.1 :: Cl x2.2.2.2.2.2.1 74 [.int .i64 r1p0.2.2.2.2.2.1.1, .map (some x2.2.2.2.2.2.2.1), .slice x2.2.2.2.2.2.2.2.1.1 r1p0.2.2.2.2.2.2.2.1.length x2.2.2.2.2.2.2.2.1.2, .bool r1p0.2.2.2.2.2.1.2.1, .int .i64 r1p0.2.2.2.2.2.1.2.2.1, .int .i64 r1p0.2.2.2.2.2.1.2.2.2.1, .int .u64 r1p0.2.2.2.2.2.1.2.2.2.2.1, .int .i64 r1p0.2.2.2.2.2.1.2.2.2.2.2.1, .int .i64 r1p0.2.2.2.2.2.1.2.2.2.2.2.2] :: Mp (Elt.slice E8) x2.2.2.2.2.2.2.1 r1p0.2.2.2.2.2.2.1 :: Bf (Elt.pair E64 (Elt.slice E8)) 147 x2.2.2.2.2.2.2.2.1.1 x2.2.2.2.2.2.2.2.1.2 r1p0.2.2.2.2.2.2.2.1 :: Mp E64 x2.2.2.2.2.2.2.2.2.1 r1p0.2.2.2.2.2.2.2.2.1 :: Mp E64 x2.2.2.2.2.2.2.2.2.2.1 r1p0.2.2.2.2.2.2.2.2.2.1 :: Bf (Elt.pair (Elt.pair E64 (Elt.pair (Elt.slice E8) (Elt.slice E8))) EBool) 91 x10.1 x10.2 s5.1 :: Ro (Elt.pair E64 (Elt.pair E64 (Elt.pair E64 E64))) A0 c0 l0 :: Cl b1 28 [.int .i64 s5.2.1, .int .i64 s5.2.2.1, .int .i64 s5.2.2.2] :: hs) rfl ?_
       obtain ⟨r4, hg4, hk4⟩ := inv_bind hk4
       refine T.call .list (wants0 rfl) rfl (run_callF (vs := [_]) rfl Try.func13 rfl (by decide) rfl) (fun w hS => lease_Now.c hS (o0a := (r1p0.2.1.1, r1p0.2.1.2.1, r1p0.2.1.2.2.1, r1p0.2.1.2.2.2.1, r1p0.2.1.2.2.2.2.1, r1p0.2.1.2.2.2.2.2.1, r1p0.2.1.2.2.2.2.2.2.1, r1p0.2.1.2.2.2.2.2.2.2.1, r1p0.2.1.2.2.2.2.2.2.2.2.1, r1p0.2.1.2.2.2.2.2.2.2.2.2.1, r1p0.2.1.2.2.2.2.2.2.2.2.2.2.1, r1p0.2.1.2.2.2.2.2.2.2.2.2.2.2.1, r1p0.2.1.2.2.2.2.2.2.2.2.2.2.2.2.1, r1p0.2.1.2.2.2.2.2.2.2.2.2.2.2.2.2.1, r1p0.2.1.2.2.2.2.2.2.2.2.2.2.2.2.2.2.1, r1p0.2.1.2.2.2.2.2.2.2.2.2.2.2.2.2.2.2.1, r1p0.2.1.2.2.2.2.2.2.2.2.2.2.2.2.2.2.2.2)) (o0aa := (r1p0.2.2.1.1, r1p0.2.2.1.2.1, r1p0.2.2.1.2.2.1, r1p0.2.2.1.2.2.2)) (o0aaa := (r1p0.2.2.2.1.1, r1p0.2.2.2.1.2.1, r1p0.2.2.2.1.2.2.1, r1p0.2.2.2.1.2.2.2)) (q0aaab := r1p0.2.2.2.2.1) (o0aaac := (r1p0.2.2.2.2.2.1.1, r1p0.2.2.2.2.2.1.2.1, r1p0.2.2.2.2.2.1.2.2.1, r1p0.2.2.2.2.2.1.2.2.2.1, r1p0.2.2.2.2.2.1.2.2.2.2.1, r1p0.2.2.2.2.2.1.2.2.2.2.2.1, r1p0.2.2.2.2.2.1.2.2.2.2.2.2)) (q0aaacb := r1p0.2.2.2.2.2.2.1) (q0aaacc := r1p0.2.2.2.2.2.2.2.1) (q0aah := r1p0.2.2.2.2.2.2.2.2.1) (q0aak := r1p0.2.2.2.2.2.2.2.2.2.1) (q0b := s5.1)  hg4) (fun x11 => ?_)
       refine T.move .list rfl (wants0 rfl) rfl rfl ?_
       refine T.extract .list rfl (wants0 rfl) rfl rfl rfl ?_
       refine T.extract .list rfl (wants0 rfl) rfl rfl rfl ?_
       refine T.allocS .list rfl (wants0 rfl) rfl (cs := [.int .i64 0, .int .i64 0, .int .i64 0]) rfl (fun b3 => ?_)
       refine T.store .list 0 rfl rfl (wants0 rfl) rfl rfl rfl rfl (Nat.le_of_ble_eq_true rfl) rfl (cs' := [.int .i64 r4.1.1, .int .i64 r4.1.2.1, .int .i64 r4.1.2.2]) rfl rfl ?_
       refine T.assign .list rfl (wants0 rfl) rfl rfl ?_
       refine T.nil ?_
       refine T.then_normal ?_
       refine T.seq ?_
       refine T.seqJ (fun (s6 : Bool) (x12 : Unit) => [(0, .slice A0 l0.length c0), (3, .pointer (some ⟨x2.1, 0, none⟩)), (5, .pointer (some ⟨b1, 0, none⟩)), (6, .int .i64 s2.2.2.2.2), (16, .pointer (some ⟨b3, 0, none⟩)), (137, .bool s6)]) (fun s6 x12 => Ro (Elt.pair E64 (Elt.pair E64 (Elt.pair E64 E64))) A0 c0 l0 :: Cl x2.1 88 [.pointer (some ⟨x2.2.1, 0, none⟩), .slice x10.1 s5.1.length x10.2] :: Cl x2.2.1 80 [.pointer (some ⟨x2.2.2.1, 0, none⟩), .int .i64 r1p0.2.1.1, .int .i64 r1p0.2.1.2.1, .int .i64 r1p0.2.1.2.2.1, .int .i64 r1p0.2.1.2.2.2.1, .int .i64 r1p0.2.1.2.2.2.2.1, .int .i64 r1p0.2.1.2.2.2.2.2.1, .int .i64 r1p0.2.1.2.2.2.2.2.2.1, .int .i64 r1p0.2.1.2.2.2.2.2.2.2.1, .int .i64 r1p0.2.1.2.2.2.2.2.2.2.2.1, .int .i64 r1p0.2.1.2.2.2.2.2.2.2.2.2.1, .int .i64 r1p0.2.1.2.2.2.2.2.2.2.2.2.2.1, .int .i64 r1p0.2.1.2.2.2.2.2.2.2.2.2.2.2.1, .int .i64 r1p0.2.1.2.2.2.2.2.2.2.2.2.2.2.2.1, .int .i64 r1p0.2.1.2.2.2.2.2.2.2.2.2.2.2.2.2.1, .int .i64 r1p0.2.1.2.2.2.2.2.2.2.2.2.2.2.2.2.2.1, .int .i64 r1p0.2.1.2.2.2.2.2.2.2.2.2.2.2.2.2.2.2.1, .int .i64 r1p0.2.1.2.2.2.2.2.2.2.2.2.2.2.2.2.2.2.2] :: Cl x2.2.2.1 103 [.pointer (some ⟨x2.2.2.2.1, 0, none⟩), .nilIface, .int .i64 r1p0.2.2.1.1, .int .i64 r1p0.2.2.1.2.1, .nilIface, .int .i64 r1p0.2.2.1.2.2.1, .int .i64 r1p0.2.2.1.2.2.2, .map (some x2.2.2.2.2.2.2.2.2.1), .slice none 0 0, .slice none 0 0, .map (some x2.2.2.2.2.2.2.2.2.2.1)] :: Cl x2.2.2.2.1 124 [.int .i64 r1p0.2.2.2.1.1, .map (some x2.2.2.2.2.1), .pointer (some ⟨x2.2.2.2.2.2.1, 0, none⟩), .int .i64 r1p0.2.2.2.1.2.1, .int .u64 r1p0.2.2.2.1.2.2.1, .int .i64 r1p0.2.2.2.1.2.2.2] :: Mp E64 x2.2.2.2.2.1 r1p0.2.2.2.2.1 :: Cl x2.2.2.2.2.2.1 74 [.int .i64 r1p0.2.2.2.2.2.1.1, .map (some x2.2.2.2.2.2.2.1), .slice x2.2.2.2.2.2.2.2.1.1 r1p0.2.2.2.2.2.2.2.1.length x2.2.2.2.2.2.2.2.1.2, .bool r1p0.2.2.2.2.2.1.2.1, .int .i64 r1p0.2.2.2.2.2.1.2.2.1, .int .i64 r1p0.2.2.2.2.2.1.2.2.2.1, .int .u64 r1p0.2.2.2.2.2.1.2.2.2.2.1, .int .i64 r1p0.2.2.2.2.2.1.2.2.2.2.2.1, .int .i64 r1p0.2.2.2.2.2.1.2.2.2.2.2.2] :: Mp (Elt.slice E8) x2.2.2.2.2.2.2.1 r1p0.2.2.2.2.2.2.1 :: Bf (Elt.pair E64 (Elt.slice E8)) 147 x2.2.2.2.2.2.2.2.1.1 x2.2.2.2.2.2.2.2.1.2 r1p0.2.2.2.2.2.2.2.1 :: Mp E64 x2.2.2.2.2.2.2.2.2.1 r1p0.2.2.2.2.2.2.2.2.1 :: Mp E64 x2.2.2.2.2.2.2.2.2.2.1 r1p0.2.2.2.2.2.2.2.2.2.1 :: Bf (Elt.pair (Elt.pair E64 (Elt.pair (Elt.slice E8) (Elt.slice E8))) EBool) 91 x10.1 x10.2 s5.1 :: Cl b1 28 [.int .i64 s5.2.1, .int .i64 s5.2.2.1, .int .i64 s5.2.2.2] :: Cl b3 28 [.int .i64 r4.1.1, .int .i64 r4.1.2.1, .int .i64 r4.1.2.2] :: hs) (fun s6 => law19_LeasePlays.k5 r4 s5 s2 s6 = some o1) (fun s6 x12 hk5 => ?_) (fun J5 => ?_)
       ·unfold law19_LeasePlays.k5 at hk5
        refine T.cond rfl (fun hb2 => ?_) (fun hb2 => ?_)
        ·replace hk5 := inv_posB hb2 hk5
         refine T.seq ?_
         refine T.region ?_
         refine T.assign .list rfl (wants0 rfl) rfl rfl ?_
         refine T.nil ?_
         refine T.then_normal ?_
         refine T.ret ?_
         refine T.then_ret ?_
         refine T.in_ret ?_
         refine T.then_ret ?_
         refine T.then_ret ?_
         obtain rfl := inv_some hk5
         obtain rfl := hx1 _ rfl
         refine T.in_ret ?_
         refine T.then_ret ?_
         obtain rfl := inv_some hr
         refine T.pick [] 14 rfl rfl (Nat.le_add_left _ _) rfl ?_
         refine T.ret1 rfl rfl (fun w hS => ⟨(), rfl, hS⟩)
        ·replace hk5 := inv_negB hb2 hk5
         refine T.skip ?_
         refine T.then_normal ?_
         refine T.seq ?_
         refine T.region ?_
         refine T.assign .list rfl (wants0 rfl) rfl rfl ?_
         refine T.nil ?_
         refine T.then_normal ?_
         refine T.block ?_
         obtain ⟨e2, hl2, hk5⟩ := inv_bind hk5
         refine T.le (EnvLe.cons rfl (EnvLe.cons rfl (EnvLe.cons rfl (EnvLe.cons rfl (EnvLe.cons rfl (EnvLe.cons rfl EnvLe.nil)))))) (T.pick [0, 1, 2, 3, 4, 5, 6, 7, 8, 9, 10, 11, 12, 13] 14 rfl rfl (Nat.le_add_left _ _) rfl (T.loop (s0 := -2) (env := fun s7 x13 => [(0, .slice A0 l0.length c0), (3, .pointer (some ⟨x2.1, 0, none⟩)), (5, .pointer (some ⟨b1, 0, none⟩)), (6, .int .i64 s2.2.2.2.2), (16, .pointer (some ⟨b3, 0, none⟩)), (18, .int .i64 s7)]) (hs := fun (s7 : Int) (x13 : Unit) => Ro (Elt.pair E64 (Elt.pair E64 (Elt.pair E64 E64))) A0 c0 l0 :: Cl x2.1 88 [.pointer (some ⟨x2.2.1, 0, none⟩), .slice x10.1 s5.1.length x10.2] :: Cl x2.2.1 80 [.pointer (some ⟨x2.2.2.1, 0, none⟩), .int .i64 r1p0.2.1.1, .int .i64 r1p0.2.1.2.1, .int .i64 r1p0.2.1.2.2.1, .int .i64 r1p0.2.1.2.2.2.1, .int .i64 r1p0.2.1.2.2.2.2.1, .int .i64 r1p0.2.1.2.2.2.2.2.1, .int .i64 r1p0.2.1.2.2.2.2.2.2.1, .int .i64 r1p0.2.1.2.2.2.2.2.2.2.1, .int .i64 r1p0.2.1.2.2.2.2.2.2.2.2.1, .int .i64 r1p0.2.1.2.2.2.2.2.2.2.2.2.1, .int .i64 r1p0.2.1.2.2.2.2.2.2.2.2.2.2.1, .int .i64 r1p0.2.1.2.2.2.2.2.2.2.2.2.2.2.1, .int .i64 r1p0.2.1.2.2.2.2.2.2.2.2.2.2.2.2.1, .int .i64 r1p0.2.1.2.2.2.2.2.2.2.2.2.2.2.2.2.1, .int .i64 r1p0.2.1.2.2.2.2.2.2.2.2.2.2.2.2.2.2.1, .int .i64 r1p0.2.1.2.2.2.2.2.2.2.2.2.2.2.2.2.2.2.1, .int .i64 r1p0.2.1.2.2.2.2.2.2.2.2.2.2.2.2.2.2.2.2] :: Cl x2.2.2.1 103 [.pointer (some ⟨x2.2.2.2.1, 0, none⟩), .nilIface, .int .i64 r1p0.2.2.1.1, .int .i64 r1p0.2.2.1.2.1, .nilIface, .int .i64 r1p0.2.2.1.2.2.1, .int .i64 r1p0.2.2.1.2.2.2, .map (some x2.2.2.2.2.2.2.2.2.1), .slice none 0 0, .slice none 0 0, .map (some x2.2.2.2.2.2.2.2.2.2.1)] :: Cl x2.2.2.2.1 124 [.int .i64 r1p0.2.2.2.1.1, .map (some x2.2.2.2.2.1), .pointer (some ⟨x2.2.2.2.2.2.1, 0, none⟩), .int .i64 r1p0.2.2.2.1.2.1, .int .u64 r1p0.2.2.2.1.2.2.1, .int .i64 r1p0.2.2.2.1.2.2.2] :: Mp E64 x2.2.2.2.2.1 r1p0.2.2.2.2.1 :: Cl x2.2.2.2.2.2.1 74 [.int .i64 r1p0.2.2.2.2.2.1.1, .map (some x2.2.2.2.2.2.2.1), .slice x2.2.2.2.2.2.2.2.1.1 r1p0.2.2.2.2.2.2.2.1.length x2.2.2.2.2.2.2.2.1.2, .bool r1p0.2.2.2.2.2.1.2.1, .int .i64 r1p0.2.2.2.2.2.1.2.2.1, .int .i64 r1p0.2.2.2.2.2.1.2.2.2.1, .int .u64 r1p0.2.2.2.2.2.1.2.2.2.2.1, .int .i64 r1p0.2.2.2.2.2.1.2.2.2.2.2.1, .int .i64 r1p0.2.2.2.2.2.1.2.2.2.2.2.2] :: Mp (Elt.slice E8) x2.2.2.2.2.2.2.1 r1p0.2.2.2.2.2.2.1 :: Bf (Elt.pair E64 (Elt.slice E8)) 147 x2.2.2.2.2.2.2.2.1.1 x2.2.2.2.2.2.2.2.1.2 r1p0.2.2.2.2.2.2.2.1 :: Mp E64 x2.2.2.2.2.2.2.2.2.1 r1p0.2.2.2.2.2.2.2.2.1 :: Mp E64 x2.2.2.2.2.2.2.2.2.2.1 r1p0.2.2.2.2.2.2.2.2.2.1 :: Bf (Elt.pair (Elt.pair E64 (Elt.pair (Elt.slice E8) (Elt.slice E8))) EBool) 91 x10.1 x10.2 s5.1 :: Cl b1 28 [.int .i64 s5.2.1, .int .i64 s5.2.2.1, .int .i64 s5.2.2.2] :: Cl b3 28 [.int .i64 r4.1.1, .int .i64 r4.1.2.1, .int .i64 r4.1.2.2] :: hs) hl2 () (fun K2 s7 x13 o2 he2 hm2 hx2 => ?_)))
         unfold law19_LeasePlays.st2 at he2
         refine T.seq ?_
         refine T.seq ?_
         refine T.region ?_
         refine T.move .list rfl (wants0 rfl) rfl rfl ?_
         refine T.bin .list rfl (wants0 rfl) rfl rfl rfl rfl ?_
         refine T.nil ?_
         refine T.then_normal ?_
         refine T.cond rfl (fun hb3 => ?_) (fun hb3 => ?_)
         ·replace he2 := inv_posB hb3 he2
          refine T.skip ?_
          refine T.then_normal ?_
          refine T.seq ?_
          refine T.block ?_
          refine T.seq ?_
          refine T.dStart mixed ?_
          refine T.move (.dPure (i := 1) rfl (by kernel_rfl) (fun d _ _ _ _ h => by cases d <;> exact h)) rfl (wants0 rfl) rfl rfl ?_
          refine T.move (.dPure (i := 4) rfl (by kernel_rfl) (fun d _ _ _ _ h => by cases d <;> exact h)) rfl (wants0 rfl) rfl rfl ?_
          refine T.dAdd 7 (fun w => w.heap[b3]? = some (.cells [.int .i64 r4.1.1, .int .i64 r4.1.2.1, .int .i64 r4.1.2.2].toArray 28 (0, 0))) (Cl.stays 13 rfl) ?_
          refine T.valS 0 (i := 0) (.agg #[.int .i64 r4.1.1, .int .i64 r4.1.2.1, .int .i64 r4.1.2.2]) rfl rfl (by kernel_rfl) (by kernel_rfl) (fun d _ _ _ _ h => by cases d <;> exact h) (wants0 rfl) rfl (run_ldClN rfl rfl (vs := [.int .i64 r4.1.1, .int .i64 r4.1.2.1, .int .i64 r4.1.2.2]) rfl rfl) ?_
          refine T.dAdd 7 (fun w => w.heap[b1]? = some (.cells [.int .i64 s5.2.1, .int .i64 s5.2.2.1, .int .i64 s5.2.2.2].toArray 28 (0, 0))) (Cl.stays 12 rfl) ?_
          refine T.valS 0 (i := 3) (.agg #[.int .i64 s5.2.1, .int .i64 s5.2.2.1, .int .i64 s5.2.2.2]) rfl rfl (by kernel_rfl) (by kernel_rfl) (fun d _ _ _ _ h => by cases d <;> exact h) (wants0 rfl) rfl (run_ldClN rfl rfl (vs := [.int .i64 s5.2.1, .int .i64 s5.2.2.1, .int .i64 s5.2.2.2]) rfl rfl) ?_
          obtain ⟨r5, hg5, he2⟩ := inv_bind he2
          refine T.dOnly (i := 2) (by kernel_rfl) ?_
          refine T.call (.dOne rfl (by kernel_rfl)) (wants0 rfl) rfl (run_callF (vs := [_, _]) rfl Try.func14 rfl (by decide) rfl) (fun w hS => lease_May.c hS (a0 := (r4.1.1, r4.1.2.1, r4.1.2.2))  hg5) (fun x14 => ?_)
          refine T.dNext (phi_cons (.inr (Cl.stays 12 rfl)) (phi_cons (.inr (Cl.stays 13 rfl)) phi_nil)) ?_
          obtain ⟨r6, hg6, he2⟩ := inv_bind he2
          refine T.dOnly (i := 5) (by kernel_rfl) ?_
          refine T.call (.dOne rfl (by kernel_rfl)) (wants0 rfl) rfl (run_callF (vs := [_, _]) rfl Try.func15 rfl (by decide) rfl) (fun w hS => ref19_May.c hS (a0 := (s5.2.1, s5.2.2.1, s5.2.2.2))  hg6) (fun x15 => ?_)
          refine T.dNext (phi_cons (.inr (Cl.stays 12 rfl)) (phi_cons (.inr (Cl.stays 13 rfl)) phi_nil)) ?_
          refine T.boolNe (.dPure (i := 6) rfl (by kernel_rfl) (fun d _ _ _ _ h => by cases d <;> exact h)) rfl (wants0 rfl) rfl rfl rfl (by kernel_rfl) ?_
          refine T.dDone (by kernel_rfl) ?_
          refine T.then_normal ?_
          refine T.cond rfl (fun hb4 => ?_) (fun hb4 => ?_)
          ·replace he2 := inv_posB hb4 he2
           refine T.seq ?_
           refine T.region ?_
           refine T.assign .list rfl (wants0 rfl) rfl rfl ?_
           refine T.nil ?_
           refine T.then_normal ?_
           refine T.ret ?_
           refine T.in_ret ?_
           refine T.then_ret ?_
           refine T.then_ret ?_
           obtain rfl := inv_some he2
           obtain rfl := hx2 _ rfl
           refine T.in_ret ?_
           refine T.in_ret ?_
           refine T.then_ret ?_
           refine T.then_ret ?_
           obtain rfl := inv_some hk5
           obtain rfl := hx1 _ rfl
           refine T.in_ret ?_
           refine T.then_ret ?_
           obtain rfl := inv_some hr
           refine T.pick [] 14 rfl rfl (Nat.le_add_left _ _) rfl ?_
           refine T.ret1 rfl rfl (fun w hS => ⟨(), rfl, hS⟩)
          ·replace he2 := inv_negB hb4 he2
           refine T.skip ?_
           refine T.in_normal ?_
           refine T.then_normal ?_
           refine T.region ?_
           refine T.move .list rfl (wants0 rfl) rfl rfl ?_
           refine T.bin .list rfl (wants0 rfl) rfl rfl rfl rfl ?_
           refine T.assign .list rfl (wants0 rfl) rfl rfl ?_
           refine T.nil ?_
           refine T.then_normal ?_
           obtain rfl := inv_some he2
           exact T.le (EnvLe.cons rfl (EnvLe.cons rfl (EnvLe.cons rfl (EnvLe.cons rfl (EnvLe.cons rfl (EnvLe.cons rfl EnvLe.nil)))))) (T.pick [0, 1, 2, 3, 4, 5, 6, 7, 8, 9, 10, 11, 12, 13] 14 rfl rfl (Nat.le_add_left _ _) rfl (hm2 (IntKind.i64.wrap (s7 + 1)) rfl ()))
         ·replace he2 := inv_negB hb3 he2
          refine T.exit ?_
          refine T.then_exit ?_
          refine T.then_exit ?_
          obtain rfl := inv_some he2
          obtain rfl := hx2 _ rfl
          refine T.in_hit ?_
          refine T.in_normal ?_
          refine T.then_normal ?_
          exact T.le (EnvLe.cons rfl (EnvLe.cons rfl (EnvLe.cons rfl (EnvLe.cons rfl EnvLe.nil)))) (T.pick [0, 1, 2, 3, 4, 5, 6, 7, 8, 9, 10, 11, 12] 14 rfl rfl (Nat.le_add_left _ _) rfl (J3 (s5.1, s5.2.1, s5.2.2.1, s5.2.2.2) (x10.1, x10.2) hk5))
       ·refine T.region ?_
        refine T.move .list rfl (wants0 rfl) rfl rfl ?_
        refine T.bin .list rfl (wants0 rfl) rfl rfl rfl rfl ?_
        refine T.move .list rfl (wants0 rfl) rfl rfl ?_
        refine T.bool (b := (decide (r4.2 = 0))) (fun hb5 => ?_) (fun hb5 => ?_)
        ·replace hk4 := inv_posB hb5 hk4
         refine T.loadN .list 0 rfl rfl (wants1 rfl rfl rfl (not_t hb5)) rfl rfl (vs := [.int .i64 r4.1.1, .int .i64 r4.1.2.1, .int .i64 r4.1.2.2]) rfl rfl ?_
         refine T.loadN .list 13 rfl rfl (wants1 rfl rfl rfl (not_t hb5)) rfl rfl (vs := [.int .i64 s5.2.1, .int .i64 s5.2.2.1, .int .i64 s5.2.2.2]) rfl rfl ?_
         refine T.neS .list rfl (wants1 rfl rfl rfl (not_t hb5)) rfl rfl rfl (by kernel_rfl) (by kernel_rfl) (by kernel_rfl) (l := [(3, 0), (3, 1), (3, 2)]) (by kernel_rfl) (.int rfl rfl (.int rfl rfl (.int rfl rfl .nil))) (b' := (decide ((r4.1.1, r4.1.2.1, r4.1.2.2) = (s5.2.1, s5.2.2.1, s5.2.2.2)))) (by rw [Bool.eq_iff_iff]; simp [Prod.ext_iff]) ?_
         refine T.pickF .list rfl (wants0 rfl) rfl rfl (not_t hb5) rfl ?_
         refine T.nil ?_
         refine T.then_normal ?_
         exact T.le (EnvLe.cons rfl (EnvLe.cons rfl (EnvLe.cons rfl (EnvLe.cons rfl (EnvLe.cons rfl (EnvLe.cons rfl EnvLe.nil)))))) (T.pick [12, 1, 2, 3, 4, 5, 6, 7, 8, 9, 10, 11, 13, 0] 14 rfl rfl (Nat.le_add_left _ _) rfl (J5 (!(decide ((r4.1.1, r4.1.2.1, r4.1.2.2) = (s5.2.1, s5.2.2.1, s5.2.2.2)))) () hk4))
        ·replace hk4 := inv_negB hb5 hk4
         refine T.leave .list (wantsNot rfl rfl rfl (not_f hb5)) rfl ?_
         refine T.leave .list (wantsNot rfl rfl rfl (not_f hb5)) rfl ?_
         refine T.leave .list (wantsNot rfl rfl rfl (not_f hb5)) rfl ?_
         refine T.pickT .list rfl (wants0 rfl) rfl rfl (not_f hb5) rfl ?_
         refine T.nil ?_
         refine T.then_normal ?_
         exact T.le (EnvLe.cons rfl (EnvLe.cons rfl (EnvLe.cons rfl (EnvLe.cons rfl (EnvLe.cons rfl (EnvLe.cons rfl EnvLe.nil)))))) (T.pick [12, 1, 2, 3, 4, 5, 6, 7, 8, 9, 10, 11, 13, 0] 14 rfl rfl (Nat.le_add_left _ _) rfl (J5 true () hk4))
      ·refine T.seq ?_
       refine T.region ?_
       refine T.field .list rfl (wants0 rfl) rfl rfl ?_
       refine T.load .list 0 rfl rfl (wants0 rfl) rfl rfl rfl ?_
       refine T.nil ?_
       refine T.then_normal ?_
       refine T.block ?_
       refine T.seq ?_
       refine T.region ?_
       refine T.bin .list rfl (wants0 rfl) rfl rfl rfl rfl ?_
       refine T.assign .list rfl (wants0 rfl) rfl rfl ?_
       refine T.nil ?_
       refine T.then_normal ?_
       refine T.cond rfl (fun hb6 => ?_) (fun hb6 => ?_)
       ·replace hk2 := inv_posB hb6 hk2
        refine T.seq ?_
        refine T.region ?_
        refine T.move .list rfl (wants0 rfl) rfl rfl ?_
        refine T.field .list rfl (wants0 rfl) rfl rfl ?_
        refine T.load .list 0 rfl rfl (wants0 rfl) rfl rfl rfl ?_
        refine T.field .list rfl (wants0 rfl) rfl rfl ?_
        refine T.load .list 0 rfl rfl (wants0 rfl) rfl rfl rfl ?_
        refine T.field .list rfl (wants0 rfl) rfl rfl ?_
        refine T.load .list 0 rfl rfl (wants0 rfl) rfl rfl rfl ?_
        refine T.pick [2, 3, 4, 5, 6, 7, 8, 9, 10, 11, 12, 0, 1, 13] 14 rfl rfl (Nat.le_add_left _ _) (hs' := Cl x2.1 88 [.pointer (some ⟨x2.2.1, 0, none⟩), .slice x6.1 s2.1.length x6.2] :: Cl x2.2.1 80 [.pointer (some ⟨x2.2.2.1, 0, none⟩), .int .i64 r1p0.2.1.1, .int .i64 r1p0.2.1.2.1, .int .i64 r1p0.2.1.2.2.1, .int .i64 r1p0.2.1.2.2.2.1, .int .i64 r1p0.2.1.2.2.2.2.1, .int .i64 r1p0.2.1.2.2.2.2.2.1, .int .i64 r1p0.2.1.2.2.2.2.2.2.1, .int .i64 r1p0.2.1.2.2.2.2.2.2.2.1, .int .i64 r1p0.2.1.2.2.2.2.2.2.2.2.1, .int .i64 r1p0.2.1.2.2.2.2.2.2.2.2.2.1, .int .i64 r1p0.2.1.2.2.2.2.2.2.2.2.2.2.1, .int .i64 r1p0.2.1.2.2.2.2.2.2.2.2.2.2.2.1, .int .i64 r1p0.2.1.2.2.2.2.2.2.2.2.2.2.2.2.1, .int .i64 r1p0.2.1.2.2.2.2.2.2.2.2.2.2.2.2.2.1, .int .i64 r1p0.2.1.2.2.2.2.2.2.2.2.2.2.2.2.2.2.1, .int .i64 r1p0.2.1.2.2.2.2.2.2.2.2.2.2.2.2.2.2.2.1, .int .i64 r1p0.2.1.2.2.2.2.2.2.2.2.2.2.2.2.2.2.2.2] :: Cl x2.2.2.1 103 [.pointer (some ⟨x2.2.2.2.1, 0, none⟩), .nilIface, .int .i64 r1p0.2.2.1.1, .int .i64 r1p0.2.2.1.2.1, .nilIface, .int .i64 r1p0.2.2.1.2.2.1, .int .i64 r1p0.2.2.1.2.2.2, .map (some x2.2.2.2.2.2.2.2.2.1), .slice none 0 0, .slice none 0 0, .map (some x2.2.2.2.2.2.2.2.2.2.1)] :: Cl x2.2.2.2.1 124 [.int .i64 r1p0.2.2.2.1.1, .map (some x2.2.2.2.2.1), .pointer (some ⟨x2.2.2.2.2.2.1, 0, none⟩), .int .i64 r1p0.2.2.2.1.2.1, .int .u64 r1p0.2.2.2.1.2.2.1, .int .i64 r1p0.2.2.2.1.2.2.2] :: Mp E64 x2.2.2.2.2.1 r1p0.2.2.2.2.1 :: Cl x2.2.2.2.2.2.1 74 [.int .i64 r1p0.2.2.2.2.2.1.1, .map (some x2.2.2.2.2.2.2.1), .slice x2.2.2.2.2.2.2.2.1.1 r1p0.2.2.2.2.2.2.2.1.length x2.2.2.2.2.2.2.2.1.2, .bool r1p0.2.2.2.2.2.1.2.1, .int .i64 r1p0.2.2.2.2.2.1.2.2.1, .int .i64 r1p0.2.2.2.2.2.1.2.2.2.1, .int .u64 r1p0.2.2.2.2.2.1.2.2.2.2.1, .int .i64 r1p0.2.2.2.2.2.1.2.2.2.2.2.1, .int .i64 r1p0.2.2.2.2.2.1.2.2.2.2.2.2] :: Mp (Elt.slice E8) x2.2.2.2.2.2.2.1 r1p0.2.2.2.2.2.2.1 :: Bf (Elt.pair E64 (Elt.slice E8)) 147 x2.2.2.2.2.2.2.2.1.1 x2.2.2.2.2.2.2.2.1.2 r1p0.2.2.2.2.2.2.2.1 :: Mp E64 x2.2.2.2.2.2.2.2.2.1 r1p0.2.2.2.2.2.2.2.2.1 :: Mp E64 x2.2.2.2.2.2.2.2.2.2.1 r1p0.2.2.2.2.2.2.2.2.2.1 :: Bf (Elt.pair (Elt.pair E64 (Elt.pair (Elt.slice E8) (Elt.slice E8))) EBool) 91 x6.1 x6.2 s2.1 :: Cl b2 31 [.int .i64 (((((l0).getD (s2.2.2.2.2 : Int).toNat default)).1)), .int .i64 (((((l0).getD (s2.2.2.2.2 : Int).toNat default)).2.1)), .int .i64 (((((l0).getD (s2.2.2.2.2 : Int).toNat default)).2.2.1)), .int .i64 (((((l0).getD (s2.2.2.2.2 : Int).toNat default)).2.2.2))] :: Ro (Elt.pair E64 (Elt.pair E64 (Elt.pair E64 E64))) A0 c0 l0 :: Cl b1 28 [.int .i64 s2.2.1, .int .i64 s2.2.2.1, .int .i64 s2.2.2.2.1] :: hs) rfl ?_
        obtain ⟨r7, hg7, hk2⟩ := inv_bind hk2
        refine T.call .list (wants0 rfl) rfl (run_callF (vs := [_, _, _, _]) rfl Try.func9 rfl (by decide) rfl) (fun w hS => lease_Grant.c hS (o0a := (r1p0.2.1.1, r1p0.2.1.2.1, r1p0.2.1.2.2.1, r1p0.2.1.2.2.2.1, r1p0.2.1.2.2.2.2.1, r1p0.2.1.2.2.2.2.2.1, r1p0.2.1.2.2.2.2.2.2.1, r1p0.2.1.2.2.2.2.2.2.2.1, r1p0.2.1.2.2.2.2.2.2.2.2.1, r1p0.2.1.2.2.2.2.2.2.2.2.2.1, r1p0.2.1.2.2.2.2.2.2.2.2.2.2.1, r1p0.2.1.2.2.2.2.2.2.2.2.2.2.2.1, r1p0.2.1.2.2.2.2.2.2.2.2.2.2.2.2.1, r1p0.2.1.2.2.2.2.2.2.2.2.2.2.2.2.2.1, r1p0.2.1.2.2.2.2.2.2.2.2.2.2.2.2.2.2.1, r1p0.2.1.2.2.2.2.2.2.2.2.2.2.2.2.2.2.2.1, r1p0.2.1.2.2.2.2.2.2.2.2.2.2.2.2.2.2.2.2)) (o0aa := (r1p0.2.2.1.1, r1p0.2.2.1.2.1, r1p0.2.2.1.2.2.1, r1p0.2.2.1.2.2.2)) (o0aaa := (r1p0.2.2.2.1.1, r1p0.2.2.2.1.2.1, r1p0.2.2.2.1.2.2.1, r1p0.2.2.2.1.2.2.2)) (q0aaab := r1p0.2.2.2.2.1) (o0aaac := (r1p0.2.2.2.2.2.1.1, r1p0.2.2.2.2.2.1.2.1, r1p0.2.2.2.2.2.1.2.2.1, r1p0.2.2.2.2.2.1.2.2.2.1, r1p0.2.2.2.2.2.1.2.2.2.2.1, r1p0.2.2.2.2.2.1.2.2.2.2.2.1, r1p0.2.2.2.2.2.1.2.2.2.2.2.2)) (q0aaacb := r1p0.2.2.2.2.2.2.1) (q0aaacc := r1p0.2.2.2.2.2.2.2.1) (q0aah := r1p0.2.2.2.2.2.2.2.2.1) (q0aak := r1p0.2.2.2.2.2.2.2.2.2.1) (q0b := s2.1)  hg7) (fun x16 => ?_)
        refine T.move .list rfl (wants0 rfl) rfl rfl ?_
        refine T.extract .list rfl (wants0 rfl) rfl rfl rfl ?_
        refine T.extract .list rfl (wants0 rfl) rfl rfl rfl ?_
        refine T.assign .list rfl (wants0 rfl) rfl rfl ?_
        refine T.assign .list rfl (wants0 rfl) rfl rfl ?_
        refine T.nil ?_
        refine T.then_normal ?_
        refine T.seq ?_
        refine T.seqJ (fun (s8 : Bool) (x17 : Unit) => [(0, .slice A0 l0.length c0), (3, .pointer (some ⟨x2.1, 0, none⟩)), (5, .pointer (some ⟨b1, 0, none⟩)), (6, .int .i64 s2.2.2.2.2), (7, .pointer (some ⟨b2, 0, none⟩)), (8, .bool r7.1), (9, .int .i64 r7.2.1), (77, .bool s8)]) (fun s8 x17 => Ro (Elt.pair E64 (Elt.pair E64 (Elt.pair E64 E64))) A0 c0 l0 :: Cl x2.1 88 [.pointer (some ⟨x2.2.1, 0, none⟩), .slice x16.1 r7.2.2.length x16.2] :: Cl x2.2.1 80 [.pointer (some ⟨x2.2.2.1, 0, none⟩), .int .i64 r1p0.2.1.1, .int .i64 r1p0.2.1.2.1, .int .i64 r1p0.2.1.2.2.1, .int .i64 r1p0.2.1.2.2.2.1, .int .i64 r1p0.2.1.2.2.2.2.1, .int .i64 r1p0.2.1.2.2.2.2.2.1, .int .i64 r1p0.2.1.2.2.2.2.2.2.1, .int .i64 r1p0.2.1.2.2.2.2.2.2.2.1, .int .i64 r1p0.2.1.2.2.2.2.2.2.2.2.1, .int .i64 r1p0.2.1.2.2.2.2.2.2.2.2.2.1, .int .i64 r1p0.2.1.2.2.2.2.2.2.2.2.2.2.1, .int .i64 r1p0.2.1.2.2.2.2.2.2.2.2.2.2.2.1, .int .i64 r1p0.2.1.2.2.2.2.2.2.2.2.2.2.2.2.1, .int .i64 r1p0.2.1.2.2.2.2.2.2.2.2.2.2.2.2.2.1, .int .i64 r1p0.2.1.2.2.2.2.2.2.2.2.2.2.2.2.2.2.1, .int .i64 r1p0.2.1.2.2.2.2.2.2.2.2.2.2.2.2.2.2.2.1, .int .i64 r1p0.2.1.2.2.2.2.2.2.2.2.2.2.2.2.2.2.2.2] :: Cl x2.2.2.1 103 [.pointer (some ⟨x2.2.2.2.1, 0, none⟩), .nilIface, .int .i64 r1p0.2.2.1.1, .int .i64 r1p0.2.2.1.2.1, .nilIface, .int .i64 r1p0.2.2.1.2.2.1, .int .i64 r1p0.2.2.1.2.2.2, .map (some x2.2.2.2.2.2.2.2.2.1), .slice none 0 0, .slice none 0 0, .map (some x2.2.2.2.2.2.2.2.2.2.1)] :: Cl x2.2.2.2.1 124 [.int .i64 r1p0.2.2.2.1.1, .map (some x2.2.2.2.2.1), .pointer (some ⟨x2.2.2.2.2.2.1, 0, none⟩), .int .i64 r1p0.2.2.2.1.2.1, .int .u64 r1p0.2.2.2.1.2.2.1, .int .i64 r1p0.2.2.2.1.2.2.2] :: Mp E64 x2.2.2.2.2.1 r1p0.2.2.2.2.1 :: Cl x2.2.2.2.2.2.1 74 [.int .i64 r1p0.2.2.2.2.2.1.1, .map (some x2.2.2.2.2.2.2.1), .slice x2.2.2.2.2.2.2.2.1.1 r1p0.2.2.2.2.2.2.2.1.length x2.2.2.2.2.2.2.2.1.2, .bool r1p0.2.2.2.2.2.1.2.1, .int .i64 r1p0.2.2.2.2.2.1.2.2.1, .int .i64 r1p0.2.2.2.2.2.1.2.2.2.1, .int .u64 r1p0.2.2.2.2.2.1.2.2.2.2.1, .int .i64 r1p0.2.2.2.2.2.1.2.2.2.2.2.1, .int .i64 r1p0.2.2.2.2.2.1.2.2.2.2.2.2] :: Mp (Elt.slice E8) x2.2.2.2.2.2.2.1 r1p0.2.2.2.2.2.2.1 :: Bf (Elt.pair E64 (Elt.slice E8)) 147 x2.2.2.2.2.2.2.2.1.1 x2.2.2.2.2.2.2.2.1.2 r1p0.2.2.2.2.2.2.2.1 :: Mp E64 x2.2.2.2.2.2.2.2.2.1 r1p0.2.2.2.2.2.2.2.2.1 :: Mp E64 x2.2.2.2.2.2.2.2.2.2.1 r1p0.2.2.2.2.2.2.2.2.2.1 :: Bf (Elt.pair (Elt.pair E64 (Elt.pair (Elt.slice E8) (Elt.slice E8))) EBool) 91 x16.1 x16.2 r7.2.2 :: Cl b1 28 [.int .i64 s2.2.1, .int .i64 s2.2.2.1, .int .i64 s2.2.2.2.1] :: Cl b2 31 [.int .i64 (((((l0).getD (s2.2.2.2.2 : Int).toNat default)).1)), .int .i64 (((((l0).getD (s2.2.2.2.2 : Int).toNat default)).2.1)), .int .i64 (((((l0).getD (s2.2.2.2.2 : Int).toNat default)).2.2.1)), .int .i64 (((((l0).getD (s2.2.2.2.2 : Int).toNat default)).2.2.2))] :: hs) (fun s8 => law19_LeasePlays.k6 r7 r1p0 s2 l0 s8 = some o1) (fun s8 x17 hk6 => ?_) (fun J6 => ?_)
        ·unfold law19_LeasePlays.k6 at hk6
         refine T.cond rfl (fun hb7 => ?_) (fun hb7 => ?_)
         ·replace hk6 := inv_posB hb7 hk6
          refine T.seq ?_
          refine T.seqJ (fun (s9 : Bool) (x18 : Unit) => [(0, .slice A0 l0.length c0), (3, .pointer (some ⟨x2.1, 0, none⟩)), (5, .pointer (some ⟨b1, 0, none⟩)), (6, .int .i64 s2.2.2.2.2), (82, .bool s9)]) (fun s9 x18 => Ro (Elt.pair E64 (Elt.pair E64 (Elt.pair E64 E64))) A0 c0 l0 :: Cl x2.1 88 [.pointer (some ⟨x2.2.1, 0, none⟩), .slice x16.1 r7.2.2.length x16.2] :: Cl x2.2.1 80 [.pointer (some ⟨x2.2.2.1, 0, none⟩), .int .i64 r1p0.2.1.1, .int .i64 r1p0.2.1.2.1, .int .i64 r1p0.2.1.2.2.1, .int .i64 r1p0.2.1.2.2.2.1, .int .i64 r1p0.2.1.2.2.2.2.1, .int .i64 r1p0.2.1.2.2.2.2.2.1, .int .i64 r1p0.2.1.2.2.2.2.2.2.1, .int .i64 r1p0.2.1.2.2.2.2.2.2.2.1, .int .i64 r1p0.2.1.2.2.2.2.2.2.2.2.1, .int .i64 r1p0.2.1.2.2.2.2.2.2.2.2.2.1, .int .i64 r1p0.2.1.2.2.2.2.2.2.2.2.2.2.1, .int .i64 r1p0.2.1.2.2.2.2.2.2.2.2.2.2.2.1, .int .i64 r1p0.2.1.2.2.2.2.2.2.2.2.2.2.2.2.1, .int .i64 r1p0.2.1.2.2.2.2.2.2.2.2.2.2.2.2.2.1, .int .i64 r1p0.2.1.2.2.2.2.2.2.2.2.2.2.2.2.2.2.1, .int .i64 r1p0.2.1.2.2.2.2.2.2.2.2.2.2.2.2.2.2.2.1, .int .i64 r1p0.2.1.2.2.2.2.2.2.2.2.2.2.2.2.2.2.2.2] :: Cl x2.2.2.1 103 [.pointer (some ⟨x2.2.2.2.1, 0, none⟩), .nilIface, .int .i64 r1p0.2.2.1.1, .int .i64 r1p0.2.2.1.2.1, .nilIface, .int .i64 r1p0.2.2.1.2.2.1, .int .i64 r1p0.2.2.1.2.2.2, .map (some x2.2.2.2.2.2.2.2.2.1), .slice none 0 0, .slice none 0 0, .map (some x2.2.2.2.2.2.2.2.2.2.1)] :: Cl x2.2.2.2.1 124 [.int .i64 r1p0.2.2.2.1.1, .map (some x2.2.2.2.2.1), .pointer (some ⟨x2.2.2.2.2.2.1, 0, none⟩), .int .i64 r1p0.2.2.2.1.2.1, .int .u64 r1p0.2.2.2.1.2.2.1, .int .i64 r1p0.2.2.2.1.2.2.2] :: Mp E64 x2.2.2.2.2.1 r1p0.2.2.2.2.1 :: Cl x2.2.2.2.2.2.1 74 [.int .i64 r1p0.2.2.2.2.2.1.1, .map (some x2.2.2.2.2.2.2.1), .slice x2.2.2.2.2.2.2.2.1.1 r1p0.2.2.2.2.2.2.2.1.length x2.2.2.2.2.2.2.2.1.2, .bool r1p0.2.2.2.2.2.1.2.1, .int .i64 r1p0.2.2.2.2.2.1.2.2.1, .int .i64 r1p0.2.2.2.2.2.1.2.2.2.1, .int .u64 r1p0.2.2.2.2.2.1.2.2.2.2.1, .int .i64 r1p0.2.2.2.2.2.1.2.2.2.2.2.1, .int .i64 r1p0.2.2.2.2.2.1.2.2.2.2.2.2] :: Mp (Elt.slice E8) x2.2.2.2.2.2.2.1 r1p0.2.2.2.2.2.2.1 :: Bf (Elt.pair E64 (Elt.slice E8)) 147 x2.2.2.2.2.2.2.2.1.1 x2.2.2.2.2.2.2.2.1.2 r1p0.2.2.2.2.2.2.2.1 :: Mp E64 x2.2.2.2.2.2.2.2.2.1 r1p0.2.2.2.2.2.2.2.2.1 :: Mp E64 x2.2.2.2.2.2.2.2.2.2.1 r1p0.2.2.2.2.2.2.2.2.2.1 :: Bf (Elt.pair (Elt.pair E64 (Elt.pair (Elt.slice E8) (Elt.slice E8))) EBool) 91 x16.1 x16.2 r7.2.2 :: Cl b1 28 [.int .i64 s2.2.1, .int .i64 s2.2.2.1, .int .i64 s2.2.2.2.1] :: hs) (fun s9 => law19_LeasePlays.k7 r1p0 s2 r7 s9 = some o1) (fun s9 x18 hk7 => ?_) (fun J7 => ?_)
          ·unfold law19_LeasePlays.k7 at hk7
           refine T.cond rfl (fun hb8 => ?_) (fun hb8 => ?_)
           ·replace hk7 := inv_posB hb8 hk7
            refine T.seq ?_
            refine T.region ?_
            refine T.assign .list rfl (wants0 rfl) rfl rfl ?_
            refine T.nil ?_
            refine T.then_normal ?_
            refine T.ret ?_
            refine T.then_ret ?_
            refine T.then_ret ?_
            refine T.in_ret ?_
            refine T.then_ret ?_
            refine T.in_ret ?_
            refine T.then_ret ?_
            refine T.then_ret ?_
            obtain rfl := inv_some hk7
            obtain rfl := hx1 _ rfl
            refine T.in_ret ?_
            refine T.then_ret ?_
            obtain rfl := inv_some hr
            refine T.pick [] 13 rfl rfl (Nat.le_add_left _ _) rfl ?_
            refine T.ret1 rfl rfl (fun w hS => ⟨(), rfl, hS⟩)
           ·replace hk7 := inv_negB hb8 hk7
            refine T.skip ?_
            refine T.then_normal ?_
            refine T.exit ?_
            refine T.then_exit ?_
            refine T.in_hit ?_
            refine T.then_normal ?_
            exact T.le (EnvLe.cons rfl (EnvLe.cons rfl (EnvLe.cons rfl (EnvLe.cons rfl EnvLe.nil)))) (T.pick [0, 1, 2, 3, 4, 5, 6, 7, 8, 9, 10, 11, 12] 13 rfl rfl (Nat.le_add_left _ _) rfl (J4 (r7.2.2, s2.2.1, s2.2.2.1, s2.2.2.2.1) (x16.1, x16.2) hk7))
          ·refine T.region ?_
           refine T.move .list rfl (wants0 rfl) rfl rfl ?_
           refine T.bin .list rfl (wants0 rfl) rfl rfl rfl rfl ?_
           refine T.move .list rfl (wants0 rfl) rfl rfl ?_
           refine T.bool (b := (decide (r7.2.1 = 1))) (fun hb9 => ?_) (fun hb9 => ?_)
           ·replace hk6 := inv_posB hb9 hk6
            refine T.move .list rfl (wants1 rfl rfl rfl (not_t hb9)) rfl rfl ?_
            refine T.pickF .list rfl (wants0 rfl) rfl rfl (not_t hb9) rfl ?_
            refine T.nil ?_
            refine T.then_normal ?_
            exact T.le (EnvLe.cons rfl (EnvLe.cons rfl (EnvLe.cons rfl (EnvLe.cons rfl (EnvLe.cons rfl EnvLe.nil))))) (T.pick [0, 1, 2, 3, 4, 5, 6, 7, 8, 9, 10, 11, 12] 14 rfl rfl (Nat.le_add_left _ _) rfl (J7 r7.1 () hk6))
           ·replace hk6 := inv_negB hb9 hk6
            refine T.leave .list (wantsNot rfl rfl rfl (not_f hb9)) rfl ?_
            refine T.pickT .list rfl (wants0 rfl) rfl rfl (not_f hb9) rfl ?_
            refine T.nil ?_
            refine T.then_normal ?_
            exact T.le (EnvLe.cons rfl (EnvLe.cons rfl (EnvLe.cons rfl (EnvLe.cons rfl (EnvLe.cons rfl EnvLe.nil))))) (T.pick [0, 1, 2, 3, 4, 5, 6, 7, 8, 9, 10, 11, 12] 14 rfl rfl (Nat.le_add_left _ _) rfl (J7 true () hk6))
         ·replace hk6 := inv_negB hb7 hk6
          refine T.skip ?_
          refine T.then_normal ?_
          refine T.seq ?_
          refine T.region ?_
          refine T.loadN .list 12 rfl rfl (wants0 rfl) rfl rfl (vs := [.int .i64 s2.2.1, .int .i64 s2.2.2.1, .int .i64 s2.2.2.2.1]) rfl rfl ?_
          refine T.field .list rfl (wants0 rfl) rfl rfl ?_
          refine T.load .list 13 rfl rfl (wants0 rfl) rfl rfl rfl ?_
          refine T.field .list rfl (wants0 rfl) rfl rfl ?_
          refine T.load .list 13 rfl rfl (wants0 rfl) rfl rfl rfl ?_
          refine T.field .list rfl (wants0 rfl) rfl rfl ?_
          refine T.load .list 13 rfl rfl (wants0 rfl) rfl rfl rfl ?_
          obtain ⟨r8, hg8, hk6⟩ := inv_bind hk6
          refine T.call .list (wants0 rfl) rfl (run_callF (vs := [_, _, _, _]) rfl Try.func10 rfl (by decide) rfl) (fun w hS => ref19_Grant.c hS (a0 := (s2.2.1, s2.2.2.1, s2.2.2.2.1))  hg8) (fun x19 => ?_)
          refine T.move .list rfl (wants0 rfl) rfl rfl ?_
          refine T.extract .list rfl (wants0 rfl) rfl rfl rfl ?_
          refine T.extract .list rfl (wants0 rfl) rfl rfl rfl ?_
          refine T.allocS .list rfl (wants0 rfl) rfl (cs := [.int .i64 0, .int .i64 0, .int .i64 0]) rfl (fun b4 => ?_)
          refine T.store .list 0 rfl rfl (wants0 rfl) rfl rfl rfl rfl (Nat.le_of_ble_eq_true rfl) rfl (cs' := [.int .i64 r8.1.1, .int .i64 r8.1.2.1, .int .i64 r8.1.2.2]) rfl rfl ?_
          refine T.assign .list rfl (wants0 rfl) rfl rfl ?_
          refine T.nil ?_
          refine T.then_normal ?_
          refine T.seq ?_
          refine T.seqJ (fun (s10 : Bool) (x20 : Unit) => [(0, .slice A0 l0.length c0), (3, .pointer (some ⟨x2.1, 0, none⟩)), (5, .pointer (some ⟨b1, 0, none⟩)), (6, .int .i64 s2.2.2.2.2), (10, .pointer (some ⟨b4, 0, none⟩)), (100, .bool s10)]) (fun s10 x20 => Ro (Elt.pair E64 (Elt.pair E64 (Elt.pair E64 E64))) A0 c0 l0 :: Cl x2.1 88 [.pointer (some ⟨x2.2.1, 0, none⟩), .slice x16.1 r7.2.2.length x16.2] :: Cl x2.2.1 80 [.pointer (some ⟨x2.2.2.1, 0, none⟩), .int .i64 r1p0.2.1.1, .int .i64 r1p0.2.1.2.1, .int .i64 r1p0.2.1.2.2.1, .int .i64 r1p0.2.1.2.2.2.1, .int .i64 r1p0.2.1.2.2.2.2.1, .int .i64 r1p0.2.1.2.2.2.2.2.1, .int .i64 r1p0.2.1.2.2.2.2.2.2.1, .int .i64 r1p0.2.1.2.2.2.2.2.2.2.1, .int .i64 r1p0.2.1.2.2.2.2.2.2.2.2.1, .int .i64 r1p0.2.1.2.2.2.2.2.2.2.2.2.1, .int .i64 r1p0.2.1.2.2.2.2.2.2.2.2.2.2.1, .int .i64 r1p0.2.1.2.2.2.2.2.2.2.2.2.2.2.1, .int .i64 r1p0.2.1.2.2.2.2.2.2.2.2.2.2.2.2.1, .int .i64 r1p0.2.1.2.2.2.2.2.2.2.2.2.2.2.2.2.1, .int .i64 r1p0.2.1.2.2.2.2.2.2.2.2.2.2.2.2.2.2.1, .int .i64 r1p0.2.1.2.2.2.2.2.2.2.2.2.2.2.2.2.2.2.1, .int .i64 r1p0.2.1.2.2.2.2.2.2.2.2.2.2.2.2.2.2.2.2] :: Cl x2.2.2.1 103 [.pointer (some ⟨x2.2.2.2.1, 0, none⟩), .nilIface, .int .i64 r1p0.2.2.1.1, .int .i64 r1p0.2.2.1.2.1, .nilIface, .int .i64 r1p0.2.2.1.2.2.1, .int .i64 r1p0.2.2.1.2.2.2, .map (some x2.2.2.2.2.2.2.2.2.1), .slice none 0 0, .slice none 0 0, .map (some x2.2.2.2.2.2.2.2.2.2.1)] :: Cl x2.2.2.2.1 124 [.int .i64 r1p0.2.2.2.1.1, .map (some x2.2.2.2.2.1), .pointer (some ⟨x2.2.2.2.2.2.1, 0, none⟩), .int .i64 r1p0.2.2.2.1.2.1, .int .u64 r1p0.2.2.2.1.2.2.1, .int .i64 r1p0.2.2.2.1.2.2.2] :: Mp E64 x2.2.2.2.2.1 r1p0.2.2.2.2.1 :: Cl x2.2.2.2.2.2.1 74 [.int .i64 r1p0.2.2.2.2.2.1.1, .map (some x2.2.2.2.2.2.2.1), .slice x2.2.2.2.2.2.2.2.1.1 r1p0.2.2.2.2.2.2.2.1.length x2.2.2.2.2.2.2.2.1.2, .bool r1p0.2.2.2.2.2.1.2.1, .int .i64 r1p0.2.2.2.2.2.1.2.2.1, .int .i64 r1p0.2.2.2.2.2.1.2.2.2.1, .int .u64 r1p0.2.2.2.2.2.1.2.2.2.2.1, .int .i64 r1p0.2.2.2.2.2.1.2.2.2.2.2.1, .int .i64 r1p0.2.2.2.2.2.1.2.2.2.2.2.2] :: Mp (Elt.slice E8) x2.2.2.2.2.2.2.1 r1p0.2.2.2.2.2.2.1 :: Bf (Elt.pair E64 (Elt.slice E8)) 147 x2.2.2.2.2.2.2.2.1.1 x2.2.2.2.2.2.2.2.1.2 r1p0.2.2.2.2.2.2.2.1 :: Mp E64 x2.2.2.2.2.2.2.2.2.1 r1p0.2.2.2.2.2.2.2.2.1 :: Mp E64 x2.2.2.2.2.2.2.2.2.2.1 r1p0.2.2.2.2.2.2.2.2.2.1 :: Bf (Elt.pair (Elt.pair E64 (Elt.pair (Elt.slice E8) (Elt.slice E8))) EBool) 91 x16.1 x16.2 r7.2.2 :: Cl b1 28 [.int .i64 s2.2.1, .int .i64 s2.2.2.1, .int .i64 s2.2.2.2.1] :: Cl b4 28 [.int .i64 r8.1.1, .int .i64 r8.1.2.1, .int .i64 r8.1.2.2] :: hs) (fun s10 => law19_LeasePlays.k8 r1p0 s2 r7 r8 s10 = some o1) (fun s10 x20 hk8 => ?_) (fun J8 => ?_)
          ·unfold law19_LeasePlays.k8 at hk8
           refine T.cond rfl (fun hb10 => ?_) (fun hb10 => ?_)
           ·replace hk8 := inv_posB hb10 hk8
            refine T.seq ?_
            refine T.region ?_
            refine T.assign .list rfl (wants0 rfl) rfl rfl ?_
            refine T.nil ?_
            refine T.then_normal ?_
            refine T.ret ?_
            refine T.then_ret ?_
            refine T.in_ret ?_
            refine T.then_ret ?_
            refine T.in_ret ?_
            refine T.then_ret ?_
            refine T.then_ret ?_
            obtain rfl := inv_some hk8
            obtain rfl := hx1 _ rfl
            refine T.in_ret ?_
            refine T.then_ret ?_
            obtain rfl := inv_some hr
            refine T.pick [] 14 rfl rfl (Nat.le_add_left _ _) rfl ?_
            refine T.ret1 rfl rfl (fun w hS => ⟨(), rfl, hS⟩)
           ·replace hk8 := inv_negB hb10 hk8
            refine T.skip ?_
            refine T.then_normal ?_
            refine T.region ?_
            refine T.loadN .list 13 rfl rfl (wants0 rfl) rfl rfl (vs := [.int .i64 r8.1.1, .int .i64 r8.1.2.1, .int .i64 r8.1.2.2]) rfl rfl ?_
            refine T.store .list 12 rfl rfl (wants0 rfl) rfl rfl rfl rfl (Nat.le_of_ble_eq_true rfl) rfl (cs' := [.int .i64 r8.1.1, .int .i64 r8.1.2.1, .int .i64 r8.1.2.2]) rfl rfl ?_
            refine T.nil ?_
            refine T.in_normal ?_
            refine T.then_normal ?_
            exact T.le (EnvLe.cons rfl (EnvLe.cons rfl (EnvLe.cons rfl (EnvLe.cons rfl EnvLe.nil)))) (T.pick [0, 1, 2, 3, 4, 5, 6, 7, 8, 9, 10, 11, 12] 14 rfl rfl (Nat.le_add_left _ _) rfl (J4 (r7.2.2, r8.1.1, r8.1.2.1, r8.1.2.2) (x16.1, x16.2) hk8))
          ·refine T.region ?_
           refine T.move .list rfl (wants0 rfl) rfl rfl ?_
           refine T.bin .list rfl (wants0 rfl) rfl rfl rfl rfl ?_
           refine T.move .list rfl (wants0 rfl) rfl rfl ?_
           refine T.bool (b := (decide (r7.2.1 = 0))) (fun hb11 => ?_) (fun hb11 => ?_)
           ·replace hk6 := inv_posB hb11 hk6
            refine T.move .list rfl (wants1 rfl rfl rfl (not_t hb11)) rfl rfl ?_
            refine T.move .list rfl (wants1 rfl rfl rfl (not_t hb11)) rfl rfl ?_
            refine T.boolNe .list rfl (wants1 rfl rfl rfl (not_t hb11)) rfl rfl rfl (by kernel_rfl) ?_
            refine T.pickF .list rfl (wants0 rfl) rfl rfl (not_t hb11) rfl ?_
            refine T.nil ?_
            refine T.then_normal ?_
            exact T.le (EnvLe.cons rfl (EnvLe.cons rfl (EnvLe.cons rfl (EnvLe.cons rfl (EnvLe.cons rfl (EnvLe.cons rfl EnvLe.nil)))))) (T.pick [1, 2, 3, 4, 5, 6, 7, 8, 9, 10, 11, 12, 13, 0] 15 rfl rfl (Nat.le_add_left _ _) rfl (J8 (!(decide (r7.1 = r8.2))) () hk6))
           ·replace hk6 := inv_negB hb11 hk6
            refine T.leave .list (wantsNot rfl rfl rfl (not_f hb11)) rfl ?_
            refine T.leave .list (wantsNot rfl rfl rfl (not_f hb11)) rfl ?_
            refine T.leave .list (wantsNot rfl rfl rfl (not_f hb11)) rfl ?_
            refine T.pickT .list rfl (wants0 rfl) rfl rfl (not_f hb11) rfl ?_
            refine T.nil ?_
            refine T.then_normal ?_
            exact T.le (EnvLe.cons rfl (EnvLe.cons rfl (EnvLe.cons rfl (EnvLe.cons rfl (EnvLe.cons rfl (EnvLe.cons rfl EnvLe.nil)))))) (T.pick [1, 2, 3, 4, 5, 6, 7, 8, 9, 10, 11, 12, 13, 0] 15 rfl rfl (Nat.le_add_left _ _) rfl (J8 true () hk6))
        ·refine T.region ?_
         refine T.field .list rfl (wants0 rfl) rfl rfl ?_
         refine T.load .list 11 rfl rfl (wants0 rfl) rfl rfl rfl ?_
         refine T.bin .list rfl (wants0 rfl) rfl rfl rfl rfl ?_
         refine T.move .list rfl (wants0 rfl) rfl rfl ?_
         refine T.bool (b := (decide (((((((l0).getD (s2.2.2.2.2 : Int).toNat default)).2.1))) < 0))) (fun hb12 => ?_) (fun hb12 => ?_)
         ·replace hk2 := inv_posB hb12 hk2
          refine T.leave .list (wantsNot rfl rfl rfl hb12) rfl ?_
          refine T.leave .list (wantsNot rfl rfl rfl hb12) rfl ?_
          refine T.leave .list (wantsNot rfl rfl rfl hb12) rfl ?_
          refine T.pickT .list rfl (wants0 rfl) rfl rfl hb12 rfl ?_
          refine T.move .list rfl (wants0 rfl) rfl rfl ?_
          refine T.leave .list (wantsNot rfl rfl rfl rfl) rfl ?_
          refine T.leave .list (wantsNot rfl rfl rfl rfl) rfl ?_
          refine T.leave .list (wantsNot rfl rfl rfl rfl) rfl ?_
          refine T.pickT .list rfl (wants0 rfl) rfl rfl rfl rfl ?_
          refine T.move .list rfl (wants0 rfl) rfl rfl ?_
          refine T.leave .list (wantsNot rfl rfl rfl rfl) rfl ?_
          refine T.leave .list (wantsNot rfl rfl rfl rfl) rfl ?_
          refine T.leave .list (wantsNot rfl rfl rfl rfl) rfl ?_
          refine T.pickT .list rfl (wants0 rfl) rfl rfl rfl rfl ?_
          refine T.move .list rfl (wants0 rfl) rfl rfl ?_
          refine T.leave .list (wantsNot rfl rfl rfl rfl) rfl ?_
          refine T.leave .list (wantsNot rfl rfl rfl rfl) rfl ?_
          refine T.leave .list (wantsNot rfl rfl rfl rfl) rfl ?_
          refine T.pickT .list rfl (wants0 rfl) rfl rfl rfl rfl ?_
          refine T.nil ?_
          refine T.then_normal ?_
          exact T.le (EnvLe.cons rfl (EnvLe.cons rfl (EnvLe.cons rfl (EnvLe.cons rfl (EnvLe.cons rfl (EnvLe.cons rfl (EnvLe.cons rfl (EnvLe.cons rfl EnvLe.nil)))))))) (T.pick [12, 0, 1, 2, 3, 4, 5, 6, 7, 8, 9, 10, 13, 11] 14 rfl rfl (Nat.le_add_left _ _) rfl (J6 true () hk2))
         ·replace hk2 := inv_negB hb12 hk2
          refine T.field .list rfl (wants1 rfl rfl rfl hb12) rfl rfl ?_
          refine T.load .list 11 rfl rfl (wants1 rfl rfl rfl hb12) rfl rfl rfl ?_
          refine T.bin .list rfl (wants1 rfl rfl rfl hb12) rfl rfl rfl rfl ?_
          refine T.pickF .list rfl (wants0 rfl) rfl rfl hb12 rfl ?_
          refine T.move .list rfl (wants0 rfl) rfl rfl ?_
          refine T.bool (b := (decide ((3 : Int) < (((((l0).getD (s2.2.2.2.2 : Int).toNat default)).2.1))))) (fun hb13 => ?_) (fun hb13 => ?_)
          ·replace hk2 := inv_posB hb13 hk2
           refine T.leave .list (wantsNot rfl rfl rfl hb13) rfl ?_
           refine T.leave .list (wantsNot rfl rfl rfl hb13) rfl ?_
           refine T.leave .list (wantsNot rfl rfl rfl hb13) rfl ?_
           refine T.pickT .list rfl (wants0 rfl) rfl rfl hb13 rfl ?_
           refine T.move .list rfl (wants0 rfl) rfl rfl ?_
           refine T.leave .list (wantsNot rfl rfl rfl rfl) rfl ?_
           refine T.leave .list (wantsNot rfl rfl rfl rfl) rfl ?_
           refine T.leave .list (wantsNot rfl rfl rfl rfl) rfl ?_
           refine T.pickT .list rfl (wants0 rfl) rfl rfl rfl rfl ?_
           refine T.move .list rfl (wants0 rfl) rfl rfl ?_
           refine T.leave .list (wantsNot rfl rfl rfl rfl) rfl ?_
           refine T.leave .list (wantsNot rfl rfl rfl rfl) rfl ?_
           refine T.leave .list (wantsNot rfl rfl rfl rfl) rfl ?_
           refine T.pickT .list rfl (wants0 rfl) rfl rfl rfl rfl ?_
           refine T.nil ?_
           refine T.then_normal ?_
           exact T.le (EnvLe.cons rfl (EnvLe.cons rfl (EnvLe.cons rfl (EnvLe.cons rfl (EnvLe.cons rfl (EnvLe.cons rfl (EnvLe.cons rfl (EnvLe.cons rfl EnvLe.nil)))))))) (T.pick [12, 0, 1, 2, 3, 4, 5, 6, 7, 8, 9, 10, 13, 11] 14 rfl rfl (Nat.le_add_left _ _) rfl (J6 true () hk2))
          ·replace hk2 := inv_negB hb13 hk2
           refine T.field .list rfl (wants1 rfl rfl rfl hb13) rfl rfl ?_
           refine T.load .list 11 rfl rfl (wants1 rfl rfl rfl hb13) rfl rfl rfl ?_
           refine T.bin .list rfl (wants1 rfl rfl rfl hb13) rfl rfl rfl rfl ?_
           refine T.pickF .list rfl (wants0 rfl) rfl rfl hb13 rfl ?_
           refine T.move .list rfl (wants0 rfl) rfl rfl ?_
           refine T.bool (b := (decide (((((((l0).getD (s2.2.2.2.2 : Int).toNat default)).2.2.1))) < 1))) (fun hb14 => ?_) (fun hb14 => ?_)
           ·replace hk2 := inv_posB hb14 hk2
            refine T.leave .list (wantsNot rfl rfl rfl hb14) rfl ?_
            refine T.leave .list (wantsNot rfl rfl rfl hb14) rfl ?_
            refine T.leave .list (wantsNot rfl rfl rfl hb14) rfl ?_
            refine T.pickT .list rfl (wants0 rfl) rfl rfl hb14 rfl ?_
            refine T.move .list rfl (wants0 rfl) rfl rfl ?_
            refine T.leave .list (wantsNot rfl rfl rfl rfl) rfl ?_
            refine T.leave .list (wantsNot rfl rfl rfl rfl) rfl ?_
            refine T.leave .list (wantsNot rfl rfl rfl rfl) rfl ?_
            refine T.pickT .list rfl (wants0 rfl) rfl rfl rfl rfl ?_
            refine T.nil ?_
            refine T.then_normal ?_
            exact T.le (EnvLe.cons rfl (EnvLe.cons rfl (EnvLe.cons rfl (EnvLe.cons rfl (EnvLe.cons rfl (EnvLe.cons rfl (EnvLe.cons rfl (EnvLe.cons rfl EnvLe.nil)))))))) (T.pick [12, 0, 1, 2, 3, 4, 5, 6, 7, 8, 9, 10, 13, 11] 14 rfl rfl (Nat.le_add_left _ _) rfl (J6 true () hk2))
           ·replace hk2 := inv_negB hb14 hk2
            refine T.field .list rfl (wants1 rfl rfl rfl hb14) rfl rfl ?_
            refine T.load .list 11 rfl rfl (wants1 rfl rfl rfl hb14) rfl rfl rfl ?_
            refine T.bin .list rfl (wants1 rfl rfl rfl hb14) rfl rfl rfl rfl ?_
            refine T.pickF .list rfl (wants0 rfl) rfl rfl hb14 rfl ?_
            refine T.move .list rfl (wants0 rfl) rfl rfl ?_
            refine T.bool (b := (decide ((1048576 : Int) < (((((l0).getD (s2.2.2.2.2 : Int).toNat default)).2.2.1))))) (fun hb15 => ?_) (fun hb15 => ?_)
            ·replace hk2 := inv_posB hb15 hk2
             refine T.leave .list (wantsNot rfl rfl rfl hb15) rfl ?_
             refine T.leave .list (wantsNot rfl rfl rfl hb15) rfl ?_
             refine T.leave .list (wantsNot rfl rfl rfl hb15) rfl ?_
             refine T.pickT .list rfl (wants0 rfl) rfl rfl hb15 rfl ?_
             refine T.nil ?_
             refine T.then_normal ?_
             exact T.le (EnvLe.cons rfl (EnvLe.cons rfl (EnvLe.cons rfl (EnvLe.cons rfl (EnvLe.cons rfl (EnvLe.cons rfl (EnvLe.cons rfl (EnvLe.cons rfl EnvLe.nil)))))))) (T.pick [12, 0, 1, 2, 3, 4, 5, 6, 7, 8, 9, 10, 13, 11] 14 rfl rfl (Nat.le_add_left _ _) rfl (J6 true () hk2))
            ·replace hk2 := inv_negB hb15 hk2
             refine T.field .list rfl (wants1 rfl rfl rfl hb15) rfl rfl ?_
             refine T.load .list 11 rfl rfl (wants1 rfl rfl rfl hb15) rfl rfl rfl ?_
             refine T.bin .list rfl (wants1 rfl rfl rfl hb15) rfl rfl rfl rfl ?_
             refine T.pickF .list rfl (wants0 rfl) rfl rfl hb15 rfl ?_
             refine T.nil ?_
             refine T.then_normal ?_
             exact T.le (EnvLe.cons rfl (EnvLe.cons rfl (EnvLe.cons rfl (EnvLe.cons rfl (EnvLe.cons rfl (EnvLe.cons rfl (EnvLe.cons rfl (EnvLe.cons rfl EnvLe.nil)))))))) (T.pick [12, 0, 1, 2, 3, 4, 5, 6, 7, 8, 9, 10, 13, 11] 14 rfl rfl (Nat.le_add_left _ _) rfl (J6 (decide (((((((l0).getD (s2.2.2.2.2 : Int).toNat default)).2.2.2))) < 0)) () hk2))
       ·replace hk2 := inv_negB hb6 hk2
        refine T.seq ?_
        refine T.region ?_
        refine T.bin .list rfl (wants0 rfl) rfl rfl rfl rfl ?_
        refine T.assign .list rfl (wants0 rfl) rfl rfl ?_
        refine T.nil ?_
        refine T.then_normal ?_
        refine T.cond rfl (fun hb16 => ?_) (fun hb16 => ?_)
        ·replace hk2 := inv_posB hb16 hk2
         refine T.seq ?_
         refine T.region ?_
         refine T.move .list rfl (wants0 rfl) rfl rfl ?_
         refine T.field .list rfl (wants0 rfl) rfl rfl ?_
         refine T.load .list 0 rfl rfl (wants0 rfl) rfl rfl rfl ?_
         refine T.pick [2, 3, 4, 5, 6, 7, 8, 9, 10, 11, 12, 0, 1, 13] 14 rfl rfl (Nat.le_add_left _ _) (hs' := Cl x2.1 88 [.pointer (some ⟨x2.2.1, 0, none⟩), .slice x6.1 s2.1.length x6.2] :: Cl x2.2.1 80 [.pointer (some ⟨x2.2.2.1, 0, none⟩), .int .i64 r1p0.2.1.1, .int .i64 r1p0.2.1.2.1, .int .i64 r1p0.2.1.2.2.1, .int .i64 r1p0.2.1.2.2.2.1, .int .i64 r1p0.2.1.2.2.2.2.1, .int .i64 r1p0.2.1.2.2.2.2.2.1, .int .i64 r1p0.2.1.2.2.2.2.2.2.1, .int .i64 r1p0.2.1.2.2.2.2.2.2.2.1, .int .i64 r1p0.2.1.2.2.2.2.2.2.2.2.1, .int .i64 r1p0.2.1.2.2.2.2.2.2.2.2.2.1, .int .i64 r1p0.2.1.2.2.2.2.2.2.2.2.2.2.1, .int .i64 r1p0.2.1.2.2.2.2.2.2.2.2.2.2.2.1, .int .i64 r1p0.2.1.2.2.2.2.2.2.2.2.2.2.2.2.1, .int .i64 r1p0.2.1.2.2.2.2.2.2.2.2.2.2.2.2.2.1, .int .i64 r1p0.2.1.2.2.2.2.2.2.2.2.2.2.2.2.2.2.1, .int .i64 r1p0.2.1.2.2.2.2.2.2.2.2.2.2.2.2.2.2.2.1, .int .i64 r1p0.2.1.2.2.2.2.2.2.2.2.2.2.2.2.2.2.2.2] :: Cl x2.2.2.1 103 [.pointer (some ⟨x2.2.2.2.1, 0, none⟩), .nilIface, .int .i64 r1p0.2.2.1.1, .int .i64 r1p0.2.2.1.2.1, .nilIface, .int .i64 r1p0.2.2.1.2.2.1, .int .i64 r1p0.2.2.1.2.2.2, .map (some x2.2.2.2.2.2.2.2.2.1), .slice none 0 0, .slice none 0 0, .map (some x2.2.2.2.2.2.2.2.2.2.1)] :: Cl x2.2.2.2.1 124 [.int .i64 r1p0.2.2.2.1.1, .map (some x2.2.2.2.2.1), .pointer (some ⟨x2.2.2.2.2.2.1, 0, none⟩), .int .i64 r1p0.2.2.2.1.2.1, .int .u64 r1p0.2.2.2.1.2.2.1, .int .i64 r1p0.2.2.2.1.2.2.2] :: Mp E64 x2.2.2.2.2.1 r1p0.2.2.2.2.1 :: Cl x2.2.2.2.2.2.1 74 [.int .i64 r1p0.2.2.2.2.2.1.1, .map (some x2.2.2.2.2.2.2.1), .slice x2.2.2.2.2.2.2.2.1.1 r1p0.2.2.2.2.2.2.2.1.length x2.2.2.2.2.2.2.2.1.2, .bool r1p0.2.2.2.2.2.1.2.1, .int .i64 r1p0.2.2.2.2.2.1.2.2.1, .int .i64 r1p0.2.2.2.2.2.1.2.2.2.1, .int .u64 r1p0.2.2.2.2.2.1.2.2.2.2.1, .int .i64 r1p0.2.2.2.2.2.1.2.2.2.2.2.1, .int .i64 r1p0.2.2.2.2.2.1.2.2.2.2.2.2] :: Mp (Elt.slice E8) x2.2.2.2.2.2.2.1 r1p0.2.2.2.2.2.2.1 :: Bf (Elt.pair E64 (Elt.slice E8)) 147 x2.2.2.2.2.2.2.2.1.1 x2.2.2.2.2.2.2.2.1.2 r1p0.2.2.2.2.2.2.2.1 :: Mp E64 x2.2.2.2.2.2.2.2.2.1 r1p0.2.2.2.2.2.2.2.2.1 :: Mp E64 x2.2.2.2.2.2.2.2.2.2.1 r1p0.2.2.2.2.2.2.2.2.2.1 :: Bf (Elt.pair (Elt.pair E64 (Elt.pair (Elt.slice E8) (Elt.slice E8))) EBool) 91 x6.1 x6.2 s2.1 :: Cl b2 31 [.int .i64 (((((l0).getD (s2.2.2.2.2 : Int).toNat default)).1)), .int .i64 (((((l0).getD (s2.2.2.2.2 : Int).toNat default)).2.1)), .int .i64 (((((l0).getD (s2.2.2.2.2 : Int).toNat default)).2.2.1)), .int .i64 (((((l0).getD (s2.2.2.2.2 : Int).toNat default)).2.2.2))] :: Ro (Elt.pair E64 (Elt.pair E64 (Elt.pair E64 E64))) A0 c0 l0 :: Cl b1 28 [.int .i64 s2.2.1, .int .i64 s2.2.2.1, .int .i64 s2.2.2.2.1] :: hs) rfl ?_
         obtain ⟨r9, hg9, hk2⟩ := inv_bind hk2
         refine T.call .list (wants0 rfl) rfl (run_callF (vs := [_, _]) rfl Try.func11 rfl (by decide) rfl) (fun w hS => lease_End.c hS (o0a := (r1p0.2.1.1, r1p0.2.1.2.1, r1p0.2.1.2.2.1, r1p0.2.1.2.2.2.1, r1p0.2.1.2.2.2.2.1, r1p0.2.1.2.2.2.2.2.1, r1p0.2.1.2.2.2.2.2.2.1, r1p0.2.1.2.2.2.2.2.2.2.1, r1p0.2.1.2.2.2.2.2.2.2.2.1, r1p0.2.1.2.2.2.2.2.2.2.2.2.1, r1p0.2.1.2.2.2.2.2.2.2.2.2.2.1, r1p0.2.1.2.2.2.2.2.2.2.2.2.2.2.1, r1p0.2.1.2.2.2.2.2.2.2.2.2.2.2.2.1, r1p0.2.1.2.2.2.2.2.2.2.2.2.2.2.2.2.1, r1p0.2.1.2.2.2.2.2.2.2.2.2.2.2.2.2.2.1, r1p0.2.1.2.2.2.2.2.2.2.2.2.2.2.2.2.2.2.1, r1p0.2.1.2.2.2.2.2.2.2.2.2.2.2.2.2.2.2.2)) (o0aa := (r1p0.2.2.1.1, r1p0.2.2.1.2.1, r1p0.2.2.1.2.2.1, r1p0.2.2.1.2.2.2)) (o0aaa := (r1p0.2.2.2.1.1, r1p0.2.2.2.1.2.1, r1p0.2.2.2.1.2.2.1, r1p0.2.2.2.1.2.2.2)) (q0aaab := r1p0.2.2.2.2.1) (o0aaac := (r1p0.2.2.2.2.2.1.1, r1p0.2.2.2.2.2.1.2.1, r1p0.2.2.2.2.2.1.2.2.1, r1p0.2.2.2.2.2.1.2.2.2.1, r1p0.2.2.2.2.2.1.2.2.2.2.1, r1p0.2.2.2.2.2.1.2.2.2.2.2.1, r1p0.2.2.2.2.2.1.2.2.2.2.2.2)) (q0aaacb := r1p0.2.2.2.2.2.2.1) (q0aaacc := r1p0.2.2.2.2.2.2.2.1) (q0aah := r1p0.2.2.2.2.2.2.2.2.1) (q0aak := r1p0.2.2.2.2.2.2.2.2.2.1) (q0b := s2.1)  hg9) (fun x21 => ?_)
         refine T.move .list rfl (wants0 rfl) rfl rfl ?_
         refine T.extract .list rfl (wants0 rfl) rfl rfl rfl ?_
         refine T.extract .list rfl (wants0 rfl) rfl rfl rfl ?_
         refine T.assign .list rfl (wants0 rfl) rfl rfl ?_
         refine T.assign .list rfl (wants0 rfl) rfl rfl ?_
         refine T.nil ?_
         refine T.then_normal ?_
         refine T.seq ?_
         refine T.region ?_
         refine T.loadN .list 13 rfl rfl (wants0 rfl) rfl rfl (vs := [.int .i64 s2.2.1, .int .i64 s2.2.2.1, .int .i64 s2.2.2.2.1]) rfl rfl ?_
         refine T.field .list rfl (wants0 rfl) rfl rfl ?_
         refine T.load .list 11 rfl rfl (wants0 rfl) rfl rfl rfl ?_
         obtain ⟨r10, hg10, hk2⟩ := inv_bind hk2
         refine T.call .list (wants0 rfl) rfl (run_callF (vs := [_, _]) rfl Try.func12 rfl (by decide) rfl) (fun w hS => ref19_End.c hS (a0 := (s2.2.1, s2.2.2.1, s2.2.2.2.1))  hg10) (fun x22 => ?_)
         refine T.move .list rfl (wants0 rfl) rfl rfl ?_
         refine T.extract .list rfl (wants0 rfl) rfl rfl rfl ?_
         refine T.extract .list rfl (wants0 rfl) rfl rfl rfl ?_
         refine T.allocS .list rfl (wants0 rfl) rfl (cs := [.int .i64 0, .int .i64 0, .int .i64 0]) rfl (fun b5 => ?_)
         refine T.store .list 0 rfl rfl (wants0 rfl) rfl rfl rfl rfl (Nat.le_of_ble_eq_true rfl) rfl (cs' := [.int .i64 r10.1.1, .int .i64 r10.1.2.1, .int .i64 r10.1.2.2]) rfl rfl ?_
         refine T.assign .list rfl (wants0 rfl) rfl rfl ?_
         refine T.nil ?_
         refine T.then_normal ?_
         refine T.seq ?_
         refine T.seqJ (fun (s11 : Bool) (x23 : Unit) => [(0, .slice A0 l0.length c0), (3, .pointer (some ⟨x2.1, 0, none⟩)), (5, .pointer (some ⟨b1, 0, none⟩)), (6, .int .i64 s2.2.2.2.2), (14, .pointer (some ⟨b5, 0, none⟩)), (124, .bool s11)]) (fun s11 x23 => Ro (Elt.pair E64 (Elt.pair E64 (Elt.pair E64 E64))) A0 c0 l0 :: Cl x2.1 88 [.pointer (some ⟨x2.2.1, 0, none⟩), .slice x21.1 r9.2.2.length x21.2] :: Cl x2.2.1 80 [.pointer (some ⟨x2.2.2.1, 0, none⟩), .int .i64 r1p0.2.1.1, .int .i64 r1p0.2.1.2.1, .int .i64 r1p0.2.1.2.2.1, .int .i64 r1p0.2.1.2.2.2.1, .int .i64 r1p0.2.1.2.2.2.2.1, .int .i64 r1p0.2.1.2.2.2.2.2.1, .int .i64 r1p0.2.1.2.2.2.2.2.2.1, .int .i64 r1p0.2.1.2.2.2.2.2.2.2.1, .int .i64 r1p0.2.1.2.2.2.2.2.2.2.2.1, .int .i64 r1p0.2.1.2.2.2.2.2.2.2.2.2.1, .int .i64 r1p0.2.1.2.2.2.2.2.2.2.2.2.2.1, .int .i64 r1p0.2.1.2.2.2.2.2.2.2.2.2.2.2.1, .int .i64 r1p0.2.1.2.2.2.2.2.2.2.2.2.2.2.2.1, .int .i64 r1p0.2.1.2.2.2.2.2.2.2.2.2.2.2.2.2.1, .int .i64 r1p0.2.1.2.2.2.2.2.2.2.2.2.2.2.2.2.2.1, .int .i64 r1p0.2.1.2.2.2.2.2.2.2.2.2.2.2.2.2.2.2.1, .int .i64 r1p0.2.1.2.2.2.2.2.2.2.2.2.2.2.2.2.2.2.2] :: Cl x2.2.2.1 103 [.pointer (some ⟨x2.2.2.2.1, 0, none⟩), .nilIface, .int .i64 r1p0.2.2.1.1, .int .i64 r1p0.2.2.1.2.1, .nilIface, .int .i64 r1p0.2.2.1.2.2.1, .int .i64 r1p0.2.2.1.2.2.2, .map (some x2.2.2.2.2.2.2.2.2.1), .slice none 0 0, .slice none 0 0, .map (some x2.2.2.2.2.2.2.2.2.2.1)] :: Cl x2.2.2.2.1 124 [.int .i64 r1p0.2.2.2.1.1, .map (some x2.2.2.2.2.1), .pointer (some ⟨x2.2.2.2.2.2.1, 0, none⟩), .int .i64 r1p0.2.2.2.1.2.1, .int .u64 r1p0.2.2.2.1.2.2.1, .int .i64 r1p0.2.2.2.1.2.2.2] :: Mp E64 x2.2.2.2.2.1 r1p0.2.2.2.2.1 :: Cl x2.2.2.2.2.2.1 74 [.int .i64 r1p0.2.2.2.2.2.1.1, .map (some x2.2.2.2.2.2.2.1), .slice x2.2.2.2.2.2.2.2.1.1 r1p0.2.2.2.2.2.2.2.1.length x2.2.2.2.2.2.2.2.1.2, .bool r1p0.2.2.2.2.2.1.2.1, .int .i64 r1p0.2.2.2.2.2.1.2.2.1, .int .i64 r1p0.2.2.2.2.2.1.2.2.2.1, .int .u64 r1p0.2.2.2.2.2.1.2.2.2.2.1, .int .i64 r1p0.2.2.2.2.2.1.2.2.2.2.2.1, .int .i64 r1p0.2.2.2.2.2.1.2.2.2.2.2.2] :: Mp (Elt.slice E8) x2.2.2.2.2.2.2.1 r1p0.2.2.2.2.2.2.1 :: Bf (Elt.pair E64 (Elt.slice E8)) 147 x2.2.2.2.2.2.2.2.1.1 x2.2.2.2.2.2.2.2.1.2 r1p0.2.2.2.2.2.2.2.1 :: Mp E64 x2.2.2.2.2.2.2.2.2.1 r1p0.2.2.2.2.2.2.2.2.1 :: Mp E64 x2.2.2.2.2.2.2.2.2.2.1 r1p0.2.2.2.2.2.2.2.2.2.1 :: Bf (Elt.pair (Elt.pair E64 (Elt.pair (Elt.slice E8) (Elt.slice E8))) EBool) 91 x21.1 x21.2 r9.2.2 :: Cl b1 28 [.int .i64 s2.2.1, .int .i64 s2.2.2.1, .int .i64 s2.2.2.2.1] :: Cl b5 28 [.int .i64 r10.1.1, .int .i64 r10.1.2.1, .int .i64 r10.1.2.2] :: hs) (fun s11 => law19_LeasePlays.k9 r1p0 s2 r9 r10 s11 = some o1) (fun s11 x23 hk9 => ?_) (fun J9 => ?_)
         ·unfold law19_LeasePlays.k9 at hk9
          refine T.cond rfl (fun hb17 => ?_) (fun hb17 => ?_)
          ·replace hk9 := inv_posB hb17 hk9
           refine T.seq ?_
           refine T.region ?_
           refine T.assign .list rfl (wants0 rfl) rfl rfl ?_
           refine T.nil ?_
           refine T.then_normal ?_
           refine T.ret ?_
           refine T.then_ret ?_
           refine T.in_ret ?_
           refine T.then_ret ?_
           refine T.in_ret ?_
           refine T.then_ret ?_
           refine T.then_ret ?_
           obtain rfl := inv_some hk9
           obtain rfl := hx1 _ rfl
           refine T.in_ret ?_
           refine T.then_ret ?_
           obtain rfl := inv_some hr
           refine T.pick [] 14 rfl rfl (Nat.le_add_left _ _) rfl ?_
           refine T.ret1 rfl rfl (fun w hS => ⟨(), rfl, hS⟩)
          ·replace hk9 := inv_negB hb17 hk9
           refine T.skip ?_
           refine T.then_normal ?_
           refine T.region ?_
           refine T.loadN .list 13 rfl rfl (wants0 rfl) rfl rfl (vs := [.int .i64 r10.1.1, .int .i64 r10.1.2.1, .int .i64 r10.1.2.2]) rfl rfl ?_
           refine T.store .list 12 rfl rfl (wants0 rfl) rfl rfl rfl rfl (Nat.le_of_ble_eq_true rfl) rfl (cs' := [.int .i64 r10.1.1, .int .i64 r10.1.2.1, .int .i64 r10.1.2.2]) rfl rfl ?_
           refine T.nil ?_
           refine T.in_normal ?_
           refine T.then_normal ?_
           exact T.le (EnvLe.cons rfl (EnvLe.cons rfl (EnvLe.cons rfl (EnvLe.cons rfl EnvLe.nil)))) (T.pick [0, 1, 2, 3, 4, 5, 6, 7, 8, 9, 10, 11, 12] 14 rfl rfl (Nat.le_add_left _ _) rfl (J4 (r9.2.2, r10.1.1, r10.1.2.1, r10.1.2.2) (x21.1, x21.2) hk9))
         ·refine T.region ?_
          refine T.move .list rfl (wants0 rfl) rfl rfl ?_
          refine T.bin .list rfl (wants0 rfl) rfl rfl rfl rfl ?_
          refine T.move .list rfl (wants0 rfl) rfl rfl ?_
          refine T.bool (b := (decide (r9.2.1 = 0))) (fun hb18 => ?_) (fun hb18 => ?_)
          ·replace hk2 := inv_posB hb18 hk2
           refine T.move .list rfl (wants1 rfl rfl rfl (not_t hb18)) rfl rfl ?_
           refine T.move .list rfl (wants1 rfl rfl rfl (not_t hb18)) rfl rfl ?_
           refine T.boolNe .list rfl (wants1 rfl rfl rfl (not_t hb18)) rfl rfl rfl (by kernel_rfl) ?_
           refine T.pickF .list rfl (wants0 rfl) rfl rfl (not_t hb18) rfl ?_
           refine T.nil ?_
           refine T.then_normal ?_
           exact T.le (EnvLe.cons rfl (EnvLe.cons rfl (EnvLe.cons rfl (EnvLe.cons rfl (EnvLe.cons rfl (EnvLe.cons rfl EnvLe.nil)))))) (T.pick [13, 1, 2, 3, 4, 5, 6, 7, 8, 9, 10, 11, 14, 0] 15 rfl rfl (Nat.le_add_left _ _) rfl (J9 (!(decide (r9.1 = r10.2))) () hk2))
          ·replace hk2 := inv_negB hb18 hk2
           refine T.leave .list (wantsNot rfl rfl rfl (not_f hb18)) rfl ?_
           refine T.leave .list (wantsNot rfl rfl rfl (not_f hb18)) rfl ?_
           refine T.leave .list (wantsNot rfl rfl rfl (not_f hb18)) rfl ?_
           refine T.pickT .list rfl (wants0 rfl) rfl rfl (not_f hb18) rfl ?_
           refine T.nil ?_
           refine T.then_normal ?_
           exact T.le (EnvLe.cons rfl (EnvLe.cons rfl (EnvLe.cons rfl (EnvLe.cons rfl (EnvLe.cons rfl (EnvLe.cons rfl EnvLe.nil)))))) (T.pick [13, 1, 2, 3, 4, 5, 6, 7, 8, 9, 10, 11, 14, 0] 15 rfl rfl (Nat.le_add_left _ _) rfl (J9 true () hk2))
        ·replace hk2 := inv_negB hb16 hk2
         refine T.skip ?_
         refine T.in_normal ?_
         refine T.then_normal ?_
         exact T.le (EnvLe.cons rfl (EnvLe.cons rfl (EnvLe.cons rfl (EnvLe.cons rfl EnvLe.nil)))) (T.pick [1, 2, 3, 4, 5, 6, 7, 8, 9, 10, 11, 12, 13] 14 rfl rfl (Nat.le_add_left _ _) rfl (J4 (s2.1, s2.2.1, s2.2.2.1, s2.2.2.2.1) (x6.1, x6.2) hk2))
    ·replace hk2 := inv_negB hb1 hk2
     refine T.exit ?_
     refine T.then_exit ?_
     refine T.then_exit ?_
     obtain rfl := inv_some hk2
     obtain rfl := hx1 _ rfl
     refine T.in_hit ?_
     refine T.then_normal ?_
     exact T.le EnvLe.nil (T.pick [] 13 rfl rfl (Nat.le_add_left _ _) rfl (J1 () () hr))
   ·refine T.region ?_
    refine T.move .list rfl (wants0 rfl) rfl rfl ?_
    refine T.move .list rfl (wants0 rfl) rfl rfl ?_
    refine T.lenSlice .list rfl (wants0 rfl) rfl rfl ?_
    refine T.bin .list rfl (wants0 rfl) rfl rfl rfl rfl ?_
    refine T.move .list rfl (wants0 rfl) rfl rfl ?_
    refine T.bool (b := (decide (s2.2.2.2.2 < ((l0.length : Int))))) (fun hb19 => ?_) (fun hb19 => ?_)
    ·replace he1 := inv_posB hb19 he1
     refine T.move .list rfl (wants1 rfl rfl rfl hb19) rfl rfl ?_
     refine T.bin .list rfl (wants1 rfl rfl rfl hb19) rfl rfl rfl rfl ?_
     refine T.pickT .list rfl (wants0 rfl) rfl rfl hb19 rfl ?_
     refine T.nil ?_
     refine T.then_normal ?_
     exact T.le (EnvLe.cons rfl (EnvLe.cons rfl (EnvLe.cons rfl (EnvLe.cons rfl (EnvLe.cons rfl EnvLe.nil))))) (T.pick [0, 1, 2, 3, 4, 5, 6, 7, 8, 9, 10, 11, 12] 13 rfl rfl (Nat.le_add_left _ _) rfl (J2 (decide (s2.2.2.2.2 < 60)) () he1))
    ·replace he1 := inv_negB hb19 he1
     refine T.leave .list (wantsNot rfl rfl rfl hb19) rfl ?_
     refine T.leave .list (wantsNot rfl rfl rfl hb19) rfl ?_
     refine T.pickF .list rfl (wants0 rfl) rfl rfl hb19 rfl ?_
     refine T.nil ?_
     refine T.then_normal ?_
     exact T.le (EnvLe.cons rfl (EnvLe.cons rfl (EnvLe.cons rfl (EnvLe.cons rfl (EnvLe.cons rfl EnvLe.nil))))) (T.pick [0, 1, 2, 3, 4, 5, 6, 7, 8, 9, 10, 11, 12] 13 rfl rfl (Nat.le_add_left _ _) rfl (J2 false () he1))
end Go.Proofs.Ytodijocajcohjaa
