/- DiskF: what the functions compute, and that the program computes it; printed by a program of ours. -/
import Derived.Test.YtfdogeebkbaadaaDiskT
set_option linter.unusedVariables false
set_option linter.unusedSimpArgs false
namespace Go.Proofs.Ytfdogeebkbaadaa
open Go.RowKit
noncomputable def law3_DiskFlushed.k1 (s1 : Unit) : Option Bool :=
  (law3_told.impl ).bind fun r2 => some r2
noncomputable def law3_DiskFlushed.k3 (s2 : Int × (List (Int × (List UInt8))) × (List (Int × (List UInt8))) × Bool × Int × Int × Int × Int × Int × List (List UInt8) × Int) (l0 : List (Int × Int × Int × (List UInt8) × (Int × Int × Int × Int))) (s4 : Int × (List (Int × (List UInt8))) × (List (Int × (List UInt8))) × Bool × Int × Int × Int × Int × Int) : Option ((Int × (List (Int × (List UInt8))) × (List (Int × (List UInt8))) × Bool × Int × Int × Int × Int × Int × List (List UInt8) × Int) ⊕ (Bool ⊕ Unit)) :=
  some (.inl (s4.1, s4.2.1, s4.2.2.1, s4.2.2.2.1, s4.2.2.2.2.1, s4.2.2.2.2.2.1, s4.2.2.2.2.2.2.1, s4.2.2.2.2.2.2.2.1, s4.2.2.2.2.2.2.2.2, ((s2.2.2.2.2.2.2.2.2.2.1).set ((0 + (bitsOf .and .i64 (((((l0).getD (s2.2.2.2.2.2.2.2.2.2.2 : Int).toNat default)).2.1)) 3 : Int).toNat * 1)) (subl (((((l0).getD (s2.2.2.2.2.2.2.2.2.2.2 : Int).toNat default)).2.2.2.1)) 0 (min (((((((l0).getD (s2.2.2.2.2.2.2.2.2.2.2 : Int).toNat default)).2.2.2.1)).length : Int)) 40))), IntKind.i64.wrap (s2.2.2.2.2.2.2.2.2.2.2 + 1)))
noncomputable def law3_DiskFlushed.k5 (s6 : Int) (s7 : Bool) : Option (Int ⊕ (Bool ⊕ (Int × (List (Int × (List UInt8))) × (List (Int × (List UInt8))) × Bool × Int × Int × Int × Int × Int))) :=
  (if s7 = true then some (.inr (.inl false)) else some (.inl (IntKind.i64.wrap (s6 + 1))))
noncomputable def law3_DiskFlushed.st2 (r4 : (Int × Bool × Int × Int × Int × Int × Int)) (r3 : (Int × Bool × Int × Int × Int × Int × Int) × (List (Int × (List UInt8))) × (List (Int × (List UInt8)))) (s2 : Int × (List (Int × (List UInt8))) × (List (Int × (List UInt8))) × Bool × Int × Int × Int × Int × Int × List (List UInt8) × Int) (l0 : List (Int × Int × Int × (List UInt8) × (Int × Int × Int × Int))) (s6 : Int) : Option (Int ⊕ (Bool ⊕ (Int × (List (Int × (List UInt8))) × (List (Int × (List UInt8))) × Bool × Int × Int × Int × Int × Int))) :=
  (if ((decide (s6 < 4))) = true then (disk_Disk_Read.impl ((r4.1, r4.2.1, r4.2.2.1, r4.2.2.2.1, r4.2.2.2.2.1, r4.2.2.2.2.2.1, r4.2.2.2.2.2.2)) r3.2.1 r3.2.2 s6).bind fun r5 => (if ((decide (r5.2 = 0))) = true then (if ((decide ((((r5.1.length : Int))) < 64))) = true then law3_DiskFlushed.k5 s6 true else chk (0 ≤ s6 ∧ s6 < 4) (chk (0 ≤ s6 ∧ s6 < 4) (chk ((0 + (s6 : Int).toNat * 1) < (((s2.2.2.2.2.2.2.2.2.2.1).set ((0 + (bitsOf .and .i64 (((((l0).getD (s2.2.2.2.2.2.2.2.2.2.2 : Int).toNat default)).2.1)) 3 : Int).toNat * 1)) (subl (((((l0).getD (s2.2.2.2.2.2.2.2.2.2.2 : Int).toNat default)).2.2.2.1)) 0 (min (((((((l0).getD (s2.2.2.2.2.2.2.2.2.2.2 : Int).toNat default)).2.2.2.1)).length : Int)) 40)))).length) (chk (0 ≤ (((((((s2.2.2.2.2.2.2.2.2.2.1).set ((0 + (bitsOf .and .i64 (((((l0).getD (s2.2.2.2.2.2.2.2.2.2.2 : Int).toNat default)).2.1)) 3 : Int).toNat * 1)) (subl (((((l0).getD (s2.2.2.2.2.2.2.2.2.2.2 : Int).toNat default)).2.2.2.1)) 0 (min (((((((l0).getD (s2.2.2.2.2.2.2.2.2.2.2 : Int).toNat default)).2.2.2.1)).length : Int)) 40)))).getD ((0 + (s6 : Int).toNat * 1)) default)).length : Int)) ∧ (((((((s2.2.2.2.2.2.2.2.2.2.1).set ((0 + (bitsOf .and .i64 (((((l0).getD (s2.2.2.2.2.2.2.2.2.2.2 : Int).toNat default)).2.1)) 3 : Int).toNat * 1)) (subl (((((l0).getD (s2.2.2.2.2.2.2.2.2.2.2 : Int).toNat default)).2.2.2.1)) 0 (min (((((((l0).getD (s2.2.2.2.2.2.2.2.2.2.2 : Int).toNat default)).2.2.2.1)).length : Int)) 40)))).getD ((0 + (s6 : Int).toNat * 1)) default)).length : Int)) ≤ (r5.1.length : Int)) (chk ((0 + (s6 : Int).toNat * 1) < (((s2.2.2.2.2.2.2.2.2.2.1).set ((0 + (bitsOf .and .i64 (((((l0).getD (s2.2.2.2.2.2.2.2.2.2.2 : Int).toNat default)).2.1)) 3 : Int).toNat * 1)) (subl (((((l0).getD (s2.2.2.2.2.2.2.2.2.2.2 : Int).toNat default)).2.2.2.1)) 0 (min (((((((l0).getD (s2.2.2.2.2.2.2.2.2.2.2 : Int).toNat default)).2.2.2.1)).length : Int)) 40)))).length) ((if ((decide ((subl r5.1 0 (((((((s2.2.2.2.2.2.2.2.2.2.1).set ((0 + (bitsOf .and .i64 (((((l0).getD (s2.2.2.2.2.2.2.2.2.2.2 : Int).toNat default)).2.1)) 3 : Int).toNat * 1)) (subl (((((l0).getD (s2.2.2.2.2.2.2.2.2.2.2 : Int).toNat default)).2.2.2.1)) 0 (min (((((((l0).getD (s2.2.2.2.2.2.2.2.2.2.2 : Int).toNat default)).2.2.2.1)).length : Int)) 40)))).getD ((0 + (s6 : Int).toNat * 1)) default)).length : Int))) = (((((s2.2.2.2.2.2.2.2.2.2.1).set ((0 + (bitsOf .and .i64 (((((l0).getD (s2.2.2.2.2.2.2.2.2.2.2 : Int).toNat default)).2.1)) 3 : Int).toNat * 1)) (subl (((((l0).getD (s2.2.2.2.2.2.2.2.2.2.2 : Int).toNat default)).2.2.2.1)) 0 (min (((((((l0).getD (s2.2.2.2.2.2.2.2.2.2.2 : Int).toNat default)).2.2.2.1)).length : Int)) 40)))).getD ((0 + (s6 : Int).toNat * 1)) default))))) = true then chk (0 ≤ s6 ∧ s6 < 4) (chk ((0 + (s6 : Int).toNat * 1) < (((s2.2.2.2.2.2.2.2.2.2.1).set ((0 + (bitsOf .and .i64 (((((l0).getD (s2.2.2.2.2.2.2.2.2.2.2 : Int).toNat default)).2.1)) 3 : Int).toNat * 1)) (subl (((((l0).getD (s2.2.2.2.2.2.2.2.2.2.2 : Int).toNat default)).2.2.2.1)) 0 (min (((((((l0).getD (s2.2.2.2.2.2.2.2.2.2.2 : Int).toNat default)).2.2.2.1)).length : Int)) 40)))).length) (chk (0 ≤ (((((((s2.2.2.2.2.2.2.2.2.2.1).set ((0 + (bitsOf .and .i64 (((((l0).getD (s2.2.2.2.2.2.2.2.2.2.2 : Int).toNat default)).2.1)) 3 : Int).toNat * 1)) (subl (((((l0).getD (s2.2.2.2.2.2.2.2.2.2.2 : Int).toNat default)).2.2.2.1)) 0 (min (((((((l0).getD (s2.2.2.2.2.2.2.2.2.2.2 : Int).toNat default)).2.2.2.1)).length : Int)) 40)))).getD ((0 + (s6 : Int).toNat * 1)) default)).length : Int)) ∧ (((((((s2.2.2.2.2.2.2.2.2.2.1).set ((0 + (bitsOf .and .i64 (((((l0).getD (s2.2.2.2.2.2.2.2.2.2.2 : Int).toNat default)).2.1)) 3 : Int).toNat * 1)) (subl (((((l0).getD (s2.2.2.2.2.2.2.2.2.2.2 : Int).toNat default)).2.2.2.1)) 0 (min (((((((l0).getD (s2.2.2.2.2.2.2.2.2.2.2 : Int).toNat default)).2.2.2.1)).length : Int)) 40)))).getD ((0 + (s6 : Int).toNat * 1)) default)).length : Int)) < (r5.1.length : Int)) (law3_DiskFlushed.k5 s6 (!(decide ((((((r5.1).getD (((((((s2.2.2.2.2.2.2.2.2.2.1).set ((0 + (bitsOf .and .i64 (((((l0).getD (s2.2.2.2.2.2.2.2.2.2.2 : Int).toNat default)).2.1)) 3 : Int).toNat * 1)) (subl (((((l0).getD (s2.2.2.2.2.2.2.2.2.2.2 : Int).toNat default)).2.2.2.1)) 0 (min (((((((l0).getD (s2.2.2.2.2.2.2.2.2.2.2 : Int).toNat default)).2.2.2.1)).length : Int)) 40)))).getD ((0 + (s6 : Int).toNat * 1)) default)).length : Int) : Int).toNat default).toNat : Int))) = 0)))))) else law3_DiskFlushed.k5 s6 true))))))) else law3_DiskFlushed.k5 s6 true) else some (.inr (.inr (r4.1, r3.2.1, r3.2.2, r4.2.1, r4.2.2.1, r4.2.2.2.1, r4.2.2.2.2.1, r4.2.2.2.2.2.1, r4.2.2.2.2.2.2))))
noncomputable def law3_DiskFlushed.k4 (l0 : List (Int × Int × Int × (List UInt8) × (Int × Int × Int × Int))) (s2 : Int × (List (Int × (List UInt8))) × (List (Int × (List UInt8))) × Bool × Int × Int × Int × Int × Int × List (List UInt8) × Int) (s5 : Int × (List (Int × (List UInt8))) × (List (Int × (List UInt8))) × Bool × Int × Int × Int × Int × Int × Bool) : Option ((Int × (List (Int × (List UInt8))) × (List (Int × (List UInt8))) × Bool × Int × Int × Int × Int × Int × List (List UInt8) × Int) ⊕ (Bool ⊕ Unit)) :=
  (if s5.2.2.2.2.2.2.2.2.2 = true then some (.inr (.inl false)) else chk (0 ≤ (bitsOf .and .i64 (((((l0).getD (s2.2.2.2.2.2.2.2.2.2.2 : Int).toNat default)).2.1)) 3) ∧ (bitsOf .and .i64 (((((l0).getD (s2.2.2.2.2.2.2.2.2.2.2 : Int).toNat default)).2.1)) 3) < 4) (chk ((0 + (bitsOf .and .i64 (((((l0).getD (s2.2.2.2.2.2.2.2.2.2.2 : Int).toNat default)).2.1)) 3 : Int).toNat * 1) < s2.2.2.2.2.2.2.2.2.2.1.length) ((disk_Disk_Cut.impl ((s5.1, s5.2.2.2.1, s5.2.2.2.2.1, s5.2.2.2.2.2.1, s5.2.2.2.2.2.2.1, s5.2.2.2.2.2.2.2.1, s5.2.2.2.2.2.2.2.2.1)) s5.2.1 s5.2.2.1 (((((((l0).getD (s2.2.2.2.2.2.2.2.2.2.2 : Int).toNat default)).2.2.2.2).1), (((((l0).getD (s2.2.2.2.2.2.2.2.2.2.2 : Int).toNat default)).2.2.2.2).2.1), (((((l0).getD (s2.2.2.2.2.2.2.2.2.2.2 : Int).toNat default)).2.2.2.2).2.2.1), (((((l0).getD (s2.2.2.2.2.2.2.2.2.2.2 : Int).toNat default)).2.2.2.2).2.2.2)))).bind fun r3 => (disk_Disk_Restart.impl ((r3.1.1, r3.1.2.1, r3.1.2.2.1, r3.1.2.2.2.1, r3.1.2.2.2.2.1, r3.1.2.2.2.2.2.1, r3.1.2.2.2.2.2.2)) r3.2.1 r3.2.2).bind fun r4 => (loop (law3_DiskFlushed.st2 r4 r3 s2 l0) 0).bind (fun e2 => match e2 with | .inl v => some (.inr (.inl v)) | .inr v => law3_DiskFlushed.k3 s2 l0 v))))
noncomputable def law3_DiskFlushed.k2 (s2 : Int × (List (Int × (List UInt8))) × (List (Int × (List UInt8))) × Bool × Int × Int × Int × Int × Int × List (List UInt8) × Int) (l0 : List (Int × Int × Int × (List UInt8) × (Int × Int × Int × Int))) (s3 : Bool) : Option ((Int × (List (Int × (List UInt8))) × (List (Int × (List UInt8))) × Bool × Int × Int × Int × Int × Int × List (List UInt8) × Int) ⊕ (Bool ⊕ Unit)) :=
  (if s3 = true then chk (0 ≤ s2.2.2.2.2.2.2.2.2.2.2 ∧ s2.2.2.2.2.2.2.2.2.2.2 < (l0.length : Int)) (chk (0 ≤ (min (((((((l0).getD (s2.2.2.2.2.2.2.2.2.2.2 : Int).toNat default)).2.2.2.1)).length : Int)) 40) ∧ (min (((((((l0).getD (s2.2.2.2.2.2.2.2.2.2.2 : Int).toNat default)).2.2.2.1)).length : Int)) 40) ≤ ((((((l0).getD (s2.2.2.2.2.2.2.2.2.2.2 : Int).toNat default)).2.2.2.1)).length : Int)) ((disk_Disk_Write.impl ((s2.1, s2.2.2.2.1, s2.2.2.2.2.1, s2.2.2.2.2.2.1, s2.2.2.2.2.2.2.1, s2.2.2.2.2.2.2.2.1, s2.2.2.2.2.2.2.2.2.1)) s2.2.1 s2.2.2.1 (bitsOf .and .i64 (((((l0).getD (s2.2.2.2.2.2.2.2.2.2.2 : Int).toNat default)).2.1)) 3) (subl (((((l0).getD (s2.2.2.2.2.2.2.2.2.2.2 : Int).toNat default)).2.2.2.1)) 0 (min (((((((l0).getD (s2.2.2.2.2.2.2.2.2.2.2 : Int).toNat default)).2.2.2.1)).length : Int)) 40))).bind fun r6 => (if ((decide (r6.1 = 0))) = true then (disk_Disk_Flush.impl ((r6.2.1.1, r6.2.1.2.1, r6.2.1.2.2.1, r6.2.1.2.2.2.1, r6.2.1.2.2.2.2.1, r6.2.1.2.2.2.2.2.1, r6.2.1.2.2.2.2.2.2)) r6.2.2.1 r6.2.2.2).bind fun r7 => law3_DiskFlushed.k4 l0 s2 (r7.2.1.1, r7.2.2.1, r7.2.2.2, r7.2.1.2.1, r7.2.1.2.2.1, r7.2.1.2.2.2.1, r7.2.1.2.2.2.2.1, r7.2.1.2.2.2.2.2.1, r7.2.1.2.2.2.2.2.2, (!(decide (r7.1 = 0)))) else law3_DiskFlushed.k4 l0 s2 (r6.2.1.1, r6.2.2.1, r6.2.2.2, r6.2.1.2.1, r6.2.1.2.2.1, r6.2.1.2.2.2.1, r6.2.1.2.2.2.2.1, r6.2.1.2.2.2.2.2.1, r6.2.1.2.2.2.2.2.2, true)))) else some (.inr (.inr ())))
noncomputable def law3_DiskFlushed.st1 (l0 : List (Int × Int × Int × (List UInt8) × (Int × Int × Int × Int))) (s2 : Int × (List (Int × (List UInt8))) × (List (Int × (List UInt8))) × Bool × Int × Int × Int × Int × Int × List (List UInt8) × Int) : Option ((Int × (List (Int × (List UInt8))) × (List (Int × (List UInt8))) × Bool × Int × Int × Int × Int × Int × List (List UInt8) × Int) ⊕ (Bool ⊕ Unit)) :=
  (if ((decide (s2.2.2.2.2.2.2.2.2.2.2 < ((l0.length : Int))))) = true then law3_DiskFlushed.k2 s2 l0 (decide (s2.2.2.2.2.2.2.2.2.2.2 < 30)) else law3_DiskFlushed.k2 s2 l0 false)
noncomputable def law3_DiskFlushed.impl (l0 : List (Int × Int × Int × (List UInt8) × (Int × Int × Int × Int))) : Option Bool :=
  (disk_New.impl 4).bind fun r1 => (match r1 with | (none, r1p1) => (some false) | (some r1p0, r1p1) => ((if ((!(decide (r1p1 = 0)))) = true then some false else (loop (law3_DiskFlushed.st1 l0) (r1p0.1.1, r1p0.2.1, r1p0.2.2, r1p0.1.2.1, r1p0.1.2.2.1, r1p0.1.2.2.2.1, r1p0.1.2.2.2.2.1, r1p0.1.2.2.2.2.2.1, r1p0.1.2.2.2.2.2.2, List.replicate 4 ([] : List UInt8), 0)).bind (fun e1 => match e1 with | .inl v => some v | .inr v => law3_DiskFlushed.k1 v))))
set_option maxRecDepth 100000 in
set_option maxHeartbeats 4000000 in
theorem law3_DiskFlushed.c {B : World} {hs : List MP} {w : World} {i0 c0 : Nat} {A0 : Option Addr} {l0 : List (Int × Int × Int × (List UInt8) × (Int × Int × Int × Int))} (hS : St B (hs) w) (h0 : (hs)[i0]? = some (Ro (Elt.pair E64 (Elt.pair E64 (Elt.pair E64 (Elt.pair (Elt.slice E8) (Elt.pair E64 (Elt.pair EU64 (Elt.pair E64 E64))))))) A0 c0 l0)) {r : Bool} (hr : law3_DiskFlushed.impl l0 = some r) :
    Calls Try.prog 4 #[.slice A0 l0.length c0] w fun e w' => ∃ x : Unit, e = .returned (.bool r) ∧ St B (hs) w' := by
 unfold law3_DiskFlushed.impl at hr
 refine calls_T Try.func4 rfl rfl rfl hS ?_
 refine T.front i0 h0 ?_
 refine T.seq ?_
 refine T.region ?_
 refine T.assign .list rfl (wants0 rfl) rfl rfl ?_
 refine T.nil ?_
 refine T.then_normal ?_
 refine T.seq ?_
 refine T.region ?_
 obtain ⟨r1, hg1, hr⟩ := inv_bind hr
 rcases r1 with ⟨_ | r1p0, r1p1⟩
 ·dsimp only at hr
  refine T.call (v := fun (x1 : (Nat) × (Nat) × (Option Addr × Nat)) => .tuple #[.pointer none, .int .i64 r1p1]) (hs' := fun x1 => Ro (Elt.pair E64 (Elt.pair E64 (Elt.pair E64 (Elt.pair (Elt.slice E8) (Elt.pair E64 (Elt.pair EU64 (Elt.pair E64 E64))))))) A0 c0 l0 :: hs) .list (wants0 rfl) rfl (run_callF (vs := [_]) rfl Try.func9 rfl (by decide) rfl) (fun w hS => disk_New.c hS  hg1) (fun x1 => ?_)
  refine T.move .list rfl (wants0 rfl) rfl rfl ?_
  refine T.extract .list rfl (wants0 rfl) rfl rfl rfl ?_
  refine T.extract .list rfl (wants0 rfl) rfl rfl rfl ?_
  refine T.assign .list rfl (wants0 rfl) rfl rfl ?_
  refine T.assign .list rfl (wants0 rfl) rfl rfl ?_
  refine T.nil ?_
  refine T.then_normal ?_
  refine T.seq ?_
  refine T.seq ?_
  refine T.region ?_
  refine T.move .list rfl (wants0 rfl) rfl rfl ?_
  refine T.ptrEq (pt := 69) .list rfl (wants0 rfl) rfl rfl rfl (by kernel_rfl) (.inr rfl) rfl ?_
  refine T.move .list rfl (wants0 rfl) rfl rfl ?_
  refine T.leave .list (wantsNot rfl rfl rfl rfl) rfl ?_
  refine T.leave .list (wantsNot rfl rfl rfl rfl) rfl ?_
  refine T.pickT .list rfl (wants0 rfl) rfl rfl rfl rfl ?_
  refine T.nil ?_
  refine T.then_normal ?_
  refine T.condT rfl rfl ?_
  refine T.seq ?_
  refine T.region ?_
  refine T.assign .list rfl (wants0 rfl) rfl rfl ?_
  refine T.nil ?_
  refine T.then_normal ?_
  refine T.ret ?_
  refine T.then_ret ?_
  obtain rfl := inv_some hr
  refine T.pick [] 1 rfl rfl (Nat.le_add_left _ _) rfl ?_
  refine T.ret1 rfl rfl (fun w hS => ⟨(), rfl, hS⟩)
 ·dsimp only at hr
  refine T.call (v := fun (x2 : (Nat) × (Nat) × (Option Addr × Nat)) => .tuple #[.pointer (some ⟨x2.1, 0, none⟩), .int .i64 r1p1]) (hs' := fun x2 => Cl x2.1 69 [.int .i64 r1p0.1.1, .map (some x2.2.1), .slice x2.2.2.1 r1p0.2.2.length x2.2.2.2, .bool r1p0.1.2.1, .int .i64 r1p0.1.2.2.1, .int .i64 r1p0.1.2.2.2.1, .int .u64 r1p0.1.2.2.2.2.1, .int .i64 r1p0.1.2.2.2.2.2.1, .int .i64 r1p0.1.2.2.2.2.2.2] :: Mp (Elt.slice E8) x2.2.1 r1p0.2.1 :: Bf (Elt.pair E64 (Elt.slice E8)) 71 x2.2.2.1 x2.2.2.2 r1p0.2.2 :: Ro (Elt.pair E64 (Elt.pair E64 (Elt.pair E64 (Elt.pair (Elt.slice E8) (Elt.pair E64 (Elt.pair EU64 (Elt.pair E64 E64))))))) A0 c0 l0 :: hs) .list (wants0 rfl) rfl (run_callF (vs := [_]) rfl Try.func9 rfl (by decide) rfl) (fun w hS => disk_New.c hS  hg1) (fun x2 => ?_)
  refine T.move .list rfl (wants0 rfl) rfl rfl ?_
  refine T.extract .list rfl (wants0 rfl) rfl rfl rfl ?_
  refine T.extract .list rfl (wants0 rfl) rfl rfl rfl ?_
  refine T.assign .list rfl (wants0 rfl) rfl rfl ?_
  refine T.assign .list rfl (wants0 rfl) rfl rfl ?_
  refine T.nil ?_
  refine T.then_normal ?_
  refine T.seq ?_
  refine T.seq ?_
  refine T.region ?_
  refine T.move .list rfl (wants0 rfl) rfl rfl ?_
  refine T.ptrEq (pt := 69) .list rfl (wants0 rfl) rfl rfl rfl (by kernel_rfl) (.inr rfl) rfl ?_
  refine T.move .list rfl (wants0 rfl) rfl rfl ?_
  refine T.move .list rfl (wants1 rfl rfl rfl rfl) rfl rfl ?_
  refine T.bin .list rfl (wants1 rfl rfl rfl rfl) rfl rfl rfl rfl ?_
  refine T.pickF .list rfl (wants0 rfl) rfl rfl rfl rfl ?_
  refine T.nil ?_
  refine T.then_normal ?_
  refine T.cond rfl (fun hb1 => ?_) (fun hb1 => ?_)
  ·replace hr := inv_posB hb1 hr
   refine T.seq ?_
   refine T.region ?_
   refine T.assign .list rfl (wants0 rfl) rfl rfl ?_
   refine T.nil ?_
   refine T.then_normal ?_
   refine T.ret ?_
   refine T.then_ret ?_
   obtain rfl := inv_some hr
   refine T.pick [] 4 rfl rfl (Nat.le_add_left _ _) rfl ?_
   refine T.ret1 rfl rfl (fun w hS => ⟨(), rfl, hS⟩)
  ·replace hr := inv_negB hb1 hr
   refine T.skip ?_
   refine T.then_normal ?_
   refine T.seq ?_
   refine T.region ?_
   refine T.allocArr 4 str ([] : List UInt8) .list rfl (wants0 rfl) rfl (fun b1 => ?_)
   refine T.nil ?_
   refine T.then_normal ?_
   refine T.seqJ (fun (s1 : Unit) (x3 : Unit) => []) (fun s1 x3 => hs) (fun s1 => law3_DiskFlushed.k1 s1 = some r) (fun s1 x3 hk1 => ?_) (fun J1 => ?_)
   ·unfold law3_DiskFlushed.k1 at hk1
    refine T.seq ?_
    refine T.region ?_
    obtain ⟨r2, hg2, hk1⟩ := inv_bind hk1
    refine T.call .list (wants0 rfl) rfl (run_callF (vs := []) rfl Try.func16 rfl (by decide) rfl) (fun w hS => law3_told.c hS  hg2) (fun x4 => ?_)
    refine T.assign .list rfl (wants0 rfl) rfl rfl ?_
    refine T.nil ?_
    refine T.then_normal ?_
    refine T.ret ?_
    obtain rfl := inv_some hk1
    refine T.pick [] 0 rfl rfl (Nat.le_add_left _ _) rfl ?_
    refine T.ret1 rfl rfl (fun w hS => ⟨(), rfl, hS⟩)
   ·refine T.seq ?_
    refine T.region ?_
    refine T.assign .list rfl (wants0 rfl) rfl rfl ?_
    refine T.nil ?_
    refine T.then_normal ?_
    refine T.block ?_
    obtain ⟨e1, hl1, hr⟩ := inv_bind hr
    refine T.le (EnvLe.cons rfl (EnvLe.cons rfl (EnvLe.cons rfl (EnvLe.cons rfl EnvLe.nil)))) (T.pick [4, 1, 2, 3, 0] 5 rfl rfl (Nat.le_add_left _ _) rfl (T.loop (s0 := (r1p0.1.1, r1p0.2.1, r1p0.2.2, r1p0.1.2.1, r1p0.1.2.2.1, r1p0.1.2.2.2.1, r1p0.1.2.2.2.2.1, r1p0.1.2.2.2.2.2.1, r1p0.1.2.2.2.2.2.2, List.replicate 4 ([] : List UInt8), 0)) (env := fun s2 x5 => [(0, .slice A0 l0.length c0), (3, .pointer (some ⟨x2.1, 0, none⟩)), (5, .pointer (some ⟨b1, 0, none⟩)), (6, .int .i64 s2.2.2.2.2.2.2.2.2.2.2)]) (hs := fun (s2 : Int × (List (Int × (List UInt8))) × (List (Int × (List UInt8))) × Bool × Int × Int × Int × Int × Int × List (List UInt8) × Int) (x5 : (Option Addr × Nat)) => Ro (Elt.pair E64 (Elt.pair E64 (Elt.pair E64 (Elt.pair (Elt.slice E8) (Elt.pair E64 (Elt.pair EU64 (Elt.pair E64 E64))))))) A0 c0 l0 :: Cl x2.1 69 [.int .i64 s2.1, .map (some x2.2.1), .slice x5.1 s2.2.2.1.length x5.2, .bool s2.2.2.2.1, .int .i64 s2.2.2.2.2.1, .int .i64 s2.2.2.2.2.2.1, .int .u64 s2.2.2.2.2.2.2.1, .int .i64 s2.2.2.2.2.2.2.2.1, .int .i64 s2.2.2.2.2.2.2.2.2.1] :: Mp (Elt.slice E8) x2.2.1 s2.2.1 :: Bf (Elt.pair E64 (Elt.slice E8)) 71 x5.1 x5.2 s2.2.2.1 :: Cl b1 30 (s2.2.2.2.2.2.2.2.2.2.1.map str) :: hs) hl1 (x2.2.2.1, x2.2.2.2) (fun K1 s2 x5 o1 he1 hm1 hx1 => ?_)))
    unfold law3_DiskFlushed.st1 at he1
    refine T.seq ?_
    refine T.seqJ (fun (s3 : Bool) (x6 : Unit) => [(0, .slice A0 l0.length c0), (3, .pointer (some ⟨x2.1, 0, none⟩)), (5, .pointer (some ⟨b1, 0, none⟩)), (6, .int .i64 s2.2.2.2.2.2.2.2.2.2.2), (29, .bool s3)]) (fun s3 x6 => Ro (Elt.pair E64 (Elt.pair E64 (Elt.pair E64 (Elt.pair (Elt.slice E8) (Elt.pair E64 (Elt.pair EU64 (Elt.pair E64 E64))))))) A0 c0 l0 :: Cl x2.1 69 [.int .i64 s2.1, .map (some x2.2.1), .slice x5.1 s2.2.2.1.length x5.2, .bool s2.2.2.2.1, .int .i64 s2.2.2.2.2.1, .int .i64 s2.2.2.2.2.2.1, .int .u64 s2.2.2.2.2.2.2.1, .int .i64 s2.2.2.2.2.2.2.2.1, .int .i64 s2.2.2.2.2.2.2.2.2.1] :: Mp (Elt.slice E8) x2.2.1 s2.2.1 :: Bf (Elt.pair E64 (Elt.slice E8)) 71 x5.1 x5.2 s2.2.2.1 :: Cl b1 30 (s2.2.2.2.2.2.2.2.2.2.1.map str) :: hs) (fun s3 => law3_DiskFlushed.k2 s2 l0 s3 = some o1) (fun s3 x6 hk2 => ?_) (fun J2 => ?_)
    ·unfold law3_DiskFlushed.k2 at hk2
     refine T.cond rfl (fun hb2 => ?_) (fun hb2 => ?_)
     ·replace hk2 := inv_posB hb2 hk2
      refine T.skip ?_
      refine T.then_normal ?_
      refine T.seqJ (fun (s4 : Int × (List (Int × (List UInt8))) × (List (Int × (List UInt8))) × Bool × Int × Int × Int × Int × Int) (x7 : (Option Addr × Nat)) => [(0, .slice A0 l0.length c0), (3, .pointer (some ⟨x2.1, 0, none⟩)), (5, .pointer (some ⟨b1, 0, none⟩)), (6, .int .i64 s2.2.2.2.2.2.2.2.2.2.2)]) (fun s4 x7 => Ro (Elt.pair E64 (Elt.pair E64 (Elt.pair E64 (Elt.pair (Elt.slice E8) (Elt.pair E64 (Elt.pair EU64 (Elt.pair E64 E64))))))) A0 c0 l0 :: Cl x2.1 69 [.int .i64 s4.1, .map (some x2.2.1), .slice x7.1 s4.2.2.1.length x7.2, .bool s4.2.2.2.1, .int .i64 s4.2.2.2.2.1, .int .i64 s4.2.2.2.2.2.1, .int .u64 s4.2.2.2.2.2.2.1, .int .i64 s4.2.2.2.2.2.2.2.1, .int .i64 s4.2.2.2.2.2.2.2.2] :: Mp (Elt.slice E8) x2.2.1 s4.2.1 :: Bf (Elt.pair E64 (Elt.slice E8)) 71 x7.1 x7.2 s4.2.2.1 :: Cl b1 30 ((((s2.2.2.2.2.2.2.2.2.2.1).set ((0 + (bitsOf .and .i64 (((((l0).getD (s2.2.2.2.2.2.2.2.2.2.2 : Int).toNat default)).2.1)) 3 : Int).toNat * 1)) (subl (((((l0).getD (s2.2.2.2.2.2.2.2.2.2.2 : Int).toNat default)).2.2.2.1)) 0 (min (((((((l0).getD (s2.2.2.2.2.2.2.2.2.2.2 : Int).toNat default)).2.2.2.1)).length : Int)) 40)))).map str) :: hs) (fun s4 => law3_DiskFlushed.k3 s2 l0 s4 = some o1) (fun s4 x7 hk3 => ?_) (fun J3 => ?_)
      ·unfold law3_DiskFlushed.k3 at hk3
       refine T.region ?_
       refine T.move .list rfl (wants0 rfl) rfl rfl ?_
       refine T.bin .list rfl (wants0 rfl) rfl rfl rfl rfl ?_
       refine T.assign .list rfl (wants0 rfl) rfl rfl ?_
       refine T.nil ?_
       refine T.then_normal ?_
       obtain rfl := inv_some hk3
       exact T.le (EnvLe.cons rfl (EnvLe.cons rfl (EnvLe.cons rfl (EnvLe.cons rfl EnvLe.nil)))) (T.pick [0, 1, 2, 3, 4] 5 rfl rfl (Nat.le_add_left _ _) rfl (hm1 (s4.1, s4.2.1, s4.2.2.1, s4.2.2.2.1, s4.2.2.2.2.1, s4.2.2.2.2.2.1, s4.2.2.2.2.2.2.1, s4.2.2.2.2.2.2.2.1, s4.2.2.2.2.2.2.2.2, ((s2.2.2.2.2.2.2.2.2.2.1).set ((0 + (bitsOf .and .i64 (((((l0).getD (s2.2.2.2.2.2.2.2.2.2.2 : Int).toNat default)).2.1)) 3 : Int).toNat * 1)) (subl (((((l0).getD (s2.2.2.2.2.2.2.2.2.2.2 : Int).toNat default)).2.2.2.1)) 0 (min (((((((l0).getD (s2.2.2.2.2.2.2.2.2.2.2 : Int).toNat default)).2.2.2.1)).length : Int)) 40))), IntKind.i64.wrap (s2.2.2.2.2.2.2.2.2.2.2 + 1)) rfl (x7.1, x7.2)))
      ·refine T.block ?_
       refine T.seq ?_
       refine T.region ?_
       refine T.move .list rfl (wants0 rfl) rfl rfl ?_
       refine T.move .list rfl (wants0 rfl) rfl rfl ?_
       obtain ⟨hc1, hk2⟩ := inv_chk hk2
       refine T.idxRo .list 0 rfl rfl (wants0 rfl) rfl rfl rfl hc1.1 hc1.2 (Nat.le_refl _) ?_
       refine T.ldFRo 0 .list Fd.self (Sh.pair Sh.sc (Sh.pair Sh.sc (Sh.pair Sh.sc (Sh.pair Sh.slice (Sh.pair Sh.sc (Sh.pair Sh.sc (Sh.pair Sh.sc Sh.sc))))))) rfl (.inl rfl) rfl rfl hc1.1 hc1.2 rfl (wants0 rfl) rfl rfl rfl (v := fun x8 => .agg #[.int .i64 (((((l0).getD (s2.2.2.2.2.2.2.2.2.2.2 : Int).toNat default)).1)), .int .i64 (((((l0).getD (s2.2.2.2.2.2.2.2.2.2.2 : Int).toNat default)).2.1)), .int .i64 (((((l0).getD (s2.2.2.2.2.2.2.2.2.2.2 : Int).toNat default)).2.2.1)), .slice x8.2.2.2.1.1 ((((((l0).getD (s2.2.2.2.2.2.2.2.2.2.2 : Int).toNat default)).2.2.2.1)).length) x8.2.2.2.1.2, .int .i64 ((((((l0).getD (s2.2.2.2.2.2.2.2.2.2.2 : Int).toNat default)).2.2.2.2).1)), .int .u64 ((((((l0).getD (s2.2.2.2.2.2.2.2.2.2.2 : Int).toNat default)).2.2.2.2).2.1)), .int .i64 ((((((l0).getD (s2.2.2.2.2.2.2.2.2.2.2 : Int).toNat default)).2.2.2.2).2.2.1)), .int .i64 ((((((l0).getD (s2.2.2.2.2.2.2.2.2.2.2 : Int).toNat default)).2.2.2.2).2.2.2))]) (hs' := fun x8 => Ro E8 x8.2.2.2.1.1 x8.2.2.2.1.2 (((((l0).getD (s2.2.2.2.2.2.2.2.2.2.2 : Int).toNat default)).2.2.2.1)) :: Ro (Elt.pair E64 (Elt.pair E64 (Elt.pair E64 (Elt.pair (Elt.slice E8) (Elt.pair E64 (Elt.pair EU64 (Elt.pair E64 E64))))))) A0 c0 l0 :: Cl x2.1 69 [.int .i64 s2.1, .map (some x2.2.1), .slice x5.1 s2.2.2.1.length x5.2, .bool s2.2.2.2.1, .int .i64 s2.2.2.2.2.1, .int .i64 s2.2.2.2.2.2.1, .int .u64 s2.2.2.2.2.2.2.1, .int .i64 s2.2.2.2.2.2.2.2.1, .int .i64 s2.2.2.2.2.2.2.2.2.1] :: Mp (Elt.slice E8) x2.2.1 s2.2.1 :: Bf (Elt.pair E64 (Elt.slice E8)) 71 x5.1 x5.2 s2.2.2.1 :: Cl b1 30 (s2.2.2.2.2.2.2.2.2.2.1.map str) :: hs) (fun _ => rfl) (fun _ => rfl) (fun x8 => ?_)
       refine T.allocS .list rfl (wants0 rfl) rfl (cs := [.int .i64 0, .int .i64 0, .int .i64 0, .slice none 0 0, .int .i64 0, .int .u64 0, .int .i64 0, .int .i64 0]) rfl (fun b2 => ?_)
       refine T.store .list 0 rfl rfl (wants0 rfl) rfl rfl rfl rfl (Nat.le_of_ble_eq_true rfl) rfl (cs' := [.int .i64 (((((l0).getD (s2.2.2.2.2.2.2.2.2.2.2 : Int).toNat default)).1)), .int .i64 (((((l0).getD (s2.2.2.2.2.2.2.2.2.2.2 : Int).toNat default)).2.1)), .int .i64 (((((l0).getD (s2.2.2.2.2.2.2.2.2.2.2 : Int).toNat default)).2.2.1)), .slice x8.2.2.2.1.1 ((((((l0).getD (s2.2.2.2.2.2.2.2.2.2.2 : Int).toNat default)).2.2.2.1)).length) x8.2.2.2.1.2, .int .i64 ((((((l0).getD (s2.2.2.2.2.2.2.2.2.2.2 : Int).toNat default)).2.2.2.2).1)), .int .u64 ((((((l0).getD (s2.2.2.2.2.2.2.2.2.2.2 : Int).toNat default)).2.2.2.2).2.1)), .int .i64 ((((((l0).getD (s2.2.2.2.2.2.2.2.2.2.2 : Int).toNat default)).2.2.2.2).2.2.1)), .int .i64 ((((((l0).getD (s2.2.2.2.2.2.2.2.2.2.2 : Int).toNat default)).2.2.2.2).2.2.2))]) rfl rfl ?_
       refine T.nil ?_
       refine T.then_normal ?_
       refine T.seq ?_
       refine T.region ?_
       refine T.field .list rfl (wants0 rfl) rfl rfl ?_
       refine T.load .list 0 rfl rfl (wants0 rfl) rfl rfl rfl ?_
       refine T.field .list rfl (wants0 rfl) rfl rfl ?_
       refine T.load .list 0 rfl rfl (wants0 rfl) rfl rfl rfl ?_
       refine T.lenSlice .list rfl (wants0 rfl) rfl rfl ?_
       refine T.min2 .list rfl (wants0 rfl) rfl rfl rfl ?_
       obtain ⟨hc2, hk2⟩ := inv_chk hk2
       refine T.cut0 .list 1 rfl rfl rfl (wants0 rfl) rfl rfl (.inl rfl) (.inr ⟨_, _, rfl, rfl⟩) hc2.1 hc2.2 ?_
       refine T.strRo .list 0 rfl rfl (wants0 rfl) rfl rfl rfl ?_
       refine T.assign .list rfl (wants0 rfl) rfl rfl ?_
       refine T.nil ?_
       refine T.then_normal ?_
       refine T.seq ?_
       refine T.seqJ (fun (s5 : Int × (List (Int × (List UInt8))) × (List (Int × (List UInt8))) × Bool × Int × Int × Int × Int × Int × Bool) (x9 : (Option Addr × Nat)) => [(0, .slice A0 l0.length c0), (3, .pointer (some ⟨x2.1, 0, none⟩)), (5, .pointer (some ⟨b1, 0, none⟩)), (6, .int .i64 s2.2.2.2.2.2.2.2.2.2.2), (7, .pointer (some ⟨b2, 0, none⟩)), (8, str (subl (((((l0).getD (s2.2.2.2.2.2.2.2.2.2.2 : Int).toNat default)).2.2.2.1)) 0 (min (((((((l0).getD (s2.2.2.2.2.2.2.2.2.2.2 : Int).toNat default)).2.2.2.1)).length : Int)) 40))), (56, .bool s5.2.2.2.2.2.2.2.2.2)]) (fun s5 x9 => Ro (Elt.pair E64 (Elt.pair E64 (Elt.pair E64 (Elt.pair (Elt.slice E8) (Elt.pair E64 (Elt.pair EU64 (Elt.pair E64 E64))))))) A0 c0 l0 :: Cl x2.1 69 [.int .i64 s5.1, .map (some x2.2.1), .slice x9.1 s5.2.2.1.length x9.2, .bool s5.2.2.2.1, .int .i64 s5.2.2.2.2.1, .int .i64 s5.2.2.2.2.2.1, .int .u64 s5.2.2.2.2.2.2.1, .int .i64 s5.2.2.2.2.2.2.2.1, .int .i64 s5.2.2.2.2.2.2.2.2.1] :: Mp (Elt.slice E8) x2.2.1 s5.2.1 :: Bf (Elt.pair E64 (Elt.slice E8)) 71 x9.1 x9.2 s5.2.2.1 :: Cl b1 30 (s2.2.2.2.2.2.2.2.2.2.1.map str) :: Cl b2 35 [.int .i64 (((((l0).getD (s2.2.2.2.2.2.2.2.2.2.2 : Int).toNat default)).1)), .int .i64 (((((l0).getD (s2.2.2.2.2.2.2.2.2.2.2 : Int).toNat default)).2.1)), .int .i64 (((((l0).getD (s2.2.2.2.2.2.2.2.2.2.2 : Int).toNat default)).2.2.1)), .slice x8.2.2.2.1.1 ((((((l0).getD (s2.2.2.2.2.2.2.2.2.2.2 : Int).toNat default)).2.2.2.1)).length) x8.2.2.2.1.2, .int .i64 ((((((l0).getD (s2.2.2.2.2.2.2.2.2.2.2 : Int).toNat default)).2.2.2.2).1)), .int .u64 ((((((l0).getD (s2.2.2.2.2.2.2.2.2.2.2 : Int).toNat default)).2.2.2.2).2.1)), .int .i64 ((((((l0).getD (s2.2.2.2.2.2.2.2.2.2.2 : Int).toNat default)).2.2.2.2).2.2.1)), .int .i64 ((((((l0).getD (s2.2.2.2.2.2.2.2.2.2.2 : Int).toNat default)).2.2.2.2).2.2.2))] :: Ro E8 x8.2.2.2.1.1 x8.2.2.2.1.2 (((((l0).getD (s2.2.2.2.2.2.2.2.2.2.2 : Int).toNat default)).2.2.2.1)) :: hs) (fun s5 => law3_DiskFlushed.k4 l0 s2 s5 = some o1) (fun s5 x9 hk4 => ?_) (fun J4 => ?_)
       ·unfold law3_DiskFlushed.k4 at hk4
        refine T.cond rfl (fun hb3 => ?_) (fun hb3 => ?_)
        ·replace hk4 := inv_posB hb3 hk4
         refine T.seq ?_
         refine T.region ?_
         refine T.assign .list rfl (wants0 rfl) rfl rfl ?_
         refine T.nil ?_
         refine T.then_normal ?_
         refine T.ret ?_
         refine T.then_ret ?_
         refine T.in_ret ?_
         refine T.then_ret ?_
         refine T.then_ret ?_
         obtain rfl := inv_some hk4
         obtain rfl := hx1 _ rfl
         refine T.in_ret ?_
         refine T.then_ret ?_
         obtain rfl := inv_some hr
         refine T.pick [] 7 rfl rfl (Nat.le_add_left _ _) rfl ?_
         refine T.ret1 rfl rfl (fun w hS => ⟨(), rfl, hS⟩)
        ·replace hk4 := inv_negB hb3 hk4
         refine T.skip ?_
         refine T.then_normal ?_
         refine T.seq ?_
         refine T.region ?_
         refine T.field .list rfl (wants0 rfl) rfl rfl ?_
         refine T.load .list 5 rfl rfl (wants0 rfl) rfl rfl rfl ?_
         refine T.bin .list rfl (wants0 rfl) rfl rfl rfl rfl ?_
         refine T.move .list rfl (wants0 rfl) rfl rfl ?_
         obtain ⟨hc3, hk4⟩ := inv_chk hk4
         refine T.idxArr .list rfl (wants0 rfl) rfl rfl rfl hc3.1 hc3.2 ?_
         obtain ⟨hc4, hk4⟩ := inv_chk hk4
         refine T.stArr .list 4 rfl rfl (wants0 rfl) rfl rfl rfl rfl rfl hc4 rfl ?_
         refine T.nil ?_
         refine T.then_normal ?_
         refine T.seq ?_
         refine T.region ?_
         refine T.move .list rfl (wants0 rfl) rfl rfl ?_
         refine T.field .list rfl (wants0 rfl) rfl rfl ?_
         refine T.loadN .list 5 rfl rfl (wants0 rfl) rfl rfl (vs := [.int .i64 ((((((l0).getD (s2.2.2.2.2.2.2.2.2.2.2 : Int).toNat default)).2.2.2.2).1)), .int .u64 ((((((l0).getD (s2.2.2.2.2.2.2.2.2.2.2 : Int).toNat default)).2.2.2.2).2.1)), .int .i64 ((((((l0).getD (s2.2.2.2.2.2.2.2.2.2.2 : Int).toNat default)).2.2.2.2).2.2.1)), .int .i64 ((((((l0).getD (s2.2.2.2.2.2.2.2.2.2.2 : Int).toNat default)).2.2.2.2).2.2.2))]) rfl rfl ?_
         refine T.pick [1, 2, 3, 0, 4, 5, 6] 7 rfl rfl (Nat.le_add_left _ _) (hs' := Cl x2.1 69 [.int .i64 s5.1, .map (some x2.2.1), .slice x9.1 s5.2.2.1.length x9.2, .bool s5.2.2.2.1, .int .i64 s5.2.2.2.2.1, .int .i64 s5.2.2.2.2.2.1, .int .u64 s5.2.2.2.2.2.2.1, .int .i64 s5.2.2.2.2.2.2.2.1, .int .i64 s5.2.2.2.2.2.2.2.2.1] :: Mp (Elt.slice E8) x2.2.1 s5.2.1 :: Bf (Elt.pair E64 (Elt.slice E8)) 71 x9.1 x9.2 s5.2.2.1 :: Ro (Elt.pair E64 (Elt.pair E64 (Elt.pair E64 (Elt.pair (Elt.slice E8) (Elt.pair E64 (Elt.pair EU64 (Elt.pair E64 E64))))))) A0 c0 l0 :: Cl b1 30 ((((s2.2.2.2.2.2.2.2.2.2.1).set ((0 + (bitsOf .and .i64 (((((l0).getD (s2.2.2.2.2.2.2.2.2.2.2 : Int).toNat default)).2.1)) 3 : Int).toNat * 1)) (subl (((((l0).getD (s2.2.2.2.2.2.2.2.2.2.2 : Int).toNat default)).2.2.2.1)) 0 (min (((((((l0).getD (s2.2.2.2.2.2.2.2.2.2.2 : Int).toNat default)).2.2.2.1)).length : Int)) 40)))).map str) :: Cl b2 35 [.int .i64 (((((l0).getD (s2.2.2.2.2.2.2.2.2.2.2 : Int).toNat default)).1)), .int .i64 (((((l0).getD (s2.2.2.2.2.2.2.2.2.2.2 : Int).toNat default)).2.1)), .int .i64 (((((l0).getD (s2.2.2.2.2.2.2.2.2.2.2 : Int).toNat default)).2.2.1)), .slice x8.2.2.2.1.1 ((((((l0).getD (s2.2.2.2.2.2.2.2.2.2.2 : Int).toNat default)).2.2.2.1)).length) x8.2.2.2.1.2, .int .i64 ((((((l0).getD (s2.2.2.2.2.2.2.2.2.2.2 : Int).toNat default)).2.2.2.2).1)), .int .u64 ((((((l0).getD (s2.2.2.2.2.2.2.2.2.2.2 : Int).toNat default)).2.2.2.2).2.1)), .int .i64 ((((((l0).getD (s2.2.2.2.2.2.2.2.2.2.2 : Int).toNat default)).2.2.2.2).2.2.1)), .int .i64 ((((((l0).getD (s2.2.2.2.2.2.2.2.2.2.2 : Int).toNat default)).2.2.2.2).2.2.2))] :: Ro E8 x8.2.2.2.1.1 x8.2.2.2.1.2 (((((l0).getD (s2.2.2.2.2.2.2.2.2.2.2 : Int).toNat default)).2.2.2.1)) :: hs) rfl ?_
         obtain ⟨r3, hg3, hk4⟩ := inv_bind hk4
         refine T.call .list (wants0 rfl) rfl (run_callF (vs := [_, _]) rfl Try.func12 rfl (by decide) rfl) (fun w hS => disk_Disk_Cut.c hS (o0 := (s5.1, s5.2.2.2.1, s5.2.2.2.2.1, s5.2.2.2.2.2.1, s5.2.2.2.2.2.2.1, s5.2.2.2.2.2.2.2.1, s5.2.2.2.2.2.2.2.2.1)) (q0b := s5.2.1) (q0c := s5.2.2.1) (a1 := ((((((l0).getD (s2.2.2.2.2.2.2.2.2.2.2 : Int).toNat default)).2.2.2.2).1), (((((l0).getD (s2.2.2.2.2.2.2.2.2.2.2 : Int).toNat default)).2.2.2.2).2.1), (((((l0).getD (s2.2.2.2.2.2.2.2.2.2.2 : Int).toNat default)).2.2.2.2).2.2.1), (((((l0).getD (s2.2.2.2.2.2.2.2.2.2.2 : Int).toNat default)).2.2.2.2).2.2.2)))  hg3) (fun x10 => ?_)
         refine T.nil ?_
         refine T.then_normal ?_
         refine T.seq ?_
         refine T.region ?_
         refine T.move .list rfl (wants0 rfl) rfl rfl ?_
         refine T.pick [0, 1, 2, 3, 4, 5, 6] 7 rfl rfl (Nat.le_add_left _ _) (hs' := Cl x2.1 69 [.int .i64 r3.1.1, .map (some x2.2.1), .slice x10.1 r3.2.2.length x10.2, .bool r3.1.2.1, .int .i64 r3.1.2.2.1, .int .i64 r3.1.2.2.2.1, .int .u64 r3.1.2.2.2.2.1, .int .i64 r3.1.2.2.2.2.2.1, .int .i64 r3.1.2.2.2.2.2.2] :: Mp (Elt.slice E8) x2.2.1 r3.2.1 :: Bf (Elt.pair E64 (Elt.slice E8)) 71 x10.1 x10.2 r3.2.2 :: Ro (Elt.pair E64 (Elt.pair E64 (Elt.pair E64 (Elt.pair (Elt.slice E8) (Elt.pair E64 (Elt.pair EU64 (Elt.pair E64 E64))))))) A0 c0 l0 :: Cl b1 30 ((((s2.2.2.2.2.2.2.2.2.2.1).set ((0 + (bitsOf .and .i64 (((((l0).getD (s2.2.2.2.2.2.2.2.2.2.2 : Int).toNat default)).2.1)) 3 : Int).toNat * 1)) (subl (((((l0).getD (s2.2.2.2.2.2.2.2.2.2.2 : Int).toNat default)).2.2.2.1)) 0 (min (((((((l0).getD (s2.2.2.2.2.2.2.2.2.2.2 : Int).toNat default)).2.2.2.1)).length : Int)) 40)))).map str) :: Cl b2 35 [.int .i64 (((((l0).getD (s2.2.2.2.2.2.2.2.2.2.2 : Int).toNat default)).1)), .int .i64 (((((l0).getD (s2.2.2.2.2.2.2.2.2.2.2 : Int).toNat default)).2.1)), .int .i64 (((((l0).getD (s2.2.2.2.2.2.2.2.2.2.2 : Int).toNat default)).2.2.1)), .slice x8.2.2.2.1.1 ((((((l0).getD (s2.2.2.2.2.2.2.2.2.2.2 : Int).toNat default)).2.2.2.1)).length) x8.2.2.2.1.2, .int .i64 ((((((l0).getD (s2.2.2.2.2.2.2.2.2.2.2 : Int).toNat default)).2.2.2.2).1)), .int .u64 ((((((l0).getD (s2.2.2.2.2.2.2.2.2.2.2 : Int).toNat default)).2.2.2.2).2.1)), .int .i64 ((((((l0).getD (s2.2.2.2.2.2.2.2.2.2.2 : Int).toNat default)).2.2.2.2).2.2.1)), .int .i64 ((((((l0).getD (s2.2.2.2.2.2.2.2.2.2.2 : Int).toNat default)).2.2.2.2).2.2.2))] :: Ro E8 x8.2.2.2.1.1 x8.2.2.2.1.2 (((((l0).getD (s2.2.2.2.2.2.2.2.2.2.2 : Int).toNat default)).2.2.2.1)) :: hs) rfl ?_
         obtain ⟨r4, hg4, hk4⟩ := inv_bind hk4
         refine T.call .list (wants0 rfl) rfl (run_callF (vs := [_]) rfl Try.func13 rfl (by decide) rfl) (fun w hS => disk_Disk_Restart.c hS (o0 := (r3.1.1, r3.1.2.1, r3.1.2.2.1, r3.1.2.2.2.1, r3.1.2.2.2.2.1, r3.1.2.2.2.2.2.1, r3.1.2.2.2.2.2.2)) (q0b := r3.2.1) (q0c := r3.2.2)  hg4) (fun x11 => ?_)
         refine T.nil ?_
         refine T.then_normal ?_
         refine T.seq ?_
         refine T.region ?_
         refine T.assign .list rfl (wants0 rfl) rfl rfl ?_
         refine T.nil ?_
         refine T.then_normal ?_
         refine T.block ?_
         obtain ⟨e2, hl2, hk4⟩ := inv_bind hk4
         refine T.le (EnvLe.cons rfl (EnvLe.cons rfl (EnvLe.cons rfl (EnvLe.cons rfl (EnvLe.cons rfl EnvLe.nil))))) (T.pick [3, 0, 1, 2, 4] 7 rfl rfl (Nat.le_add_left _ _) rfl (T.loop (s0 := 0) (env := fun s6 x12 => [(0, .slice A0 l0.length c0), (3, .pointer (some ⟨x2.1, 0, none⟩)), (5, .pointer (some ⟨b1, 0, none⟩)), (6, .int .i64 s2.2.2.2.2.2.2.2.2.2.2), (9, .int .i64 s6)]) (hs := fun (s6 : Int) (x12 : Unit) => Ro (Elt.pair E64 (Elt.pair E64 (Elt.pair E64 (Elt.pair (Elt.slice E8) (Elt.pair E64 (Elt.pair EU64 (Elt.pair E64 E64))))))) A0 c0 l0 :: Cl x2.1 69 [.int .i64 r4.1, .map (some x2.2.1), .slice x10.1 r3.2.2.length x10.2, .bool r4.2.1, .int .i64 r4.2.2.1, .int .i64 r4.2.2.2.1, .int .u64 r4.2.2.2.2.1, .int .i64 r4.2.2.2.2.2.1, .int .i64 r4.2.2.2.2.2.2] :: Mp (Elt.slice E8) x2.2.1 r3.2.1 :: Bf (Elt.pair E64 (Elt.slice E8)) 71 x10.1 x10.2 r3.2.2 :: Cl b1 30 ((((s2.2.2.2.2.2.2.2.2.2.1).set ((0 + (bitsOf .and .i64 (((((l0).getD (s2.2.2.2.2.2.2.2.2.2.2 : Int).toNat default)).2.1)) 3 : Int).toNat * 1)) (subl (((((l0).getD (s2.2.2.2.2.2.2.2.2.2.2 : Int).toNat default)).2.2.2.1)) 0 (min (((((((l0).getD (s2.2.2.2.2.2.2.2.2.2.2 : Int).toNat default)).2.2.2.1)).length : Int)) 40)))).map str) :: hs) hl2 () (fun K2 s6 x12 o2 he2 hm2 hx2 => ?_)))
         unfold law3_DiskFlushed.st2 at he2
         refine T.seq ?_
         refine T.seq ?_
         refine T.region ?_
         refine T.move .list rfl (wants0 rfl) rfl rfl ?_
         refine T.bin .list rfl (wants0 rfl) rfl rfl rfl rfl ?_
         refine T.nil ?_
         refine T.then_normal ?_
         refine T.cond rfl (fun hb4 => ?_) (fun hb4 => ?_)
         ·replace he2 := inv_posB hb4 he2
          refine T.skip ?_
          refine T.then_normal ?_
          refine T.seq ?_
          refine T.block ?_
          refine T.seq ?_
          refine T.region ?_
          refine T.move .list rfl (wants0 rfl) rfl rfl ?_
          refine T.move .list rfl (wants0 rfl) rfl rfl ?_
          refine T.pick [1, 2, 3, 0, 4] 5 rfl rfl (Nat.le_add_left _ _) (hs' := Cl x2.1 69 [.int .i64 r4.1, .map (some x2.2.1), .slice x10.1 r3.2.2.length x10.2, .bool r4.2.1, .int .i64 r4.2.2.1, .int .i64 r4.2.2.2.1, .int .u64 r4.2.2.2.2.1, .int .i64 r4.2.2.2.2.2.1, .int .i64 r4.2.2.2.2.2.2] :: Mp (Elt.slice E8) x2.2.1 r3.2.1 :: Bf (Elt.pair E64 (Elt.slice E8)) 71 x10.1 x10.2 r3.2.2 :: Ro (Elt.pair E64 (Elt.pair E64 (Elt.pair E64 (Elt.pair (Elt.slice E8) (Elt.pair E64 (Elt.pair EU64 (Elt.pair E64 E64))))))) A0 c0 l0 :: Cl b1 30 ((((s2.2.2.2.2.2.2.2.2.2.1).set ((0 + (bitsOf .and .i64 (((((l0).getD (s2.2.2.2.2.2.2.2.2.2.2 : Int).toNat default)).2.1)) 3 : Int).toNat * 1)) (subl (((((l0).getD (s2.2.2.2.2.2.2.2.2.2.2 : Int).toNat default)).2.2.2.1)) 0 (min (((((((l0).getD (s2.2.2.2.2.2.2.2.2.2.2 : Int).toNat default)).2.2.2.1)).length : Int)) 40)))).map str) :: hs) rfl ?_
          obtain ⟨r5, hg5, he2⟩ := inv_bind he2
          refine T.call .list (wants0 rfl) rfl (run_callF (vs := [_, _]) rfl Try.func14 rfl (by decide) rfl) (fun w hS => disk_Disk_Read.c hS (o0 := (r4.1, r4.2.1, r4.2.2.1, r4.2.2.2.1, r4.2.2.2.2.1, r4.2.2.2.2.2.1, r4.2.2.2.2.2.2)) (q0b := r3.2.1) (q0c := r3.2.2)  hg5) (fun x13 => ?_)
          refine T.move .list rfl (wants0 rfl) rfl rfl ?_
          refine T.extract .list rfl (wants0 rfl) rfl rfl rfl ?_
          refine T.extract .list rfl (wants0 rfl) rfl rfl rfl ?_
          refine T.assign .list rfl (wants0 rfl) rfl rfl ?_
          refine T.assign .list rfl (wants0 rfl) rfl rfl ?_
          refine T.nil ?_
          refine T.then_normal ?_
          refine T.seqJ (fun (s7 : Bool) (x14 : Unit) => [(0, .slice A0 l0.length c0), (3, .pointer (some ⟨x2.1, 0, none⟩)), (5, .pointer (some ⟨b1, 0, none⟩)), (6, .int .i64 s2.2.2.2.2.2.2.2.2.2.2), (9, .int .i64 s6), (107, .bool s7)]) (fun s7 x14 => Ro (Elt.pair E64 (Elt.pair E64 (Elt.pair E64 (Elt.pair (Elt.slice E8) (Elt.pair E64 (Elt.pair EU64 (Elt.pair E64 E64))))))) A0 c0 l0 :: Cl x2.1 69 [.int .i64 r4.1, .map (some x2.2.1), .slice x10.1 r3.2.2.length x10.2, .bool r4.2.1, .int .i64 r4.2.2.1, .int .i64 r4.2.2.2.1, .int .u64 r4.2.2.2.2.1, .int .i64 r4.2.2.2.2.2.1, .int .i64 r4.2.2.2.2.2.2] :: Mp (Elt.slice E8) x2.2.1 r3.2.1 :: Bf (Elt.pair E64 (Elt.slice E8)) 71 x10.1 x10.2 r3.2.2 :: Cl b1 30 ((((s2.2.2.2.2.2.2.2.2.2.1).set ((0 + (bitsOf .and .i64 (((((l0).getD (s2.2.2.2.2.2.2.2.2.2.2 : Int).toNat default)).2.1)) 3 : Int).toNat * 1)) (subl (((((l0).getD (s2.2.2.2.2.2.2.2.2.2.2 : Int).toNat default)).2.2.2.1)) 0 (min (((((((l0).getD (s2.2.2.2.2.2.2.2.2.2.2 : Int).toNat default)).2.2.2.1)).length : Int)) 40)))).map str) :: hs) (fun s7 => law3_DiskFlushed.k5 s6 s7 = some o2) (fun s7 x14 hk5 => ?_) (fun J5 => ?_)
          ·unfold law3_DiskFlushed.k5 at hk5
           refine T.cond rfl (fun hb5 => ?_) (fun hb5 => ?_)
           ·replace hk5 := inv_posB hb5 hk5
            refine T.seq ?_
            refine T.region ?_
            refine T.assign .list rfl (wants0 rfl) rfl rfl ?_
            refine T.nil ?_
            refine T.then_normal ?_
            refine T.ret ?_
            refine T.in_ret ?_
            refine T.then_ret ?_
            refine T.then_ret ?_
            obtain rfl := inv_some hk5
            obtain rfl := hx2 _ rfl
            refine T.in_ret ?_
            refine T.in_ret ?_
            refine T.then_ret ?_
            refine T.then_ret ?_
            obtain rfl := inv_some hk4
            obtain rfl := hx1 _ rfl
            refine T.in_ret ?_
            refine T.then_ret ?_
            obtain rfl := inv_some hr
            refine T.pick [] 5 rfl rfl (Nat.le_add_left _ _) rfl ?_
            refine T.ret1 rfl rfl (fun w hS => ⟨(), rfl, hS⟩)
           ·replace hk5 := inv_negB hb5 hk5
            refine T.skip ?_
            refine T.in_normal ?_
            refine T.then_normal ?_
            refine T.region ?_
            refine T.move .list rfl (wants0 rfl) rfl rfl ?_
            refine T.bin .list rfl (wants0 rfl) rfl rfl rfl rfl ?_
            refine T.assign .list rfl (wants0 rfl) rfl rfl ?_
            refine T.nil ?_
            refine T.then_normal ?_
            obtain rfl := inv_some hk5
            exact T.le (EnvLe.cons rfl (EnvLe.cons rfl (EnvLe.cons rfl (EnvLe.cons rfl (EnvLe.cons rfl EnvLe.nil))))) (T.pick [0, 1, 2, 3, 4] 5 rfl rfl (Nat.le_add_left _ _) rfl (hm2 (IntKind.i64.wrap (s6 + 1)) rfl ()))
          ·refine T.plan [(0, 0), (1, 0), (2, 0), (3, 0), (4, 0), (5, 0), (6, 0), (7, 0), (8, 0), (9, 0), (10, 0), (15, 0), (16, 0), (11, 1), (12, 0), (13, 0), (14, 1), (17, 1), (18, 0), (19, 0), (20, 0), (21, 0), (22, 0), (23, 0), (24, 1), (25, 0), (26, 0), (27, 1), (28, 0), (29, 0)] mixed (by kernel_rfl) (by kernel_rfl) rfl (fun d _ _ _ _ h => by cases d <;> exact h) ?_
           refine T.move (.plan rfl) rfl (wants0 rfl) rfl rfl ?_
           refine T.bin (.plan rfl) rfl (wants0 rfl) rfl rfl rfl rfl ?_
           refine T.move (.plan rfl) rfl (wants0 rfl) rfl rfl ?_
           refine T.bool (b := (decide (r5.2 = 0))) (fun hb6 => ?_) (fun hb6 => ?_)
           ·replace he2 := inv_posB hb6 he2
            refine T.move (.plan rfl) rfl (wants1 rfl rfl rfl (not_t hb6)) rfl rfl ?_
            refine T.lenSlice (.plan rfl) rfl (wants1 rfl rfl rfl (not_t hb6)) rfl rfl ?_
            refine T.bin (.plan rfl) rfl (wants1 rfl rfl rfl (not_t hb6)) rfl rfl rfl rfl ?_
            refine T.pickF (.plan rfl) rfl (wants0 rfl) rfl rfl (not_t hb6) rfl ?_
            refine T.move (.plan rfl) rfl (wants0 rfl) rfl rfl ?_
            refine T.bool (b := (decide ((((r5.1.length : Int))) < 64))) (fun hb7 => ?_) (fun hb7 => ?_)
            ·replace he2 := inv_posB hb7 he2
             refine T.leave (.plan rfl) (wantsNot rfl rfl rfl hb7) rfl ?_
             refine T.leave (.plan rfl) (wantsNot rfl rfl rfl hb7) rfl ?_
             refine T.leave (.plan rfl) (wantsNot rfl rfl rfl hb7) rfl ?_
             refine T.leave (.plan rfl) (wantsNot rfl rfl rfl hb7) rfl ?_
             refine T.leave (.plan rfl) (wantsNot rfl rfl rfl hb7) rfl ?_
             refine T.leave (.plan rfl) (wantsNot rfl rfl rfl hb7) rfl ?_
             refine T.leave (.plan rfl) (wantsNot rfl rfl rfl hb7) rfl ?_
             refine T.leave (.plan rfl) (wantsNot rfl rfl rfl hb7) rfl ?_
             refine T.leave (.plan rfl) (wantsNot rfl rfl rfl hb7) rfl ?_
             refine T.leave (.plan rfl) (wantsNot rfl rfl rfl hb7) rfl ?_
             refine T.leave (.plan rfl) (wantsNot rfl rfl rfl hb7) rfl ?_
             refine T.pickT (.plan rfl) rfl (wants0 rfl) rfl rfl hb7 rfl ?_
             refine T.move (.plan rfl) rfl (wants0 rfl) rfl rfl ?_
             refine T.leave (.plan rfl) (wantsNot rfl rfl rfl rfl) rfl ?_
             refine T.leave (.plan rfl) (wantsNot rfl rfl rfl rfl) rfl ?_
             refine T.leave (.plan rfl) (wantsNot rfl rfl rfl rfl) rfl ?_
             refine T.leave (.plan rfl) (wantsNot rfl rfl rfl rfl) rfl ?_
             refine T.leave (.plan rfl) (wantsNot rfl rfl rfl rfl) rfl ?_
             refine T.leave (.plan rfl) (wantsNot rfl rfl rfl rfl) rfl ?_
             refine T.leave (.plan rfl) (wantsNot rfl rfl rfl rfl) rfl ?_
             refine T.leave (.plan rfl) (wantsNot rfl rfl rfl rfl) rfl ?_
             refine T.pickT (.plan rfl) rfl (wants0 rfl) rfl rfl rfl rfl ?_
             refine T.planEnd ?_
             refine T.then_normal ?_
             exact T.le (EnvLe.cons rfl (EnvLe.cons rfl (EnvLe.cons rfl (EnvLe.cons rfl (EnvLe.cons rfl (EnvLe.cons rfl EnvLe.nil)))))) (T.pick [4, 1, 2, 3, 5] 6 rfl rfl (Nat.le_add_left _ _) rfl (J5 true () he2))
            ·replace he2 := inv_negB hb7 he2
             refine T.move (.plan rfl) rfl (wants1 rfl rfl rfl hb7) rfl rfl ?_
             refine T.move (.plan rfl) rfl (wants1 rfl rfl rfl hb7) rfl rfl ?_
             obtain ⟨hc5, he2⟩ := inv_chk he2
             refine T.idxArr (.plan rfl) rfl (wants1 rfl rfl rfl hb7) rfl rfl rfl hc5.1 hc5.2 ?_
             refine T.move (.plan rfl) rfl (wants1 rfl rfl rfl hb7) rfl rfl ?_
             obtain ⟨hc6, he2⟩ := inv_chk he2
             refine T.idxArr (.plan rfl) rfl (wants1 rfl rfl rfl hb7) rfl rfl rfl hc6.1 hc6.2 ?_
             obtain ⟨hc7, he2⟩ := inv_chk he2
             refine T.ldArr (.plan rfl) 5 rfl rfl (wants1 rfl rfl rfl hb7) rfl rfl hc7 ?_
             refine T.lenStr (.plan rfl) rfl (wants1 rfl rfl rfl hb7) rfl (l := (((((s2.2.2.2.2.2.2.2.2.2.1).set ((0 + (bitsOf .and .i64 (((((l0).getD (s2.2.2.2.2.2.2.2.2.2.2 : Int).toNat default)).2.1)) 3 : Int).toNat * 1)) (subl (((((l0).getD (s2.2.2.2.2.2.2.2.2.2.2 : Int).toNat default)).2.2.2.1)) 0 (min (((((((l0).getD (s2.2.2.2.2.2.2.2.2.2.2 : Int).toNat default)).2.2.2.1)).length : Int)) 40)))).getD ((0 + (s6 : Int).toNat * 1)) default))) rfl ?_
             obtain ⟨hc8, he2⟩ := inv_chk he2
             refine T.cut0Bf (.plan rfl) 0 rfl rfl rfl (wants1 rfl rfl rfl hb7) rfl rfl (.inl rfl) (.inr ⟨_, _, rfl, rfl⟩) hc8.1 hc8.2 ?_
             refine T.freeze 0 rfl rfl rfl ?_
             refine T.viewRo 0 (b := ((((((s2.2.2.2.2.2.2.2.2.2.1).set ((0 + (bitsOf .and .i64 (((((l0).getD (s2.2.2.2.2.2.2.2.2.2.2 : Int).toNat default)).2.1)) 3 : Int).toNat * 1)) (subl (((((l0).getD (s2.2.2.2.2.2.2.2.2.2.2 : Int).toNat default)).2.2.2.1)) 0 (min (((((((l0).getD (s2.2.2.2.2.2.2.2.2.2.2 : Int).toNat default)).2.2.2.1)).length : Int)) 40)))).getD ((0 + (s6 : Int).toNat * 1)) default)).length : Int)) rfl ?_
             refine T.strRo (.plan rfl) 0 rfl rfl (wants1 rfl rfl rfl hb7) rfl rfl rfl ?_
             obtain ⟨hc9, he2⟩ := inv_chk he2
             refine T.ldArr (.plan rfl) 6 rfl rfl (wants1 rfl rfl rfl hb7) rfl rfl hc9 ?_
             refine T.strNe (.plan rfl) rfl (wants1 rfl rfl rfl hb7) rfl (l := (subl r5.1 0 (((((((s2.2.2.2.2.2.2.2.2.2.1).set ((0 + (bitsOf .and .i64 (((((l0).getD (s2.2.2.2.2.2.2.2.2.2.2 : Int).toNat default)).2.1)) 3 : Int).toNat * 1)) (subl (((((l0).getD (s2.2.2.2.2.2.2.2.2.2.2 : Int).toNat default)).2.2.2.1)) 0 (min (((((((l0).getD (s2.2.2.2.2.2.2.2.2.2.2 : Int).toNat default)).2.2.2.1)).length : Int)) 40)))).getD ((0 + (s6 : Int).toNat * 1)) default)).length : Int)))) (l' := (((((s2.2.2.2.2.2.2.2.2.2.1).set ((0 + (bitsOf .and .i64 (((((l0).getD (s2.2.2.2.2.2.2.2.2.2.2 : Int).toNat default)).2.1)) 3 : Int).toNat * 1)) (subl (((((l0).getD (s2.2.2.2.2.2.2.2.2.2.2 : Int).toNat default)).2.2.2.1)) 0 (min (((((((l0).getD (s2.2.2.2.2.2.2.2.2.2.2 : Int).toNat default)).2.2.2.1)).length : Int)) 40)))).getD ((0 + (s6 : Int).toNat * 1)) default))) rfl rfl ?_
             refine T.pickF (.plan rfl) rfl (wants0 rfl) rfl rfl hb7 rfl ?_
             refine T.move (.plan rfl) rfl (wants0 rfl) rfl rfl ?_
             refine T.bool (b := (decide ((subl r5.1 0 (((((((s2.2.2.2.2.2.2.2.2.2.1).set ((0 + (bitsOf .and .i64 (((((l0).getD (s2.2.2.2.2.2.2.2.2.2.2 : Int).toNat default)).2.1)) 3 : Int).toNat * 1)) (subl (((((l0).getD (s2.2.2.2.2.2.2.2.2.2.2 : Int).toNat default)).2.2.2.1)) 0 (min (((((((l0).getD (s2.2.2.2.2.2.2.2.2.2.2 : Int).toNat default)).2.2.2.1)).length : Int)) 40)))).getD ((0 + (s6 : Int).toNat * 1)) default)).length : Int))) = (((((s2.2.2.2.2.2.2.2.2.2.1).set ((0 + (bitsOf .and .i64 (((((l0).getD (s2.2.2.2.2.2.2.2.2.2.2 : Int).toNat default)).2.1)) 3 : Int).toNat * 1)) (subl (((((l0).getD (s2.2.2.2.2.2.2.2.2.2.2 : Int).toNat default)).2.2.2.1)) 0 (min (((((((l0).getD (s2.2.2.2.2.2.2.2.2.2.2 : Int).toNat default)).2.2.2.1)).length : Int)) 40)))).getD ((0 + (s6 : Int).toNat * 1)) default))))) (fun hb8 => ?_) (fun hb8 => ?_)
             ·replace he2 := inv_posB hb8 he2
              refine T.move (.plan rfl) rfl (wants1 rfl rfl rfl (not_t hb8)) rfl rfl ?_
              refine T.move (.plan rfl) rfl (wants1 rfl rfl rfl (not_t hb8)) rfl rfl ?_
              obtain ⟨hc10, he2⟩ := inv_chk he2
              refine T.idxArr (.plan rfl) rfl (wants1 rfl rfl rfl (not_t hb8)) rfl rfl rfl hc10.1 hc10.2 ?_
              obtain ⟨hc11, he2⟩ := inv_chk he2
              refine T.ldArr (.plan rfl) 6 rfl rfl (wants1 rfl rfl rfl (not_t hb8)) rfl rfl hc11 ?_
              refine T.lenStr (.plan rfl) rfl (wants1 rfl rfl rfl (not_t hb8)) rfl (l := (((((s2.2.2.2.2.2.2.2.2.2.1).set ((0 + (bitsOf .and .i64 (((((l0).getD (s2.2.2.2.2.2.2.2.2.2.2 : Int).toNat default)).2.1)) 3 : Int).toNat * 1)) (subl (((((l0).getD (s2.2.2.2.2.2.2.2.2.2.2 : Int).toNat default)).2.2.2.1)) 0 (min (((((((l0).getD (s2.2.2.2.2.2.2.2.2.2.2 : Int).toNat default)).2.2.2.1)).length : Int)) 40)))).getD ((0 + (s6 : Int).toNat * 1)) default))) rfl ?_
              obtain ⟨hc12, he2⟩ := inv_chk he2
              refine T.idxRo (.plan rfl) 1 rfl rfl (wants1 rfl rfl rfl (not_t hb8)) rfl rfl rfl hc12.1 hc12.2 (Nat.le_refl _) ?_
              refine T.ldRo1 (.plan rfl) 1 rfl rfl (wants1 rfl rfl rfl (not_t hb8)) rfl rfl hc12.1 hc12.2 ?_
              refine T.bin (.plan rfl) rfl (wants1 rfl rfl rfl (not_t hb8)) rfl rfl rfl rfl ?_
              refine T.pickF (.plan rfl) rfl (wants0 rfl) rfl rfl (not_t hb8) rfl ?_
              refine T.planEnd ?_
              refine T.then_normal ?_
              exact T.le (EnvLe.cons rfl (EnvLe.cons rfl (EnvLe.cons rfl (EnvLe.cons rfl (EnvLe.cons rfl (EnvLe.cons rfl EnvLe.nil)))))) (T.pick [5, 2, 3, 4, 6] 7 rfl rfl (Nat.le_add_left _ _) rfl (J5 (!(decide ((((((r5.1).getD (((((((s2.2.2.2.2.2.2.2.2.2.1).set ((0 + (bitsOf .and .i64 (((((l0).getD (s2.2.2.2.2.2.2.2.2.2.2 : Int).toNat default)).2.1)) 3 : Int).toNat * 1)) (subl (((((l0).getD (s2.2.2.2.2.2.2.2.2.2.2 : Int).toNat default)).2.2.2.1)) 0 (min (((((((l0).getD (s2.2.2.2.2.2.2.2.2.2.2 : Int).toNat default)).2.2.2.1)).length : Int)) 40)))).getD ((0 + (s6 : Int).toNat * 1)) default)).length : Int) : Int).toNat default).toNat : Int))) = 0))) () he2))
             ·replace he2 := inv_negB hb8 he2
              refine T.leave (.plan rfl) (wantsNot rfl rfl rfl (not_f hb8)) rfl ?_
              refine T.leave (.plan rfl) (wantsNot rfl rfl rfl (not_f hb8)) rfl ?_
              refine T.leave (.plan rfl) (wantsNot rfl rfl rfl (not_f hb8)) rfl ?_
              refine T.leave (.plan rfl) (wantsNot rfl rfl rfl (not_f hb8)) rfl ?_
              refine T.leave (.plan rfl) (wantsNot rfl rfl rfl (not_f hb8)) rfl ?_
              refine T.leave (.plan rfl) (wantsNot rfl rfl rfl (not_f hb8)) rfl ?_
              refine T.leave (.plan rfl) (wantsNot rfl rfl rfl (not_f hb8)) rfl ?_
              refine T.leave (.plan rfl) (wantsNot rfl rfl rfl (not_f hb8)) rfl ?_
              refine T.pickT (.plan rfl) rfl (wants0 rfl) rfl rfl (not_f hb8) rfl ?_
              refine T.planEnd ?_
              refine T.then_normal ?_
              exact T.le (EnvLe.cons rfl (EnvLe.cons rfl (EnvLe.cons rfl (EnvLe.cons rfl (EnvLe.cons rfl (EnvLe.cons rfl EnvLe.nil)))))) (T.pick [5, 2, 3, 4, 6] 7 rfl rfl (Nat.le_add_left _ _) rfl (J5 true () he2))
           ·replace he2 := inv_negB hb6 he2
            refine T.leave (.plan rfl) (wantsNot rfl rfl rfl (not_f hb6)) rfl ?_
            refine T.leave (.plan rfl) (wantsNot rfl rfl rfl (not_f hb6)) rfl ?_
            refine T.leave (.plan rfl) (wantsNot rfl rfl rfl (not_f hb6)) rfl ?_
            refine T.pickT (.plan rfl) rfl (wants0 rfl) rfl rfl (not_f hb6) rfl ?_
            refine T.move (.plan rfl) rfl (wants0 rfl) rfl rfl ?_
            refine T.leave (.plan rfl) (wantsNot rfl rfl rfl rfl) rfl ?_
            refine T.leave (.plan rfl) (wantsNot rfl rfl rfl rfl) rfl ?_
            refine T.leave (.plan rfl) (wantsNot rfl rfl rfl rfl) rfl ?_
            refine T.leave (.plan rfl) (wantsNot rfl rfl rfl rfl) rfl ?_
            refine T.leave (.plan rfl) (wantsNot rfl rfl rfl rfl) rfl ?_
            refine T.leave (.plan rfl) (wantsNot rfl rfl rfl rfl) rfl ?_
            refine T.leave (.plan rfl) (wantsNot rfl rfl rfl rfl) rfl ?_
            refine T.leave (.plan rfl) (wantsNot rfl rfl rfl rfl) rfl ?_
            refine T.leave (.plan rfl) (wantsNot rfl rfl rfl rfl) rfl ?_
            refine T.leave (.plan rfl) (wantsNot rfl rfl rfl rfl) rfl ?_
            refine T.leave (.plan rfl) (wantsNot rfl rfl rfl rfl) rfl ?_
            refine T.pickT (.plan rfl) rfl (wants0 rfl) rfl rfl rfl rfl ?_
            refine T.move (.plan rfl) rfl (wants0 rfl) rfl rfl ?_
            refine T.leave (.plan rfl) (wantsNot rfl rfl rfl rfl) rfl ?_
            refine T.leave (.plan rfl) (wantsNot rfl rfl rfl rfl) rfl ?_
            refine T.leave (.plan rfl) (wantsNot rfl rfl rfl rfl) rfl ?_
            refine T.leave (.plan rfl) (wantsNot rfl rfl rfl rfl) rfl ?_
            refine T.leave (.plan rfl) (wantsNot rfl rfl rfl rfl) rfl ?_
            refine T.leave (.plan rfl) (wantsNot rfl rfl rfl rfl) rfl ?_
            refine T.leave (.plan rfl) (wantsNot rfl rfl rfl rfl) rfl ?_
            refine T.leave (.plan rfl) (wantsNot rfl rfl rfl rfl) rfl ?_
            refine T.pickT (.plan rfl) rfl (wants0 rfl) rfl rfl rfl rfl ?_
            refine T.planEnd ?_
            refine T.then_normal ?_
            exact T.le (EnvLe.cons rfl (EnvLe.cons rfl (EnvLe.cons rfl (EnvLe.cons rfl (EnvLe.cons rfl (EnvLe.cons rfl EnvLe.nil)))))) (T.pick [4, 1, 2, 3, 5] 6 rfl rfl (Nat.le_add_left _ _) rfl (J5 true () he2))
         ·replace he2 := inv_negB hb4 he2
          refine T.exit ?_
          refine T.then_exit ?_
          refine T.then_exit ?_
          obtain rfl := inv_some he2
          obtain rfl := hx2 _ rfl
          refine T.in_hit ?_
          refine T.in_normal ?_
          refine T.then_normal ?_
          exact T.le (EnvLe.cons rfl (EnvLe.cons rfl (EnvLe.cons rfl (EnvLe.cons rfl EnvLe.nil)))) (T.pick [0, 1, 2, 3, 4] 5 rfl rfl (Nat.le_add_left _ _) rfl (J3 (r4.1, r3.2.1, r3.2.2, r4.2.1, r4.2.2.1, r4.2.2.2.1, r4.2.2.2.2.1, r4.2.2.2.2.2.1, r4.2.2.2.2.2.2) (x10.1, x10.2) hk4))
       ·refine T.region ?_
        refine T.move .list rfl (wants0 rfl) rfl rfl ?_
        refine T.field .list rfl (wants0 rfl) rfl rfl ?_
        refine T.load .list 1 rfl rfl (wants0 rfl) rfl rfl rfl ?_
        refine T.bin .list rfl (wants0 rfl) rfl rfl rfl rfl ?_
        refine T.move .list rfl (wants0 rfl) rfl rfl ?_
        refine T.bytesOf .list rfl (wants0 rfl) rfl (l := (subl (((((l0).getD (s2.2.2.2.2.2.2.2.2.2.2 : Int).toNat default)).2.2.2.1)) 0 (min (((((((l0).getD (s2.2.2.2.2.2.2.2.2.2.2 : Int).toNat default)).2.2.2.1)).length : Int)) 40))) rfl (fun q1 => ?_)
        refine T.pick [5, 6, 7, 0, 1, 2, 3, 4, 8] 9 rfl rfl (Nat.le_add_left _ _) (hs' := Cl x2.1 69 [.int .i64 s2.1, .map (some x2.2.1), .slice x5.1 s2.2.2.1.length x5.2, .bool s2.2.2.2.1, .int .i64 s2.2.2.2.2.1, .int .i64 s2.2.2.2.2.2.1, .int .u64 s2.2.2.2.2.2.2.1, .int .i64 s2.2.2.2.2.2.2.2.1, .int .i64 s2.2.2.2.2.2.2.2.2.1] :: Mp (Elt.slice E8) x2.2.1 s2.2.1 :: Bf (Elt.pair E64 (Elt.slice E8)) 71 x5.1 x5.2 s2.2.2.1 :: Ro E8 (some ⟨q1.1, 0, none⟩) q1.2 (subl (((((l0).getD (s2.2.2.2.2.2.2.2.2.2.2 : Int).toNat default)).2.2.2.1)) 0 (min (((((((l0).getD (s2.2.2.2.2.2.2.2.2.2.2 : Int).toNat default)).2.2.2.1)).length : Int)) 40)) :: Ro E8 x8.2.2.2.1.1 x8.2.2.2.1.2 (subl (((((l0).getD (s2.2.2.2.2.2.2.2.2.2.2 : Int).toNat default)).2.2.2.1)) 0 (min (((((((l0).getD (s2.2.2.2.2.2.2.2.2.2.2 : Int).toNat default)).2.2.2.1)).length : Int)) 40)) :: Cl b2 35 [.int .i64 (((((l0).getD (s2.2.2.2.2.2.2.2.2.2.2 : Int).toNat default)).1)), .int .i64 (((((l0).getD (s2.2.2.2.2.2.2.2.2.2.2 : Int).toNat default)).2.1)), .int .i64 (((((l0).getD (s2.2.2.2.2.2.2.2.2.2.2 : Int).toNat default)).2.2.1)), .slice x8.2.2.2.1.1 ((((((l0).getD (s2.2.2.2.2.2.2.2.2.2.2 : Int).toNat default)).2.2.2.1)).length) x8.2.2.2.1.2, .int .i64 ((((((l0).getD (s2.2.2.2.2.2.2.2.2.2.2 : Int).toNat default)).2.2.2.2).1)), .int .u64 ((((((l0).getD (s2.2.2.2.2.2.2.2.2.2.2 : Int).toNat default)).2.2.2.2).2.1)), .int .i64 ((((((l0).getD (s2.2.2.2.2.2.2.2.2.2.2 : Int).toNat default)).2.2.2.2).2.2.1)), .int .i64 ((((((l0).getD (s2.2.2.2.2.2.2.2.2.2.2 : Int).toNat default)).2.2.2.2).2.2.2))] :: Ro E8 x8.2.2.2.1.1 x8.2.2.2.1.2 (((((l0).getD (s2.2.2.2.2.2.2.2.2.2.2 : Int).toNat default)).2.2.2.1)) :: Ro (Elt.pair E64 (Elt.pair E64 (Elt.pair E64 (Elt.pair (Elt.slice E8) (Elt.pair E64 (Elt.pair EU64 (Elt.pair E64 E64))))))) A0 c0 l0 :: Cl b1 30 (s2.2.2.2.2.2.2.2.2.2.1.map str) :: hs) rfl ?_
        obtain ⟨r6, hg6, hk2⟩ := inv_bind hk2
        refine T.call .list (wants0 rfl) rfl (run_callF (vs := [_, _, _]) rfl Try.func11 rfl (by decide) rfl) (fun w hS => disk_Disk_Write.c hS (i2 := 3) (o0 := (s2.1, s2.2.2.2.1, s2.2.2.2.2.1, s2.2.2.2.2.2.1, s2.2.2.2.2.2.2.1, s2.2.2.2.2.2.2.2.1, s2.2.2.2.2.2.2.2.2.1)) (q0b := s2.2.1) (q0c := s2.2.2.1) rfl hg6) (fun x15 => ?_)
        refine T.bin .list rfl (wants0 rfl) rfl rfl rfl rfl ?_
        refine T.move .list rfl (wants0 rfl) rfl rfl ?_
        refine T.bool (b := (decide (r6.1 = 0))) (fun hb9 => ?_) (fun hb9 => ?_)
        ·replace hk2 := inv_posB hb9 hk2
         refine T.move .list rfl (wants1 rfl rfl rfl (not_t hb9)) rfl rfl ?_
         refine T.pick [0, 1, 2, 3, 4, 5, 6, 7, 8] 9 rfl rfl (Nat.le_add_left _ _) (hs' := Cl x2.1 69 [.int .i64 r6.2.1.1, .map (some x2.2.1), .slice x15.1 r6.2.2.2.length x15.2, .bool r6.2.1.2.1, .int .i64 r6.2.1.2.2.1, .int .i64 r6.2.1.2.2.2.1, .int .u64 r6.2.1.2.2.2.2.1, .int .i64 r6.2.1.2.2.2.2.2.1, .int .i64 r6.2.1.2.2.2.2.2.2] :: Mp (Elt.slice E8) x2.2.1 r6.2.2.1 :: Bf (Elt.pair E64 (Elt.slice E8)) 71 x15.1 x15.2 r6.2.2.2 :: Ro E8 (some ⟨q1.1, 0, none⟩) q1.2 (subl (((((l0).getD (s2.2.2.2.2.2.2.2.2.2.2 : Int).toNat default)).2.2.2.1)) 0 (min (((((((l0).getD (s2.2.2.2.2.2.2.2.2.2.2 : Int).toNat default)).2.2.2.1)).length : Int)) 40)) :: Ro E8 x8.2.2.2.1.1 x8.2.2.2.1.2 (subl (((((l0).getD (s2.2.2.2.2.2.2.2.2.2.2 : Int).toNat default)).2.2.2.1)) 0 (min (((((((l0).getD (s2.2.2.2.2.2.2.2.2.2.2 : Int).toNat default)).2.2.2.1)).length : Int)) 40)) :: Cl b2 35 [.int .i64 (((((l0).getD (s2.2.2.2.2.2.2.2.2.2.2 : Int).toNat default)).1)), .int .i64 (((((l0).getD (s2.2.2.2.2.2.2.2.2.2.2 : Int).toNat default)).2.1)), .int .i64 (((((l0).getD (s2.2.2.2.2.2.2.2.2.2.2 : Int).toNat default)).2.2.1)), .slice x8.2.2.2.1.1 ((((((l0).getD (s2.2.2.2.2.2.2.2.2.2.2 : Int).toNat default)).2.2.2.1)).length) x8.2.2.2.1.2, .int .i64 ((((((l0).getD (s2.2.2.2.2.2.2.2.2.2.2 : Int).toNat default)).2.2.2.2).1)), .int .u64 ((((((l0).getD (s2.2.2.2.2.2.2.2.2.2.2 : Int).toNat default)).2.2.2.2).2.1)), .int .i64 ((((((l0).getD (s2.2.2.2.2.2.2.2.2.2.2 : Int).toNat default)).2.2.2.2).2.2.1)), .int .i64 ((((((l0).getD (s2.2.2.2.2.2.2.2.2.2.2 : Int).toNat default)).2.2.2.2).2.2.2))] :: Ro E8 x8.2.2.2.1.1 x8.2.2.2.1.2 (((((l0).getD (s2.2.2.2.2.2.2.2.2.2.2 : Int).toNat default)).2.2.2.1)) :: Ro (Elt.pair E64 (Elt.pair E64 (Elt.pair E64 (Elt.pair (Elt.slice E8) (Elt.pair E64 (Elt.pair EU64 (Elt.pair E64 E64))))))) A0 c0 l0 :: Cl b1 30 (s2.2.2.2.2.2.2.2.2.2.1.map str) :: hs) rfl ?_
         obtain ⟨r7, hg7, hk2⟩ := inv_bind hk2
         refine T.call .list (wants1 rfl rfl rfl (not_t hb9)) rfl (run_callF (vs := [_]) rfl Try.func10 rfl (by decide) rfl) (fun w hS => disk_Disk_Flush.c hS (o0 := (r6.2.1.1, r6.2.1.2.1, r6.2.1.2.2.1, r6.2.1.2.2.2.1, r6.2.1.2.2.2.2.1, r6.2.1.2.2.2.2.2.1, r6.2.1.2.2.2.2.2.2)) (q0b := r6.2.2.1) (q0c := r6.2.2.2)  hg7) (fun x16 => ?_)
         refine T.bin .list rfl (wants1 rfl rfl rfl (not_t hb9)) rfl rfl rfl rfl ?_
         refine T.pickF .list rfl (wants0 rfl) rfl rfl (not_t hb9) rfl ?_
         refine T.nil ?_
         refine T.then_normal ?_
         exact T.le (EnvLe.cons rfl (EnvLe.cons rfl (EnvLe.cons rfl (EnvLe.cons rfl (EnvLe.cons rfl (EnvLe.cons rfl (EnvLe.cons rfl EnvLe.nil))))))) (T.pick [7, 0, 1, 2, 8, 5, 6] 9 rfl rfl (Nat.le_add_left _ _) rfl (J4 (r7.2.1.1, r7.2.2.1, r7.2.2.2, r7.2.1.2.1, r7.2.1.2.2.1, r7.2.1.2.2.2.1, r7.2.1.2.2.2.2.1, r7.2.1.2.2.2.2.2.1, r7.2.1.2.2.2.2.2.2, (!(decide (r7.1 = 0)))) (x16.1, x16.2) hk2))
        ·replace hk2 := inv_negB hb9 hk2
         refine T.leave .list (wantsNot rfl rfl rfl (not_f hb9)) rfl ?_
         refine T.leave .list (wantsNot rfl rfl rfl (not_f hb9)) rfl ?_
         refine T.leave .list (wantsNot rfl rfl rfl (not_f hb9)) rfl ?_
         refine T.pickT .list rfl (wants0 rfl) rfl rfl (not_f hb9) rfl ?_
         refine T.nil ?_
         refine T.then_normal ?_
         exact T.le (EnvLe.cons rfl (EnvLe.cons rfl (EnvLe.cons rfl (EnvLe.cons rfl (EnvLe.cons rfl (EnvLe.cons rfl (EnvLe.cons rfl EnvLe.nil))))))) (T.pick [7, 0, 1, 2, 8, 5, 6] 9 rfl rfl (Nat.le_add_left _ _) rfl (J4 (r6.2.1.1, r6.2.2.1, r6.2.2.2, r6.2.1.2.1, r6.2.1.2.2.1, r6.2.1.2.2.2.1, r6.2.1.2.2.2.2.1, r6.2.1.2.2.2.2.2.1, r6.2.1.2.2.2.2.2.2, true) (x15.1, x15.2) hk2))
     ·replace hk2 := inv_negB hb2 hk2
      refine T.exit ?_
      refine T.then_exit ?_
      refine T.then_exit ?_
      obtain rfl := inv_some hk2
      obtain rfl := hx1 _ rfl
      refine T.in_hit ?_
      refine T.then_normal ?_
      exact T.le EnvLe.nil (T.pick [] 5 rfl rfl (Nat.le_add_left _ _) rfl (J1 () () hr))
    ·refine T.region ?_
     refine T.move .list rfl (wants0 rfl) rfl rfl ?_
     refine T.move .list rfl (wants0 rfl) rfl rfl ?_
     refine T.lenSlice .list rfl (wants0 rfl) rfl rfl ?_
     refine T.bin .list rfl (wants0 rfl) rfl rfl rfl rfl ?_
     refine T.move .list rfl (wants0 rfl) rfl rfl ?_
     refine T.bool (b := (decide (s2.2.2.2.2.2.2.2.2.2.2 < ((l0.length : Int))))) (fun hb10 => ?_) (fun hb10 => ?_)
     ·replace he1 := inv_posB hb10 he1
      refine T.move .list rfl (wants1 rfl rfl rfl hb10) rfl rfl ?_
      refine T.bin .list rfl (wants1 rfl rfl rfl hb10) rfl rfl rfl rfl ?_
      refine T.pickT .list rfl (wants0 rfl) rfl rfl hb10 rfl ?_
      refine T.nil ?_
      refine T.then_normal ?_
      exact T.le (EnvLe.cons rfl (EnvLe.cons rfl (EnvLe.cons rfl (EnvLe.cons rfl (EnvLe.cons rfl EnvLe.nil))))) (T.pick [0, 1, 2, 3, 4] 5 rfl rfl (Nat.le_add_left _ _) rfl (J2 (decide (s2.2.2.2.2.2.2.2.2.2.2 < 30)) () he1))
     ·replace he1 := inv_negB hb10 he1
      refine T.leave .list (wantsNot rfl rfl rfl hb10) rfl ?_
      refine T.leave .list (wantsNot rfl rfl rfl hb10) rfl ?_
      refine T.pickF .list rfl (wants0 rfl) rfl rfl hb10 rfl ?_
      refine T.nil ?_
      refine T.then_normal ?_
      exact T.le (EnvLe.cons rfl (EnvLe.cons rfl (EnvLe.cons rfl (EnvLe.cons rfl (EnvLe.cons rfl EnvLe.nil))))) (T.pick [0, 1, 2, 3, 4] 5 rfl rfl (Nat.le_add_left _ _) rfl (J2 false () he1))
end Go.Proofs.Ytfdogeebkbaadaa
