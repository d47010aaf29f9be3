/- DiskP: what the functions compute, and that the program computes it; printed by a program of ours. -/
import Derived.Test.YtfdogeebkbaadaaRef
set_option linter.unusedVariables false
set_option linter.unusedSimpArgs false
namespace Go.Proofs.Ytfdogeebkbaadaa
open Go.RowKit
noncomputable def law3_DiskPlays.k2 (s2 : Unit) : Option Bool :=
  (law3_told.impl ).bind fun r4 => some r4
noncomputable def law3_DiskPlays.st1 (a0 : Int) (r3 : (Int × Bool × Int × Int × Int × Int × Int)) (s1 : Int × (List (Int × (List UInt8))) × (List (Int × List UInt8)) × Bool × Int × Int × Int × Int × Int × List (List UInt8) × (List (Int × List UInt8)) × Bool × Int × Int × Int × Int × Int) (s3 : Int) : Option (Int ⊕ (Bool ⊕ Unit)) :=
  (if ((decide (s3 < (IntKind.i64.wrap ((bitsOf .and .i64 a0 7) + 1))))) = true then (disk_Disk_Read.impl ((r3.1, r3.2.1, r3.2.2.1, r3.2.2.2.1, r3.2.2.2.2.1, r3.2.2.2.2.2.1, r3.2.2.2.2.2.2)) s1.2.1 s1.2.2.1 s3).bind fun r5 => (ref3_Disk_Read.impl ((false, s1.2.2.2.2.2.2.2.2.2.2.2.2.1, s1.2.2.2.2.2.2.2.2.2.2.2.2.2.1, s1.2.2.2.2.2.2.2.2.2.2.2.2.2.2.1, s1.2.2.2.2.2.2.2.2.2.2.2.2.2.2.2.1, s1.2.2.2.2.2.2.2.2.2.2.2.2.2.2.2.2)) s1.2.2.2.2.2.2.2.2.2.1 s1.2.2.2.2.2.2.2.2.2.2.1 s3).bind fun r6 => (if ((!(decide (r5.1 = r6.1)))) = true then some (.inr (.inl false)) else some (.inl (IntKind.i64.wrap (s3 + 1)))) else some (.inr (.inr ())))
noncomputable def law3_DiskPlays.k1 (a0 : Int) (s1 : Int × (List (Int × (List UInt8))) × (List (Int × List UInt8)) × Bool × Int × Int × Int × Int × Int × List (List UInt8) × (List (Int × List UInt8)) × Bool × Int × Int × Int × Int × Int) : Option Bool :=
  (disk_Disk_Restart.impl ((s1.1, s1.2.2.2.1, s1.2.2.2.2.1, s1.2.2.2.2.2.1, s1.2.2.2.2.2.2.1, s1.2.2.2.2.2.2.2.1, s1.2.2.2.2.2.2.2.2.1)) s1.2.1 s1.2.2.1).bind fun r3 => (loop (law3_DiskPlays.st1 a0 r3 s1) 0).bind (fun e1 => match e1 with | .inl v => some v | .inr v => law3_DiskPlays.k2 v)
noncomputable def law3_DiskPlays.k4 (s4 : Int × (List (Int × (List UInt8))) × (List (Int × List UInt8)) × Bool × Int × Int × Int × Int × Int × List (List UInt8) × (List (Int × List UInt8)) × Bool × Int × Int × Int × Int × Int × Int) (s6 : Int × (List (Int × (List UInt8))) × (List (Int × List UInt8)) × Bool × Int × Int × Int × Int × Int × List (List UInt8) × (List (Int × List UInt8)) × Bool × Int × Int × Int × Int × Int) : Option ((Int × (List (Int × (List UInt8))) × (List (Int × List UInt8)) × Bool × Int × Int × Int × Int × Int × List (List UInt8) × (List (Int × List UInt8)) × Bool × Int × Int × Int × Int × Int × Int) ⊕ (Bool ⊕ (Int × (List (Int × (List UInt8))) × (List (Int × List UInt8)) × Bool × Int × Int × Int × Int × Int × List (List UInt8) × (List (Int × List UInt8)) × Bool × Int × Int × Int × Int × Int))) :=
  some (.inl (s6.1, s6.2.1, s6.2.2.1, s6.2.2.2.1, s6.2.2.2.2.1, s6.2.2.2.2.2.1, s6.2.2.2.2.2.2.1, s6.2.2.2.2.2.2.2.1, s6.2.2.2.2.2.2.2.2.1, s6.2.2.2.2.2.2.2.2.2.1, s6.2.2.2.2.2.2.2.2.2.2.1, s6.2.2.2.2.2.2.2.2.2.2.2.1, s6.2.2.2.2.2.2.2.2.2.2.2.2.1, s6.2.2.2.2.2.2.2.2.2.2.2.2.2.1, s6.2.2.2.2.2.2.2.2.2.2.2.2.2.2.1, s6.2.2.2.2.2.2.2.2.2.2.2.2.2.2.2.1, s6.2.2.2.2.2.2.2.2.2.2.2.2.2.2.2.2, IntKind.i64.wrap (s4.2.2.2.2.2.2.2.2.2.2.2.2.2.2.2.2.2 + 1)))
noncomputable def law3_DiskPlays.k6 (s4 : Int × (List (Int × (List UInt8))) × (List (Int × List UInt8)) × Bool × Int × Int × Int × Int × Int × List (List UInt8) × (List (Int × List UInt8)) × Bool × Int × Int × Int × Int × Int × Int) (s7 : Int × (List (Int × (List UInt8))) × (List (Int × List UInt8)) × Bool × Int × Int × Int × Int × Int × List (List UInt8) × (List (Int × List UInt8)) × Bool × Int × Int × Int × Int × Int) (s8 : Bool) : Option ((Int × (List (Int × (List UInt8))) × (List (Int × List UInt8)) × Bool × Int × Int × Int × Int × Int × List (List UInt8) × (List (Int × List UInt8)) × Bool × Int × Int × Int × Int × Int × Int) ⊕ (Bool ⊕ (Int × (List (Int × (List UInt8))) × (List (Int × List UInt8)) × Bool × Int × Int × Int × Int × Int × List (List UInt8) × (List (Int × List UInt8)) × Bool × Int × Int × Int × Int × Int))) :=
  (if s8 = true then some (.inr (.inl false)) else law3_DiskPlays.k4 s4 (s7.1, s7.2.1, s7.2.2.1, s7.2.2.2.1, s7.2.2.2.2.1, s7.2.2.2.2.2.1, s7.2.2.2.2.2.2.1, s7.2.2.2.2.2.2.2.1, s7.2.2.2.2.2.2.2.2.1, s7.2.2.2.2.2.2.2.2.2.1, s7.2.2.2.2.2.2.2.2.2.2.1, s7.2.2.2.2.2.2.2.2.2.2.2.1, s7.2.2.2.2.2.2.2.2.2.2.2.2.1, s7.2.2.2.2.2.2.2.2.2.2.2.2.2.1, s7.2.2.2.2.2.2.2.2.2.2.2.2.2.2.1, s7.2.2.2.2.2.2.2.2.2.2.2.2.2.2.2.1, s7.2.2.2.2.2.2.2.2.2.2.2.2.2.2.2.2))
noncomputable def law3_DiskPlays.k5 (s4 : Int × (List (Int × (List UInt8))) × (List (Int × List UInt8)) × Bool × Int × Int × Int × Int × Int × List (List UInt8) × (List (Int × List UInt8)) × Bool × Int × Int × Int × Int × Int × Int) (a0 : Int) (s7 : Int × (List (Int × (List UInt8))) × (List (Int × List UInt8)) × Bool × Int × Int × Int × Int × Int × List (List UInt8) × (List (Int × List UInt8)) × Bool × Int × Int × Int × Int × Int) : Option ((Int × (List (Int × (List UInt8))) × (List (Int × List UInt8)) × Bool × Int × Int × Int × Int × Int × List (List UInt8) × (List (Int × List UInt8)) × Bool × Int × Int × Int × Int × Int × Int) ⊕ (Bool ⊕ (Int × (List (Int × (List UInt8))) × (List (Int × List UInt8)) × Bool × Int × Int × Int × Int × Int × List (List UInt8) × (List (Int × List UInt8)) × Bool × Int × Int × Int × Int × Int))) :=
  (disk_Disk_Down.impl ((s7.1, s7.2.2.2.1, s7.2.2.2.2.1, s7.2.2.2.2.2.1, s7.2.2.2.2.2.2.1, s7.2.2.2.2.2.2.2.1, s7.2.2.2.2.2.2.2.2.1)) s7.2.1 s7.2.2.1).bind fun r7 => (if ((decide (r7 = s7.2.2.2.2.2.2.2.2.2.2.2.1))) = true then (disk_Disk_Life.impl ((s7.1, s7.2.2.2.1, s7.2.2.2.2.1, s7.2.2.2.2.2.1, s7.2.2.2.2.2.2.1, s7.2.2.2.2.2.2.2.1, s7.2.2.2.2.2.2.2.2.1)) s7.2.1 s7.2.2.1).bind fun r8 => (if ((decide (r8 = s7.2.2.2.2.2.2.2.2.2.2.2.2.2.2.2.2))) = true then (disk_Disk_Open.impl ((s7.1, s7.2.2.2.1, s7.2.2.2.2.1, s7.2.2.2.2.2.1, s7.2.2.2.2.2.2.1, s7.2.2.2.2.2.2.2.1, s7.2.2.2.2.2.2.2.2.1)) s7.2.1 s7.2.2.1).bind fun r9 => (if ((decide (r9 = ((s7.2.2.2.2.2.2.2.2.2.2.1.length : Int))))) = true then (disk_Disk_Blocks.impl ((s7.1, s7.2.2.2.1, s7.2.2.2.2.1, s7.2.2.2.2.2.1, s7.2.2.2.2.2.2.1, s7.2.2.2.2.2.2.2.1, s7.2.2.2.2.2.2.2.2.1)) s7.2.1 s7.2.2.1).bind fun r10 => law3_DiskPlays.k6 s4 s7 (!(decide (r10 = (IntKind.i64.wrap ((bitsOf .and .i64 a0 7) + 1))))) else law3_DiskPlays.k6 s4 s7 true) else law3_DiskPlays.k6 s4 s7 true) else law3_DiskPlays.k6 s4 s7 true)
noncomputable def law3_DiskPlays.st3 (r12 : Int × (Int × Bool × Int × Int × Int × Int × Int) × (List (Int × (List UInt8))) × (List (Int × List UInt8))) (r14 : Int × (Bool × Int × Int × Int × Int × Int) × List (List UInt8) × (List (Int × List UInt8))) (s9 : List UInt8 × Int) : Option ((List UInt8 × Int) ⊕ (Int × (List (Int × (List UInt8))) × (List (Int × List UInt8)) × Bool × Int × Int × Int × Int × Int × List (List UInt8) × (List (Int × List UInt8)) × Bool × Int × Int × Int × Int × Int)) :=
  (if ((decide (s9.2 < ((s9.1.length : Int))))) = true then chk (0 ≤ s9.2 ∧ s9.2 < (s9.1.length : Int)) (some (.inl (((s9.1).set (s9.2 : Int).toNat (9 : UInt8)), IntKind.i64.wrap (s9.2 + 1)))) else some (.inr (r12.2.1.1, r12.2.2.1, r12.2.2.2, r12.2.1.2.1, r12.2.1.2.2.1, r12.2.1.2.2.2.1, r12.2.1.2.2.2.2.1, r12.2.1.2.2.2.2.2.1, r12.2.1.2.2.2.2.2.2, r14.2.2.1, r14.2.2.2, r14.2.1.1, r14.2.1.2.1, r14.2.1.2.2.1, r14.2.1.2.2.2.1, r14.2.1.2.2.2.2.1, r14.2.1.2.2.2.2.2)))
noncomputable def law3_DiskPlays.st4 (s4 : Int × (List (Int × (List UInt8))) × (List (Int × List UInt8)) × Bool × Int × Int × Int × Int × Int × List (List UInt8) × (List (Int × List UInt8)) × Bool × Int × Int × Int × Int × Int × Int) (s11 : List UInt8 × Int) : Option ((List UInt8 × Int) ⊕ (Int × (List (Int × (List UInt8))) × (List (Int × List UInt8)) × Bool × Int × Int × Int × Int × Int × List (List UInt8) × (List (Int × List UInt8)) × Bool × Int × Int × Int × Int × Int)) :=
  (if ((decide (s11.2 < ((s11.1.length : Int))))) = true then chk (0 ≤ s11.2 ∧ s11.2 < (s11.1.length : Int)) (some (.inl (((s11.1).set (s11.2 : Int).toNat (9 : UInt8)), IntKind.i64.wrap (s11.2 + 1)))) else some (.inr (s4.1, s4.2.1, s4.2.2.1, s4.2.2.2.1, s4.2.2.2.2.1, s4.2.2.2.2.2.1, s4.2.2.2.2.2.2.1, s4.2.2.2.2.2.2.2.1, s4.2.2.2.2.2.2.2.2.1, s4.2.2.2.2.2.2.2.2.2.1, s4.2.2.2.2.2.2.2.2.2.2.1, s4.2.2.2.2.2.2.2.2.2.2.2.1, s4.2.2.2.2.2.2.2.2.2.2.2.2.1, s4.2.2.2.2.2.2.2.2.2.2.2.2.2.1, s4.2.2.2.2.2.2.2.2.2.2.2.2.2.2.1, s4.2.2.2.2.2.2.2.2.2.2.2.2.2.2.2.1, s4.2.2.2.2.2.2.2.2.2.2.2.2.2.2.2.2.1)))
noncomputable def law3_DiskPlays.k7 (s4 : Int × (List (Int × (List UInt8))) × (List (Int × List UInt8)) × Bool × Int × Int × Int × Int × Int × List (List UInt8) × (List (Int × List UInt8)) × Bool × Int × Int × Int × Int × Int × Int) (r24 : List UInt8 × Int) (a0 : Int) (s10 : Bool) : Option ((Int × (List (Int × (List UInt8))) × (List (Int × List UInt8)) × Bool × Int × Int × Int × Int × Int × List (List UInt8) × (List (Int × List UInt8)) × Bool × Int × Int × Int × Int × Int × Int) ⊕ (Bool ⊕ (Int × (List (Int × (List UInt8))) × (List (Int × List UInt8)) × Bool × Int × Int × Int × Int × Int × List (List UInt8) × (List (Int × List UInt8)) × Bool × Int × Int × Int × Int × Int))) :=
  (if s10 = true then some (.inr (.inl false)) else (loop (law3_DiskPlays.st4 s4) (r24.1, 0)).bind (fun e4 => law3_DiskPlays.k5 s4 a0 e4))
noncomputable def law3_DiskPlays.k3 (s4 : Int × (List (Int × (List UInt8))) × (List (Int × List UInt8)) × Bool × Int × Int × Int × Int × Int × List (List UInt8) × (List (Int × List UInt8)) × Bool × Int × Int × Int × Int × Int × Int) (l1 : List (Int × Int × Int × (List UInt8) × (Int × Int × Int × Int))) (a0 : Int) (s5 : Bool) : Option ((Int × (List (Int × (List UInt8))) × (List (Int × List UInt8)) × Bool × Int × Int × Int × Int × Int × List (List UInt8) × (List (Int × List UInt8)) × Bool × Int × Int × Int × Int × Int × Int) ⊕ (Bool ⊕ (Int × (List (Int × (List UInt8))) × (List (Int × List UInt8)) × Bool × Int × Int × Int × Int × Int × List (List UInt8) × (List (Int × List UInt8)) × Bool × Int × Int × Int × Int × Int))) :=
  (if s5 = true then chk (0 ≤ s4.2.2.2.2.2.2.2.2.2.2.2.2.2.2.2.2.2 ∧ s4.2.2.2.2.2.2.2.2.2.2.2.2.2.2.2.2.2 < (l1.length : Int)) ((if ((decide (((((((l1).getD (s4.2.2.2.2.2.2.2.2.2.2.2.2.2.2.2.2.2 : Int).toNat default)).1))) = 0))) = true then (law3_bytes.impl ((((((l1).getD (s4.2.2.2.2.2.2.2.2.2.2.2.2.2.2.2.2.2 : Int).toNat default)).1), ((((l1).getD (s4.2.2.2.2.2.2.2.2.2.2.2.2.2.2.2.2.2 : Int).toNat default)).2.1), ((((l1).getD (s4.2.2.2.2.2.2.2.2.2.2.2.2.2.2.2.2.2 : Int).toNat default)).2.2.1), ((((l1).getD (s4.2.2.2.2.2.2.2.2.2.2.2.2.2.2.2.2.2 : Int).toNat default)).2.2.2.1), ((((((l1).getD (s4.2.2.2.2.2.2.2.2.2.2.2.2.2.2.2.2.2 : Int).toNat default)).2.2.2.2).1), (((((l1).getD (s4.2.2.2.2.2.2.2.2.2.2.2.2.2.2.2.2.2 : Int).toNat default)).2.2.2.2).2.1), (((((l1).getD (s4.2.2.2.2.2.2.2.2.2.2.2.2.2.2.2.2.2 : Int).toNat default)).2.2.2.2).2.2.1), (((((l1).getD (s4.2.2.2.2.2.2.2.2.2.2.2.2.2.2.2.2.2 : Int).toNat default)).2.2.2.2).2.2.2))))).bind fun r11 => (disk_Disk_Write.impl ((s4.1, s4.2.2.2.1, s4.2.2.2.2.1, s4.2.2.2.2.2.1, s4.2.2.2.2.2.2.1, s4.2.2.2.2.2.2.2.1, s4.2.2.2.2.2.2.2.2.1)) s4.2.1 s4.2.2.1 (((((l1).getD (s4.2.2.2.2.2.2.2.2.2.2.2.2.2.2.2.2.2 : Int).toNat default)).2.1)) r11).bind fun r12 => (law3_bytes.impl ((((((l1).getD (s4.2.2.2.2.2.2.2.2.2.2.2.2.2.2.2.2.2 : Int).toNat default)).1), ((((l1).getD (s4.2.2.2.2.2.2.2.2.2.2.2.2.2.2.2.2.2 : Int).toNat default)).2.1), ((((l1).getD (s4.2.2.2.2.2.2.2.2.2.2.2.2.2.2.2.2.2 : Int).toNat default)).2.2.1), ((((l1).getD (s4.2.2.2.2.2.2.2.2.2.2.2.2.2.2.2.2.2 : Int).toNat default)).2.2.2.1), ((((((l1).getD (s4.2.2.2.2.2.2.2.2.2.2.2.2.2.2.2.2.2 : Int).toNat default)).2.2.2.2).1), (((((l1).getD (s4.2.2.2.2.2.2.2.2.2.2.2.2.2.2.2.2.2 : Int).toNat default)).2.2.2.2).2.1), (((((l1).getD (s4.2.2.2.2.2.2.2.2.2.2.2.2.2.2.2.2.2 : Int).toNat default)).2.2.2.2).2.2.1), (((((l1).getD (s4.2.2.2.2.2.2.2.2.2.2.2.2.2.2.2.2.2 : Int).toNat default)).2.2.2.2).2.2.2))))).bind fun r13 => (ref3_Disk_Write.impl ((s4.2.2.2.2.2.2.2.2.2.2.2.1, s4.2.2.2.2.2.2.2.2.2.2.2.2.1, s4.2.2.2.2.2.2.2.2.2.2.2.2.2.1, s4.2.2.2.2.2.2.2.2.2.2.2.2.2.2.1, s4.2.2.2.2.2.2.2.2.2.2.2.2.2.2.2.1, s4.2.2.2.2.2.2.2.2.2.2.2.2.2.2.2.2.1)) s4.2.2.2.2.2.2.2.2.2.1 s4.2.2.2.2.2.2.2.2.2.2.1 (((((l1).getD (s4.2.2.2.2.2.2.2.2.2.2.2.2.2.2.2.2.2 : Int).toNat default)).2.1)) r13).bind fun r14 => (if ((!(decide (r12.1 = r14.1)))) = true then some (.inr (.inl false)) else (loop (law3_DiskPlays.st3 r12 r14) (r11, 0)).bind (fun e3 => law3_DiskPlays.k5 s4 a0 e3)) else (if ((decide (((((((l1).getD (s4.2.2.2.2.2.2.2.2.2.2.2.2.2.2.2.2.2 : Int).toNat default)).1))) = 1))) = true then (disk_Disk_Flush.impl ((s4.1, s4.2.2.2.1, s4.2.2.2.2.1, s4.2.2.2.2.2.1, s4.2.2.2.2.2.2.1, s4.2.2.2.2.2.2.2.1, s4.2.2.2.2.2.2.2.2.1)) s4.2.1 s4.2.2.1).bind fun r15 => (ref3_Disk_Flush.impl ((s4.2.2.2.2.2.2.2.2.2.2.2.1, s4.2.2.2.2.2.2.2.2.2.2.2.2.1, s4.2.2.2.2.2.2.2.2.2.2.2.2.2.1, s4.2.2.2.2.2.2.2.2.2.2.2.2.2.2.1, s4.2.2.2.2.2.2.2.2.2.2.2.2.2.2.2.1, s4.2.2.2.2.2.2.2.2.2.2.2.2.2.2.2.2.1)) s4.2.2.2.2.2.2.2.2.2.1 s4.2.2.2.2.2.2.2.2.2.2.1).bind fun r16 => (if ((!(decide (r15.1 = r16.1)))) = true then some (.inr (.inl false)) else law3_DiskPlays.k5 s4 a0 (r15.2.1.1, r15.2.2.1, r15.2.2.2, r15.2.1.2.1, r15.2.1.2.2.1, r15.2.1.2.2.2.1, r15.2.1.2.2.2.2.1, r15.2.1.2.2.2.2.2.1, r15.2.1.2.2.2.2.2.2, r16.2.2.1, r16.2.2.2, r16.2.1.1, r16.2.1.2.1, r16.2.1.2.2.1, r16.2.1.2.2.2.1, r16.2.1.2.2.2.2.1, r16.2.1.2.2.2.2.2)) else (if ((decide (((((((l1).getD (s4.2.2.2.2.2.2.2.2.2.2.2.2.2.2.2.2.2 : Int).toNat default)).1))) = 3))) = true then (disk_Disk_Arm.impl ((s4.1, s4.2.2.2.1, s4.2.2.2.2.1, s4.2.2.2.2.2.1, s4.2.2.2.2.2.2.1, s4.2.2.2.2.2.2.2.1, s4.2.2.2.2.2.2.2.2.1)) s4.2.1 s4.2.2.1 (((((((l1).getD (s4.2.2.2.2.2.2.2.2.2.2.2.2.2.2.2.2.2 : Int).toNat default)).2.2.2.2).1), (((((l1).getD (s4.2.2.2.2.2.2.2.2.2.2.2.2.2.2.2.2.2 : Int).toNat default)).2.2.2.2).2.1), (((((l1).getD (s4.2.2.2.2.2.2.2.2.2.2.2.2.2.2.2.2.2 : Int).toNat default)).2.2.2.2).2.2.1), (((((l1).getD (s4.2.2.2.2.2.2.2.2.2.2.2.2.2.2.2.2.2 : Int).toNat default)).2.2.2.2).2.2.2)))).bind fun r17 => (ref3_Disk_Arm.impl ((s4.2.2.2.2.2.2.2.2.2.2.2.1, s4.2.2.2.2.2.2.2.2.2.2.2.2.1, s4.2.2.2.2.2.2.2.2.2.2.2.2.2.1, s4.2.2.2.2.2.2.2.2.2.2.2.2.2.2.1, s4.2.2.2.2.2.2.2.2.2.2.2.2.2.2.2.1, s4.2.2.2.2.2.2.2.2.2.2.2.2.2.2.2.2.1)) s4.2.2.2.2.2.2.2.2.2.1 s4.2.2.2.2.2.2.2.2.2.2.1 (((((((l1).getD (s4.2.2.2.2.2.2.2.2.2.2.2.2.2.2.2.2.2 : Int).toNat default)).2.2.2.2).1), (((((l1).getD (s4.2.2.2.2.2.2.2.2.2.2.2.2.2.2.2.2.2 : Int).toNat default)).2.2.2.2).2.1), (((((l1).getD (s4.2.2.2.2.2.2.2.2.2.2.2.2.2.2.2.2.2 : Int).toNat default)).2.2.2.2).2.2.1), (((((l1).getD (s4.2.2.2.2.2.2.2.2.2.2.2.2.2.2.2.2.2 : Int).toNat default)).2.2.2.2).2.2.2)))).bind fun r18 => law3_DiskPlays.k5 s4 a0 (r17.1, s4.2.1, s4.2.2.1, r17.2.1, r17.2.2.1, r17.2.2.2.1, r17.2.2.2.2.1, r17.2.2.2.2.2.1, r17.2.2.2.2.2.2, s4.2.2.2.2.2.2.2.2.2.1, s4.2.2.2.2.2.2.2.2.2.2.1, r18.1, r18.2.1, r18.2.2.1, r18.2.2.2.1, r18.2.2.2.2.1, r18.2.2.2.2.2) else (if ((decide (((((((l1).getD (s4.2.2.2.2.2.2.2.2.2.2.2.2.2.2.2.2.2 : Int).toNat default)).1))) = 4))) = true then (disk_Disk_Cut.impl ((s4.1, s4.2.2.2.1, s4.2.2.2.2.1, s4.2.2.2.2.2.1, s4.2.2.2.2.2.2.1, s4.2.2.2.2.2.2.2.1, s4.2.2.2.2.2.2.2.2.1)) s4.2.1 s4.2.2.1 (((((((l1).getD (s4.2.2.2.2.2.2.2.2.2.2.2.2.2.2.2.2.2 : Int).toNat default)).2.2.2.2).1), (((((l1).getD (s4.2.2.2.2.2.2.2.2.2.2.2.2.2.2.2.2.2 : Int).toNat default)).2.2.2.2).2.1), (((((l1).getD (s4.2.2.2.2.2.2.2.2.2.2.2.2.2.2.2.2.2 : Int).toNat default)).2.2.2.2).2.2.1), (((((l1).getD (s4.2.2.2.2.2.2.2.2.2.2.2.2.2.2.2.2.2 : Int).toNat default)).2.2.2.2).2.2.2)))).bind fun r19 => (ref3_Disk_Cut.impl ((s4.2.2.2.2.2.2.2.2.2.2.2.1, s4.2.2.2.2.2.2.2.2.2.2.2.2.1, s4.2.2.2.2.2.2.2.2.2.2.2.2.2.1, s4.2.2.2.2.2.2.2.2.2.2.2.2.2.2.1, s4.2.2.2.2.2.2.2.2.2.2.2.2.2.2.2.1, s4.2.2.2.2.2.2.2.2.2.2.2.2.2.2.2.2.1)) s4.2.2.2.2.2.2.2.2.2.1 s4.2.2.2.2.2.2.2.2.2.2.1 (((((((l1).getD (s4.2.2.2.2.2.2.2.2.2.2.2.2.2.2.2.2.2 : Int).toNat default)).2.2.2.2).1), (((((l1).getD (s4.2.2.2.2.2.2.2.2.2.2.2.2.2.2.2.2.2 : Int).toNat default)).2.2.2.2).2.1), (((((l1).getD (s4.2.2.2.2.2.2.2.2.2.2.2.2.2.2.2.2.2 : Int).toNat default)).2.2.2.2).2.2.1), (((((l1).getD (s4.2.2.2.2.2.2.2.2.2.2.2.2.2.2.2.2.2 : Int).toNat default)).2.2.2.2).2.2.2)))).bind fun r20 => law3_DiskPlays.k5 s4 a0 (r19.1.1, r19.2.1, r19.2.2, r19.1.2.1, r19.1.2.2.1, r19.1.2.2.2.1, r19.1.2.2.2.2.1, r19.1.2.2.2.2.2.1, r19.1.2.2.2.2.2.2, r20.2.1, r20.2.2, r20.1.1, r20.1.2.1, r20.1.2.2.1, r20.1.2.2.2.1, r20.1.2.2.2.2.1, r20.1.2.2.2.2.2) else (if ((decide (((((((l1).getD (s4.2.2.2.2.2.2.2.2.2.2.2.2.2.2.2.2.2 : Int).toNat default)).1))) = 5))) = true then (disk_Disk_Restart.impl ((s4.1, s4.2.2.2.1, s4.2.2.2.2.1, s4.2.2.2.2.2.1, s4.2.2.2.2.2.2.1, s4.2.2.2.2.2.2.2.1, s4.2.2.2.2.2.2.2.2.1)) s4.2.1 s4.2.2.1).bind fun r21 => law3_DiskPlays.k5 s4 a0 (r21.1, s4.2.1, s4.2.2.1, r21.2.1, r21.2.2.1, r21.2.2.2.1, r21.2.2.2.2.1, r21.2.2.2.2.2.1, r21.2.2.2.2.2.2, s4.2.2.2.2.2.2.2.2.2.1, s4.2.2.2.2.2.2.2.2.2.2.1, false, s4.2.2.2.2.2.2.2.2.2.2.2.2.1, s4.2.2.2.2.2.2.2.2.2.2.2.2.2.1, s4.2.2.2.2.2.2.2.2.2.2.2.2.2.2.1, s4.2.2.2.2.2.2.2.2.2.2.2.2.2.2.2.1, s4.2.2.2.2.2.2.2.2.2.2.2.2.2.2.2.2.1) else (if ((decide (((((((l1).getD (s4.2.2.2.2.2.2.2.2.2.2.2.2.2.2.2.2.2 : Int).toNat default)).1))) = 6))) = true then (disk_Disk_Flip.impl ((s4.1, s4.2.2.2.1, s4.2.2.2.2.1, s4.2.2.2.2.2.1, s4.2.2.2.2.2.2.1, s4.2.2.2.2.2.2.2.1, s4.2.2.2.2.2.2.2.2.1)) s4.2.1 s4.2.2.1 (((((l1).getD (s4.2.2.2.2.2.2.2.2.2.2.2.2.2.2.2.2.2 : Int).toNat default)).2.1)) (((((l1).getD (s4.2.2.2.2.2.2.2.2.2.2.2.2.2.2.2.2.2 : Int).toNat default)).2.2.1))).bind fun r22 => (ref3_Disk_Flip.impl ((s4.2.2.2.2.2.2.2.2.2.2.2.1, s4.2.2.2.2.2.2.2.2.2.2.2.2.1, s4.2.2.2.2.2.2.2.2.2.2.2.2.2.1, s4.2.2.2.2.2.2.2.2.2.2.2.2.2.2.1, s4.2.2.2.2.2.2.2.2.2.2.2.2.2.2.2.1, s4.2.2.2.2.2.2.2.2.2.2.2.2.2.2.2.2.1)) s4.2.2.2.2.2.2.2.2.2.1 s4.2.2.2.2.2.2.2.2.2.2.1 (((((l1).getD (s4.2.2.2.2.2.2.2.2.2.2.2.2.2.2.2.2.2 : Int).toNat default)).2.1)) (((((l1).getD (s4.2.2.2.2.2.2.2.2.2.2.2.2.2.2.2.2.2 : Int).toNat default)).2.2.1))).bind fun r23 => (if ((!(decide (r22.1 = r23.1)))) = true then some (.inr (.inl false)) else law3_DiskPlays.k5 s4 a0 (s4.1, r22.2.1, r22.2.2, s4.2.2.2.1, s4.2.2.2.2.1, s4.2.2.2.2.2.1, s4.2.2.2.2.2.2.1, s4.2.2.2.2.2.2.2.1, s4.2.2.2.2.2.2.2.2.1, r23.2.1, r23.2.2, s4.2.2.2.2.2.2.2.2.2.2.2.1, s4.2.2.2.2.2.2.2.2.2.2.2.2.1, s4.2.2.2.2.2.2.2.2.2.2.2.2.2.1, s4.2.2.2.2.2.2.2.2.2.2.2.2.2.2.1, s4.2.2.2.2.2.2.2.2.2.2.2.2.2.2.2.1, s4.2.2.2.2.2.2.2.2.2.2.2.2.2.2.2.2.1)) else (disk_Disk_Read.impl ((s4.1, s4.2.2.2.1, s4.2.2.2.2.1, s4.2.2.2.2.2.1, s4.2.2.2.2.2.2.1, s4.2.2.2.2.2.2.2.1, s4.2.2.2.2.2.2.2.2.1)) s4.2.1 s4.2.2.1 (((((l1).getD (s4.2.2.2.2.2.2.2.2.2.2.2.2.2.2.2.2.2 : Int).toNat default)).2.1))).bind fun r24 => (ref3_Disk_Read.impl ((s4.2.2.2.2.2.2.2.2.2.2.2.1, s4.2.2.2.2.2.2.2.2.2.2.2.2.1, s4.2.2.2.2.2.2.2.2.2.2.2.2.2.1, s4.2.2.2.2.2.2.2.2.2.2.2.2.2.2.1, s4.2.2.2.2.2.2.2.2.2.2.2.2.2.2.2.1, s4.2.2.2.2.2.2.2.2.2.2.2.2.2.2.2.2.1)) s4.2.2.2.2.2.2.2.2.2.1 s4.2.2.2.2.2.2.2.2.2.2.1 (((((l1).getD (s4.2.2.2.2.2.2.2.2.2.2.2.2.2.2.2.2.2 : Int).toNat default)).2.1))).bind fun r25 => (if ((decide (r24.2 = r25.2))) = true then law3_DiskPlays.k7 s4 r24 a0 (!(decide (r24.1 = r25.1))) else law3_DiskPlays.k7 s4 r24 a0 true)))))))) else some (.inr (.inr (s4.1, s4.2.1, s4.2.2.1, s4.2.2.2.1, s4.2.2.2.2.1, s4.2.2.2.2.2.1, s4.2.2.2.2.2.2.1, s4.2.2.2.2.2.2.2.1, s4.2.2.2.2.2.2.2.2.1, s4.2.2.2.2.2.2.2.2.2.1, s4.2.2.2.2.2.2.2.2.2.2.1, s4.2.2.2.2.2.2.2.2.2.2.2.1, s4.2.2.2.2.2.2.2.2.2.2.2.2.1, s4.2.2.2.2.2.2.2.2.2.2.2.2.2.1, s4.2.2.2.2.2.2.2.2.2.2.2.2.2.2.1, s4.2.2.2.2.2.2.2.2.2.2.2.2.2.2.2.1, s4.2.2.2.2.2.2.2.2.2.2.2.2.2.2.2.2.1))))
noncomputable def law3_DiskPlays.st2 (l1 : List (Int × Int × Int × (List UInt8) × (Int × Int × Int × Int))) (a0 : Int) (s4 : Int × (List (Int × (List UInt8))) × (List (Int × List UInt8)) × Bool × Int × Int × Int × Int × Int × List (List UInt8) × (List (Int × List UInt8)) × Bool × Int × Int × Int × Int × Int × Int) : Option ((Int × (List (Int × (List UInt8))) × (List (Int × List UInt8)) × Bool × Int × Int × Int × Int × Int × List (List UInt8) × (List (Int × List UInt8)) × Bool × Int × Int × Int × Int × Int × Int) ⊕ (Bool ⊕ (Int × (List (Int × (List UInt8))) × (List (Int × List UInt8)) × Bool × Int × Int × Int × Int × Int × List (List UInt8) × (List (Int × List UInt8)) × Bool × Int × Int × Int × Int × Int))) :=
  (if ((decide (s4.2.2.2.2.2.2.2.2.2.2.2.2.2.2.2.2.2 < ((l1.length : Int))))) = true then law3_DiskPlays.k3 s4 l1 a0 (decide (s4.2.2.2.2.2.2.2.2.2.2.2.2.2.2.2.2.2 < 60)) else law3_DiskPlays.k3 s4 l1 a0 false)
noncomputable def law3_DiskPlays.impl (a0 : Int) (l1 : List (Int × Int × Int × (List UInt8) × (Int × Int × Int × Int))) : Option Bool :=
  (disk_New.impl (IntKind.i64.wrap ((bitsOf .and .i64 a0 7) + 1))).bind fun r1 => (match r1 with | (none, r1p1) => (some false) | (some r1p0, r1p1) => ((if ((!(decide (r1p1 = 0)))) = true then some false else (ref3_New.impl (IntKind.i64.wrap ((bitsOf .and .i64 a0 7) + 1))).bind fun r2 => (loop (law3_DiskPlays.st2 l1 a0) (r1p0.1.1, r1p0.2.1, r1p0.2.2, r1p0.1.2.1, r1p0.1.2.2.1, r1p0.1.2.2.2.1, r1p0.1.2.2.2.2.1, r1p0.1.2.2.2.2.2.1, r1p0.1.2.2.2.2.2.2, r2.2.1, r2.2.2, r2.1.1, r2.1.2.1, r2.1.2.2.1, r2.1.2.2.2.1, r2.1.2.2.2.2.1, r2.1.2.2.2.2.2, 0)).bind (fun e2 => match e2 with | .inl v => some v | .inr v => law3_DiskPlays.k1 a0 v))))
set_option maxRecDepth 100000 in
set_option maxHeartbeats 4000000 in
theorem law3_DiskPlays.c {B : World} {hs : List MP} {w : World} {a0 : Int} {i1 c1 : Nat} {A1 : Option Addr} {l1 : List (Int × Int × Int × (List UInt8) × (Int × Int × Int × Int))} (hS : St B (hs) w) (h1 : (hs)[i1]? = some (Ro (Elt.pair E64 (Elt.pair E64 (Elt.pair E64 (Elt.pair (Elt.slice E8) (Elt.pair E64 (Elt.pair EU64 (Elt.pair E64 E64))))))) A1 c1 l1)) {r : Bool} (hr : law3_DiskPlays.impl a0 l1 = some r) :
    Calls Try.prog 8 #[.int .i64 a0, .slice A1 l1.length c1] w fun e w' => ∃ x : Unit, e = .returned (.bool r) ∧ St B (hs) w' := by
 unfold law3_DiskPlays.impl at hr
 refine calls_T Try.func8 rfl rfl rfl hS ?_
 refine T.front i1 h1 ?_
 refine T.seq ?_
 refine T.region ?_
 refine T.assign .list rfl (wants0 rfl) rfl rfl ?_
 refine T.nil ?_
 refine T.then_normal ?_
 refine T.seq ?_
 refine T.region ?_
 refine T.move .list rfl (wants0 rfl) rfl rfl ?_
 refine T.bin .list rfl (wants0 rfl) rfl rfl rfl rfl ?_
 refine T.bin .list rfl (wants0 rfl) rfl rfl rfl rfl ?_
 refine T.assign .list rfl (wants0 rfl) rfl rfl ?_
 refine T.nil ?_
 refine T.then_normal ?_
 refine T.seq ?_
 refine T.region ?_
 refine T.move .list rfl (wants0 rfl) rfl rfl ?_
 obtain ⟨r1, hg1, hr⟩ := inv_bind hr
 rcases r1 with ⟨_ | r1p0, r1p1⟩
 ·dsimp only at hr
  refine T.call (v := fun (x1 : (Nat) × (Nat) × (Option Addr × Nat) × (Ads)) => .tuple #[.pointer none, .int .i64 r1p1]) (hs' := fun x1 => Ro (Elt.pair E64 (Elt.pair E64 (Elt.pair E64 (Elt.pair (Elt.slice E8) (Elt.pair E64 (Elt.pair EU64 (Elt.pair E64 E64))))))) A1 c1 l1 :: hs) .list (wants0 rfl) rfl (run_callF (vs := [_]) rfl Try.func9 rfl (by decide) rfl) (fun w hS => disk_New.c hS  hg1) (fun x1 => ?_)
  refine T.move .list rfl (wants0 rfl) rfl rfl ?_
  refine T.extract .list rfl (wants0 rfl) rfl rfl rfl ?_
  refine T.extract .list rfl (wants0 rfl) rfl rfl rfl ?_
  refine T.assign .list rfl (wants0 rfl) rfl rfl ?_
  refine T.assign .list rfl (wants0 rfl) rfl rfl ?_
  refine T.nil ?_
  refine T.then_normal ?_
  refine T.seq ?_
  refine T.seq ?_
  refine T.region ?_
  refine T.move .list rfl (wants0 rfl) rfl rfl ?_
  refine T.ptrEq (pt := 69) .list rfl (wants0 rfl) rfl rfl rfl (by kernel_rfl) (.inr rfl) rfl ?_
  refine T.move .list rfl (wants0 rfl) rfl rfl ?_
  refine T.leave .list (wantsNot rfl rfl rfl rfl) rfl ?_
  refine T.leave .list (wantsNot rfl rfl rfl rfl) rfl ?_
  refine T.pickT .list rfl (wants0 rfl) rfl rfl rfl rfl ?_
  refine T.nil ?_
  refine T.then_normal ?_
  refine T.condT rfl rfl ?_
  refine T.seq ?_
  refine T.region ?_
  refine T.assign .list rfl (wants0 rfl) rfl rfl ?_
  refine T.nil ?_
  refine T.then_normal ?_
  refine T.ret ?_
  refine T.then_ret ?_
  obtain rfl := inv_some hr
  refine T.pick [] 1 rfl rfl (Nat.le_add_left _ _) rfl ?_
  refine T.ret1 rfl rfl (fun w hS => ⟨(), rfl, hS⟩)
 ·dsimp only at hr
  refine T.call (v := fun (x2 : (Nat) × (Nat) × (Option Addr × Nat) × (Ads)) => .tuple #[.pointer (some ⟨x2.1, 0, none⟩), .int .i64 r1p1]) (hs' := fun x2 => Cl x2.1 69 [.int .i64 r1p0.1.1, .map (some x2.2.1), .slice x2.2.2.1.1 r1p0.2.2.length x2.2.2.1.2, .bool r1p0.1.2.1, .int .i64 r1p0.1.2.2.1, .int .i64 r1p0.1.2.2.2.1, .int .u64 r1p0.1.2.2.2.2.1, .int .i64 r1p0.1.2.2.2.2.2.1, .int .i64 r1p0.1.2.2.2.2.2.2] :: Mp (Elt.slice E8) x2.2.1 r1p0.2.1 :: Hb 71 x2.2.2.1.1 x2.2.2.1.2 x2.2.2.2 r1p0.2.2 :: Bb 5 x2.2.2.2 r1p0.2.2 :: Ro (Elt.pair E64 (Elt.pair E64 (Elt.pair E64 (Elt.pair (Elt.slice E8) (Elt.pair E64 (Elt.pair EU64 (Elt.pair E64 E64))))))) A1 c1 l1 :: hs) .list (wants0 rfl) rfl (run_callF (vs := [_]) rfl Try.func9 rfl (by decide) rfl) (fun w hS => disk_New.c hS  hg1) (fun x2 => ?_)
  refine T.move .list rfl (wants0 rfl) rfl rfl ?_
  refine T.extract .list rfl (wants0 rfl) rfl rfl rfl ?_
  refine T.extract .list rfl (wants0 rfl) rfl rfl rfl ?_
  refine T.assign .list rfl (wants0 rfl) rfl rfl ?_
  refine T.assign .list rfl (wants0 rfl) rfl rfl ?_
  refine T.nil ?_
  refine T.then_normal ?_
  refine T.seq ?_
  refine T.seq ?_
  refine T.region ?_
  refine T.move .list rfl (wants0 rfl) rfl rfl ?_
  refine T.ptrEq (pt := 69) .list rfl (wants0 rfl) rfl rfl rfl (by kernel_rfl) (.inr rfl) rfl ?_
  refine T.move .list rfl (wants0 rfl) rfl rfl ?_
  refine T.move .list rfl (wants1 rfl rfl rfl rfl) rfl rfl ?_
  refine T.bin .list rfl (wants1 rfl rfl rfl rfl) rfl rfl rfl rfl ?_
  refine T.pickF .list rfl (wants0 rfl) rfl rfl rfl rfl ?_
  refine T.nil ?_
  refine T.then_normal ?_
  refine T.cond rfl (fun hb1 => ?_) (fun hb1 => ?_)
  ·replace hr := inv_posB hb1 hr
   refine T.seq ?_
   refine T.region ?_
   refine T.assign .list rfl (wants0 rfl) rfl rfl ?_
   refine T.nil ?_
   refine T.then_normal ?_
   refine T.ret ?_
   refine T.then_ret ?_
   obtain rfl := inv_some hr
   refine T.pick [] 5 rfl rfl (Nat.le_add_left _ _) rfl ?_
   refine T.ret1 rfl rfl (fun w hS => ⟨(), rfl, hS⟩)
  ·replace hr := inv_negB hb1 hr
   refine T.skip ?_
   refine T.then_normal ?_
   refine T.seq ?_
   refine T.region ?_
   refine T.move .list rfl (wants0 rfl) rfl rfl ?_
   obtain ⟨r2, hg2, hr⟩ := inv_bind hr
   refine T.call .list (wants0 rfl) rfl (run_callF (vs := [_]) rfl Try.func24 rfl (by decide) rfl) (fun w hS => ref3_New.c hS  hg2) (fun x3 => ?_)
   refine T.assign .list rfl (wants0 rfl) rfl rfl ?_
   refine T.nil ?_
   refine T.then_normal ?_
   refine T.seqJ (fun (s1 : Int × (List (Int × (List UInt8))) × (List (Int × List UInt8)) × Bool × Int × Int × Int × Int × Int × List (List UInt8) × (List (Int × List UInt8)) × Bool × Int × Int × Int × Int × Int) (x4 : (Option Addr × Nat) × (Ads) × (Option Addr × Nat) × (Option Addr × Nat) × (Ads)) => [(0, .int .i64 (IntKind.i64.wrap ((bitsOf .and .i64 a0 7) + 1))), (5, .pointer (some ⟨x2.1, 0, none⟩)), (7, .pointer (some ⟨x3.1, 0, none⟩))]) (fun s1 x4 => Cl x2.1 69 [.int .i64 s1.1, .map (some x2.2.1), .slice x4.1.1 s1.2.2.1.length x4.1.2, .bool s1.2.2.2.1, .int .i64 s1.2.2.2.2.1, .int .i64 s1.2.2.2.2.2.1, .int .u64 s1.2.2.2.2.2.2.1, .int .i64 s1.2.2.2.2.2.2.2.1, .int .i64 s1.2.2.2.2.2.2.2.2.1] :: Mp (Elt.slice E8) x2.2.1 s1.2.1 :: Hb 71 x4.1.1 x4.1.2 x4.2.1 s1.2.2.1 :: Bb 5 x4.2.1 s1.2.2.1 :: Cl x3.1 61 [.slice x4.2.2.1.1 s1.2.2.2.2.2.2.2.2.2.1.length x4.2.2.1.2, .slice x4.2.2.2.1.1 s1.2.2.2.2.2.2.2.2.2.2.1.length x4.2.2.2.1.2, .bool s1.2.2.2.2.2.2.2.2.2.2.2.1, .int .i64 s1.2.2.2.2.2.2.2.2.2.2.2.2.1, .int .u64 s1.2.2.2.2.2.2.2.2.2.2.2.2.2.1, .int .i64 s1.2.2.2.2.2.2.2.2.2.2.2.2.2.2.1, .int .i64 s1.2.2.2.2.2.2.2.2.2.2.2.2.2.2.2.1, .int .i64 s1.2.2.2.2.2.2.2.2.2.2.2.2.2.2.2.2] :: Bf (Elt.slice E8) 33 x4.2.2.1.1 x4.2.2.1.2 s1.2.2.2.2.2.2.2.2.2.1 :: Hb 77 x4.2.2.2.1.1 x4.2.2.2.1.2 x4.2.2.2.2 s1.2.2.2.2.2.2.2.2.2.2.1 :: Bb 5 x4.2.2.2.2 s1.2.2.2.2.2.2.2.2.2.2.1 :: hs) (fun s1 => law3_DiskPlays.k1 a0 s1 = some r) (fun s1 x4 hk1 => ?_) (fun J1 => ?_)
   ·unfold law3_DiskPlays.k1 at hk1
    refine T.seq ?_
    refine T.region ?_
    refine T.move .list rfl (wants0 rfl) rfl rfl ?_
    refine T.pick [0, 1, 2, 3, 4, 5, 6, 7] 8 rfl rfl (Nat.le_add_left _ _) (hs' := Cl x2.1 69 [.int .i64 s1.1, .map (some x2.2.1), .slice x4.1.1 s1.2.2.1.length x4.1.2, .bool s1.2.2.2.1, .int .i64 s1.2.2.2.2.1, .int .i64 s1.2.2.2.2.2.1, .int .u64 s1.2.2.2.2.2.2.1, .int .i64 s1.2.2.2.2.2.2.2.1, .int .i64 s1.2.2.2.2.2.2.2.2.1] :: Mp (Elt.slice E8) x2.2.1 s1.2.1 :: Hb 71 x4.1.1 x4.1.2 x4.2.1 s1.2.2.1 :: Bb 5 x4.2.1 s1.2.2.1 :: Cl x3.1 61 [.slice x4.2.2.1.1 s1.2.2.2.2.2.2.2.2.2.1.length x4.2.2.1.2, .slice x4.2.2.2.1.1 s1.2.2.2.2.2.2.2.2.2.2.1.length x4.2.2.2.1.2, .bool s1.2.2.2.2.2.2.2.2.2.2.2.1, .int .i64 s1.2.2.2.2.2.2.2.2.2.2.2.2.1, .int .u64 s1.2.2.2.2.2.2.2.2.2.2.2.2.2.1, .int .i64 s1.2.2.2.2.2.2.2.2.2.2.2.2.2.2.1, .int .i64 s1.2.2.2.2.2.2.2.2.2.2.2.2.2.2.2.1, .int .i64 s1.2.2.2.2.2.2.2.2.2.2.2.2.2.2.2.2] :: Bf (Elt.slice E8) 33 x4.2.2.1.1 x4.2.2.1.2 s1.2.2.2.2.2.2.2.2.2.1 :: Hb 77 x4.2.2.2.1.1 x4.2.2.2.1.2 x4.2.2.2.2 s1.2.2.2.2.2.2.2.2.2.2.1 :: Bb 5 x4.2.2.2.2 s1.2.2.2.2.2.2.2.2.2.2.1 :: hs) rfl ?_
    obtain ⟨r3, hg3, hk1⟩ := inv_bind hk1
    refine T.call .list (wants0 rfl) rfl (run_callF (vs := [_]) rfl Try.func13 rfl (by decide) rfl) (fun w hS => disk_Disk_Restart.c hS (o0 := (s1.1, s1.2.2.2.1, s1.2.2.2.2.1, s1.2.2.2.2.2.1, s1.2.2.2.2.2.2.1, s1.2.2.2.2.2.2.2.1, s1.2.2.2.2.2.2.2.2.1)) (q0b := s1.2.1) (q0c := s1.2.2.1)  hg3) (fun x5 => ?_)
    refine T.nil ?_
    refine T.then_normal ?_
    refine T.seq ?_
    refine T.region ?_
    refine T.move .list rfl (wants0 rfl) rfl rfl ?_
    refine T.nilCheck .list rfl (wants0 rfl) rfl rfl ?_
    refine T.field .list rfl (wants0 rfl) rfl rfl ?_
    refine T.store .list 4 rfl rfl (wants0 rfl) rfl rfl rfl rfl (Nat.le_of_ble_eq_true rfl) rfl (cs' := [.slice x4.2.2.1.1 s1.2.2.2.2.2.2.2.2.2.1.length x4.2.2.1.2, .slice x4.2.2.2.1.1 s1.2.2.2.2.2.2.2.2.2.2.1.length x4.2.2.2.1.2, .bool false, .int .i64 s1.2.2.2.2.2.2.2.2.2.2.2.2.1, .int .u64 s1.2.2.2.2.2.2.2.2.2.2.2.2.2.1, .int .i64 s1.2.2.2.2.2.2.2.2.2.2.2.2.2.2.1, .int .i64 s1.2.2.2.2.2.2.2.2.2.2.2.2.2.2.2.1, .int .i64 s1.2.2.2.2.2.2.2.2.2.2.2.2.2.2.2.2]) rfl rfl ?_
    refine T.nil ?_
    refine T.then_normal ?_
    refine T.seqJ (fun (s2 : Unit) (x6 : Unit) => []) (fun s2 x6 => hs) (fun s2 => law3_DiskPlays.k2 s2 = some r) (fun s2 x6 hk2 => ?_) (fun J2 => ?_)
    ·unfold law3_DiskPlays.k2 at hk2
     refine T.seq ?_
     refine T.region ?_
     obtain ⟨r4, hg4, hk2⟩ := inv_bind hk2
     refine T.call .list (wants0 rfl) rfl (run_callF (vs := []) rfl Try.func16 rfl (by decide) rfl) (fun w hS => law3_told.c hS  hg4) (fun x7 => ?_)
     refine T.assign .list rfl (wants0 rfl) rfl rfl ?_
     refine T.nil ?_
     refine T.then_normal ?_
     refine T.ret ?_
     obtain rfl := inv_some hk2
     refine T.pick [] 0 rfl rfl (Nat.le_add_left _ _) rfl ?_
     refine T.ret1 rfl rfl (fun w hS => ⟨(), rfl, hS⟩)
    ·refine T.seq ?_
     refine T.region ?_
     refine T.assign .list rfl (wants0 rfl) rfl rfl ?_
     refine T.nil ?_
     refine T.then_normal ?_
     refine T.block ?_
     obtain ⟨e1, hl1, hk1⟩ := inv_bind hk1
     refine T.le (EnvLe.cons rfl (EnvLe.cons rfl (EnvLe.cons rfl (EnvLe.cons rfl EnvLe.nil)))) (T.pick [0, 1, 2, 3, 4, 5, 6, 7] 8 rfl rfl (Nat.le_add_left _ _) rfl (T.loop (s0 := 0) (env := fun s3 x8 => [(0, .int .i64 (IntKind.i64.wrap ((bitsOf .and .i64 a0 7) + 1))), (5, .pointer (some ⟨x2.1, 0, none⟩)), (7, .pointer (some ⟨x3.1, 0, none⟩)), (17, .int .i64 s3)]) (hs := fun (s3 : Int) (x8 : Unit) => Cl x2.1 69 [.int .i64 r3.1, .map (some x2.2.1), .slice x4.1.1 s1.2.2.1.length x4.1.2, .bool r3.2.1, .int .i64 r3.2.2.1, .int .i64 r3.2.2.2.1, .int .u64 r3.2.2.2.2.1, .int .i64 r3.2.2.2.2.2.1, .int .i64 r3.2.2.2.2.2.2] :: Mp (Elt.slice E8) x2.2.1 s1.2.1 :: Hb 71 x4.1.1 x4.1.2 x4.2.1 s1.2.2.1 :: Bb 5 x4.2.1 s1.2.2.1 :: Cl x3.1 61 [.slice x4.2.2.1.1 s1.2.2.2.2.2.2.2.2.2.1.length x4.2.2.1.2, .slice x4.2.2.2.1.1 s1.2.2.2.2.2.2.2.2.2.2.1.length x4.2.2.2.1.2, .bool false, .int .i64 s1.2.2.2.2.2.2.2.2.2.2.2.2.1, .int .u64 s1.2.2.2.2.2.2.2.2.2.2.2.2.2.1, .int .i64 s1.2.2.2.2.2.2.2.2.2.2.2.2.2.2.1, .int .i64 s1.2.2.2.2.2.2.2.2.2.2.2.2.2.2.2.1, .int .i64 s1.2.2.2.2.2.2.2.2.2.2.2.2.2.2.2.2] :: Bf (Elt.slice E8) 33 x4.2.2.1.1 x4.2.2.1.2 s1.2.2.2.2.2.2.2.2.2.1 :: Hb 77 x4.2.2.2.1.1 x4.2.2.2.1.2 x4.2.2.2.2 s1.2.2.2.2.2.2.2.2.2.2.1 :: Bb 5 x4.2.2.2.2 s1.2.2.2.2.2.2.2.2.2.2.1 :: hs) hl1 () (fun K1 s3 x8 o1 he1 hm1 hx1 => ?_)))
     unfold law3_DiskPlays.st1 at he1
     refine T.seq ?_
     refine T.seq ?_
     refine T.region ?_
     refine T.move .list rfl (wants0 rfl) rfl rfl ?_
     refine T.move .list rfl (wants0 rfl) rfl rfl ?_
     refine T.bin .list rfl (wants0 rfl) rfl rfl rfl rfl ?_
     refine T.nil ?_
     refine T.then_normal ?_
     refine T.cond rfl (fun hb2 => ?_) (fun hb2 => ?_)
     ·replace he1 := inv_posB hb2 he1
      refine T.skip ?_
      refine T.then_normal ?_
      refine T.seq ?_
      refine T.block ?_
      refine T.seq ?_
      refine T.region ?_
      refine T.move .list rfl (wants0 rfl) rfl rfl ?_
      refine T.move .list rfl (wants0 rfl) rfl rfl ?_
      refine T.pick [0, 1, 2, 3, 4, 5, 6, 7] 8 rfl rfl (Nat.le_add_left _ _) (hs' := Cl x2.1 69 [.int .i64 r3.1, .map (some x2.2.1), .slice x4.1.1 s1.2.2.1.length x4.1.2, .bool r3.2.1, .int .i64 r3.2.2.1, .int .i64 r3.2.2.2.1, .int .u64 r3.2.2.2.2.1, .int .i64 r3.2.2.2.2.2.1, .int .i64 r3.2.2.2.2.2.2] :: Mp (Elt.slice E8) x2.2.1 s1.2.1 :: Hb 71 x4.1.1 x4.1.2 x4.2.1 s1.2.2.1 :: Bb 5 x4.2.1 s1.2.2.1 :: Cl x3.1 61 [.slice x4.2.2.1.1 s1.2.2.2.2.2.2.2.2.2.1.length x4.2.2.1.2, .slice x4.2.2.2.1.1 s1.2.2.2.2.2.2.2.2.2.2.1.length x4.2.2.2.1.2, .bool false, .int .i64 s1.2.2.2.2.2.2.2.2.2.2.2.2.1, .int .u64 s1.2.2.2.2.2.2.2.2.2.2.2.2.2.1, .int .i64 s1.2.2.2.2.2.2.2.2.2.2.2.2.2.2.1, .int .i64 s1.2.2.2.2.2.2.2.2.2.2.2.2.2.2.2.1, .int .i64 s1.2.2.2.2.2.2.2.2.2.2.2.2.2.2.2.2] :: Bf (Elt.slice E8) 33 x4.2.2.1.1 x4.2.2.1.2 s1.2.2.2.2.2.2.2.2.2.1 :: Hb 77 x4.2.2.2.1.1 x4.2.2.2.1.2 x4.2.2.2.2 s1.2.2.2.2.2.2.2.2.2.2.1 :: Bb 5 x4.2.2.2.2 s1.2.2.2.2.2.2.2.2.2.2.1 :: hs) rfl ?_
      obtain ⟨r5, hg5, he1⟩ := inv_bind he1
      refine T.call .list (wants0 rfl) rfl (run_callF (vs := [_, _]) rfl Try.func14 rfl (by decide) rfl) (fun w hS => disk_Disk_Read.c hS (o0 := (r3.1, r3.2.1, r3.2.2.1, r3.2.2.2.1, r3.2.2.2.2.1, r3.2.2.2.2.2.1, r3.2.2.2.2.2.2)) (q0b := s1.2.1) (q0c := s1.2.2.1)  hg5) (fun x9 => ?_)
      refine T.move .list rfl (wants0 rfl) rfl rfl ?_
      refine T.extract .list rfl (wants0 rfl) rfl rfl rfl ?_
      refine T.extract .list rfl (wants0 rfl) rfl rfl rfl ?_
      refine T.assign .list rfl (wants0 rfl) rfl rfl ?_
      refine T.assign .list rfl (wants0 rfl) rfl rfl ?_
      refine T.nil ?_
      refine T.then_normal ?_
      refine T.seq ?_
      refine T.region ?_
      refine T.move .list rfl (wants0 rfl) rfl rfl ?_
      refine T.move .list rfl (wants0 rfl) rfl rfl ?_
      refine T.pick [5, 6, 7, 8, 0, 1, 2, 3, 4] 9 rfl rfl (Nat.le_add_left _ _) (hs' := Cl x3.1 61 [.slice x4.2.2.1.1 s1.2.2.2.2.2.2.2.2.2.1.length x4.2.2.1.2, .slice x4.2.2.2.1.1 s1.2.2.2.2.2.2.2.2.2.2.1.length x4.2.2.2.1.2, .bool false, .int .i64 s1.2.2.2.2.2.2.2.2.2.2.2.2.1, .int .u64 s1.2.2.2.2.2.2.2.2.2.2.2.2.2.1, .int .i64 s1.2.2.2.2.2.2.2.2.2.2.2.2.2.2.1, .int .i64 s1.2.2.2.2.2.2.2.2.2.2.2.2.2.2.2.1, .int .i64 s1.2.2.2.2.2.2.2.2.2.2.2.2.2.2.2.2] :: Bf (Elt.slice E8) 33 x4.2.2.1.1 x4.2.2.1.2 s1.2.2.2.2.2.2.2.2.2.1 :: Hb 77 x4.2.2.2.1.1 x4.2.2.2.1.2 x4.2.2.2.2 s1.2.2.2.2.2.2.2.2.2.2.1 :: Bb 5 x4.2.2.2.2 s1.2.2.2.2.2.2.2.2.2.2.1 :: Bf E8 5 x9.1 x9.2 r5.1 :: Cl x2.1 69 [.int .i64 r3.1, .map (some x2.2.1), .slice x4.1.1 s1.2.2.1.length x4.1.2, .bool r3.2.1, .int .i64 r3.2.2.1, .int .i64 r3.2.2.2.1, .int .u64 r3.2.2.2.2.1, .int .i64 r3.2.2.2.2.2.1, .int .i64 r3.2.2.2.2.2.2] :: Mp (Elt.slice E8) x2.2.1 s1.2.1 :: Hb 71 x4.1.1 x4.1.2 x4.2.1 s1.2.2.1 :: Bb 5 x4.2.1 s1.2.2.1 :: hs) rfl ?_
      obtain ⟨r6, hg6, he1⟩ := inv_bind he1
      refine T.call .list (wants0 rfl) rfl (run_callF (vs := [_, _]) rfl Try.func30 rfl (by decide) rfl) (fun w hS => ref3_Disk_Read.c hS (o0 := (false, s1.2.2.2.2.2.2.2.2.2.2.2.2.1, s1.2.2.2.2.2.2.2.2.2.2.2.2.2.1, s1.2.2.2.2.2.2.2.2.2.2.2.2.2.2.1, s1.2.2.2.2.2.2.2.2.2.2.2.2.2.2.2.1, s1.2.2.2.2.2.2.2.2.2.2.2.2.2.2.2.2)) (q0a := s1.2.2.2.2.2.2.2.2.2.1) (q0b := s1.2.2.2.2.2.2.2.2.2.2.1)  hg6) (fun x10 => ?_)
      refine T.move .list rfl (wants0 rfl) rfl rfl ?_
      refine T.extract .list rfl (wants0 rfl) rfl rfl rfl ?_
      refine T.extract .list rfl (wants0 rfl) rfl rfl rfl ?_
      refine T.assign .list rfl (wants0 rfl) rfl rfl ?_
      refine T.assign .list rfl (wants0 rfl) rfl rfl ?_
      refine T.nil ?_
      refine T.then_normal ?_
      refine T.seq ?_
      refine T.region ?_
      refine T.move .list rfl (wants0 rfl) rfl rfl ?_
      refine T.strBf .list 5 rfl rfl (wants0 rfl) rfl rfl rfl ?_
      refine T.move .list rfl (wants0 rfl) rfl rfl ?_
      refine T.strBf .list 0 rfl rfl (wants0 rfl) rfl rfl rfl ?_
      refine T.strNe .list rfl (wants0 rfl) rfl (l := r5.1) (l' := r6.1) rfl rfl ?_
      refine T.nil ?_
      refine T.then_normal ?_
      refine T.cond rfl (fun hb3 => ?_) (fun hb3 => ?_)
      ·replace he1 := inv_posB hb3 he1
       refine T.seq ?_
       refine T.region ?_
       refine T.assign .list rfl (wants0 rfl) rfl rfl ?_
       refine T.nil ?_
       refine T.then_normal ?_
       refine T.ret ?_
       refine T.in_ret ?_
       refine T.then_ret ?_
       refine T.then_ret ?_
       obtain rfl := inv_some he1
       obtain rfl := hx1 _ rfl
       refine T.in_ret ?_
       refine T.then_ret ?_
       obtain rfl := inv_some hk1
       refine T.pick [] 10 rfl rfl (Nat.le_add_left _ _) rfl ?_
       refine T.ret1 rfl rfl (fun w hS => ⟨(), rfl, hS⟩)
      ·replace he1 := inv_negB hb3 he1
       refine T.skip ?_
       refine T.in_normal ?_
       refine T.then_normal ?_
       refine T.region ?_
       refine T.move .list rfl (wants0 rfl) rfl rfl ?_
       refine T.bin .list rfl (wants0 rfl) rfl rfl rfl rfl ?_
       refine T.assign .list rfl (wants0 rfl) rfl rfl ?_
       refine T.nil ?_
       refine T.then_normal ?_
       obtain rfl := inv_some he1
       exact T.le (EnvLe.cons rfl (EnvLe.cons rfl (EnvLe.cons rfl (EnvLe.cons rfl EnvLe.nil)))) (T.pick [6, 7, 8, 9, 1, 2, 3, 4] 10 rfl rfl (Nat.le_add_left _ _) rfl (hm1 (IntKind.i64.wrap (s3 + 1)) rfl ()))
     ·replace he1 := inv_negB hb2 he1
      refine T.exit ?_
      refine T.then_exit ?_
      refine T.then_exit ?_
      obtain rfl := inv_some he1
      obtain rfl := hx1 _ rfl
      refine T.in_hit ?_
      refine T.then_normal ?_
      exact T.le EnvLe.nil (T.pick [] 8 rfl rfl (Nat.le_add_left _ _) rfl (J2 () () hk1))
   ·refine T.seq ?_
    refine T.region ?_
    refine T.assign .list rfl (wants0 rfl) rfl rfl ?_
    refine T.nil ?_
    refine T.then_normal ?_
    refine T.block ?_
    obtain ⟨e2, hl2, hr⟩ := inv_bind hr
    refine T.le (EnvLe.cons rfl (EnvLe.cons rfl (EnvLe.cons rfl (EnvLe.cons rfl (EnvLe.cons rfl EnvLe.nil))))) (T.pick [8, 4, 5, 6, 7, 0, 1, 2, 3] 9 rfl rfl (Nat.le_add_left _ _) rfl (T.loop (s0 := (r1p0.1.1, r1p0.2.1, r1p0.2.2, r1p0.1.2.1, r1p0.1.2.2.1, r1p0.1.2.2.2.1, r1p0.1.2.2.2.2.1, r1p0.1.2.2.2.2.2.1, r1p0.1.2.2.2.2.2.2, r2.2.1, r2.2.2, r2.1.1, r2.1.2.1, r2.1.2.2.1, r2.1.2.2.2.1, r2.1.2.2.2.2.1, r2.1.2.2.2.2.2, 0)) (env := fun s4 x11 => [(0, .int .i64 (IntKind.i64.wrap ((bitsOf .and .i64 a0 7) + 1))), (1, .slice A1 l1.length c1), (5, .pointer (some ⟨x2.1, 0, none⟩)), (7, .pointer (some ⟨x3.1, 0, none⟩)), (8, .int .i64 s4.2.2.2.2.2.2.2.2.2.2.2.2.2.2.2.2.2)]) (hs := fun (s4 : Int × (List (Int × (List UInt8))) × (List (Int × List UInt8)) × Bool × Int × Int × Int × Int × Int × List (List UInt8) × (List (Int × List UInt8)) × Bool × Int × Int × Int × Int × Int × Int) (x11 : (Option Addr × Nat) × (Ads) × (Option Addr × Nat) × (Option Addr × Nat) × (Ads)) => Ro (Elt.pair E64 (Elt.pair E64 (Elt.pair E64 (Elt.pair (Elt.slice E8) (Elt.pair E64 (Elt.pair EU64 (Elt.pair E64 E64))))))) A1 c1 l1 :: Cl x2.1 69 [.int .i64 s4.1, .map (some x2.2.1), .slice x11.1.1 s4.2.2.1.length x11.1.2, .bool s4.2.2.2.1, .int .i64 s4.2.2.2.2.1, .int .i64 s4.2.2.2.2.2.1, .int .u64 s4.2.2.2.2.2.2.1, .int .i64 s4.2.2.2.2.2.2.2.1, .int .i64 s4.2.2.2.2.2.2.2.2.1] :: Mp (Elt.slice E8) x2.2.1 s4.2.1 :: Hb 71 x11.1.1 x11.1.2 x11.2.1 s4.2.2.1 :: Bb 5 x11.2.1 s4.2.2.1 :: Cl x3.1 61 [.slice x11.2.2.1.1 s4.2.2.2.2.2.2.2.2.2.1.length x11.2.2.1.2, .slice x11.2.2.2.1.1 s4.2.2.2.2.2.2.2.2.2.2.1.length x11.2.2.2.1.2, .bool s4.2.2.2.2.2.2.2.2.2.2.2.1, .int .i64 s4.2.2.2.2.2.2.2.2.2.2.2.2.1, .int .u64 s4.2.2.2.2.2.2.2.2.2.2.2.2.2.1, .int .i64 s4.2.2.2.2.2.2.2.2.2.2.2.2.2.2.1, .int .i64 s4.2.2.2.2.2.2.2.2.2.2.2.2.2.2.2.1, .int .i64 s4.2.2.2.2.2.2.2.2.2.2.2.2.2.2.2.2.1] :: Bf (Elt.slice E8) 33 x11.2.2.1.1 x11.2.2.1.2 s4.2.2.2.2.2.2.2.2.2.1 :: Hb 77 x11.2.2.2.1.1 x11.2.2.2.1.2 x11.2.2.2.2 s4.2.2.2.2.2.2.2.2.2.2.1 :: Bb 5 x11.2.2.2.2 s4.2.2.2.2.2.2.2.2.2.2.1 :: hs) hl2 ((x2.2.2.1.1, x2.2.2.1.2), x2.2.2.2, (x3.2.1.1, x3.2.1.2), (x3.2.2.1.1, x3.2.2.1.2), x3.2.2.2) (fun K2 s4 x11 o2 he2 hm2 hx2 => ?_)))
    unfold law3_DiskPlays.st2 at he2
    refine T.seq ?_
    refine T.seqJ (fun (s5 : Bool) (x12 : Unit) => [(0, .int .i64 (IntKind.i64.wrap ((bitsOf .and .i64 a0 7) + 1))), (1, .slice A1 l1.length c1), (5, .pointer (some ⟨x2.1, 0, none⟩)), (7, .pointer (some ⟨x3.1, 0, none⟩)), (8, .int .i64 s4.2.2.2.2.2.2.2.2.2.2.2.2.2.2.2.2.2), (45, .bool s5)]) (fun s5 x12 => Ro (Elt.pair E64 (Elt.pair E64 (Elt.pair E64 (Elt.pair (Elt.slice E8) (Elt.pair E64 (Elt.pair EU64 (Elt.pair E64 E64))))))) A1 c1 l1 :: Cl x2.1 69 [.int .i64 s4.1, .map (some x2.2.1), .slice x11.1.1 s4.2.2.1.length x11.1.2, .bool s4.2.2.2.1, .int .i64 s4.2.2.2.2.1, .int .i64 s4.2.2.2.2.2.1, .int .u64 s4.2.2.2.2.2.2.1, .int .i64 s4.2.2.2.2.2.2.2.1, .int .i64 s4.2.2.2.2.2.2.2.2.1] :: Mp (Elt.slice E8) x2.2.1 s4.2.1 :: Hb 71 x11.1.1 x11.1.2 x11.2.1 s4.2.2.1 :: Bb 5 x11.2.1 s4.2.2.1 :: Cl x3.1 61 [.slice x11.2.2.1.1 s4.2.2.2.2.2.2.2.2.2.1.length x11.2.2.1.2, .slice x11.2.2.2.1.1 s4.2.2.2.2.2.2.2.2.2.2.1.length x11.2.2.2.1.2, .bool s4.2.2.2.2.2.2.2.2.2.2.2.1, .int .i64 s4.2.2.2.2.2.2.2.2.2.2.2.2.1, .int .u64 s4.2.2.2.2.2.2.2.2.2.2.2.2.2.1, .int .i64 s4.2.2.2.2.2.2.2.2.2.2.2.2.2.2.1, .int .i64 s4.2.2.2.2.2.2.2.2.2.2.2.2.2.2.2.1, .int .i64 s4.2.2.2.2.2.2.2.2.2.2.2.2.2.2.2.2.1] :: Bf (Elt.slice E8) 33 x11.2.2.1.1 x11.2.2.1.2 s4.2.2.2.2.2.2.2.2.2.1 :: Hb 77 x11.2.2.2.1.1 x11.2.2.2.1.2 x11.2.2.2.2 s4.2.2.2.2.2.2.2.2.2.2.1 :: Bb 5 x11.2.2.2.2 s4.2.2.2.2.2.2.2.2.2.2.1 :: hs) (fun s5 => law3_DiskPlays.k3 s4 l1 a0 s5 = some o2) (fun s5 x12 hk3 => ?_) (fun J3 => ?_)
    ·unfold law3_DiskPlays.k3 at hk3
     refine T.cond rfl (fun hb4 => ?_) (fun hb4 => ?_)
     ·replace hk3 := inv_posB hb4 hk3
      refine T.skip ?_
      refine T.then_normal ?_
      refine T.seqJ (fun (s6 : Int × (List (Int × (List UInt8))) × (List (Int × List UInt8)) × Bool × Int × Int × Int × Int × Int × List (List UInt8) × (List (Int × List UInt8)) × Bool × Int × Int × Int × Int × Int) (x13 : (Option Addr × Nat) × (Ads) × (Option Addr × Nat) × (Option Addr × Nat) × (Ads)) => [(0, .int .i64 (IntKind.i64.wrap ((bitsOf .and .i64 a0 7) + 1))), (1, .slice A1 l1.length c1), (5, .pointer (some ⟨x2.1, 0, none⟩)), (7, .pointer (some ⟨x3.1, 0, none⟩)), (8, .int .i64 s4.2.2.2.2.2.2.2.2.2.2.2.2.2.2.2.2.2)]) (fun s6 x13 => Ro (Elt.pair E64 (Elt.pair E64 (Elt.pair E64 (Elt.pair (Elt.slice E8) (Elt.pair E64 (Elt.pair EU64 (Elt.pair E64 E64))))))) A1 c1 l1 :: Cl x2.1 69 [.int .i64 s6.1, .map (some x2.2.1), .slice x13.1.1 s6.2.2.1.length x13.1.2, .bool s6.2.2.2.1, .int .i64 s6.2.2.2.2.1, .int .i64 s6.2.2.2.2.2.1, .int .u64 s6.2.2.2.2.2.2.1, .int .i64 s6.2.2.2.2.2.2.2.1, .int .i64 s6.2.2.2.2.2.2.2.2.1] :: Mp (Elt.slice E8) x2.2.1 s6.2.1 :: Hb 71 x13.1.1 x13.1.2 x13.2.1 s6.2.2.1 :: Bb 5 x13.2.1 s6.2.2.1 :: Cl x3.1 61 [.slice x13.2.2.1.1 s6.2.2.2.2.2.2.2.2.2.1.length x13.2.2.1.2, .slice x13.2.2.2.1.1 s6.2.2.2.2.2.2.2.2.2.2.1.length x13.2.2.2.1.2, .bool s6.2.2.2.2.2.2.2.2.2.2.2.1, .int .i64 s6.2.2.2.2.2.2.2.2.2.2.2.2.1, .int .u64 s6.2.2.2.2.2.2.2.2.2.2.2.2.2.1, .int .i64 s6.2.2.2.2.2.2.2.2.2.2.2.2.2.2.1, .int .i64 s6.2.2.2.2.2.2.2.2.2.2.2.2.2.2.2.1, .int .i64 s6.2.2.2.2.2.2.2.2.2.2.2.2.2.2.2.2] :: Bf (Elt.slice E8) 33 x13.2.2.1.1 x13.2.2.1.2 s6.2.2.2.2.2.2.2.2.2.1 :: Hb 77 x13.2.2.2.1.1 x13.2.2.2.1.2 x13.2.2.2.2 s6.2.2.2.2.2.2.2.2.2.2.1 :: Bb 5 x13.2.2.2.2 s6.2.2.2.2.2.2.2.2.2.2.1 :: hs) (fun s6 => law3_DiskPlays.k4 s4 s6 = some o2) (fun s6 x13 hk4 => ?_) (fun J4 => ?_)
      ·unfold law3_DiskPlays.k4 at hk4
       refine T.region ?_
       refine T.move .list rfl (wants0 rfl) rfl rfl ?_
       refine T.bin .list rfl (wants0 rfl) rfl rfl rfl rfl ?_
       refine T.assign .list rfl (wants0 rfl) rfl rfl ?_
       refine T.nil ?_
       refine T.then_normal ?_
       obtain rfl := inv_some hk4
       exact T.le (EnvLe.cons rfl (EnvLe.cons rfl (EnvLe.cons rfl (EnvLe.cons rfl (EnvLe.cons rfl EnvLe.nil))))) (T.pick [0, 1, 2, 3, 4, 5, 6, 7, 8] 9 rfl rfl (Nat.le_add_left _ _) rfl (hm2 (s6.1, s6.2.1, s6.2.2.1, s6.2.2.2.1, s6.2.2.2.2.1, s6.2.2.2.2.2.1, s6.2.2.2.2.2.2.1, s6.2.2.2.2.2.2.2.1, s6.2.2.2.2.2.2.2.2.1, s6.2.2.2.2.2.2.2.2.2.1, s6.2.2.2.2.2.2.2.2.2.2.1, s6.2.2.2.2.2.2.2.2.2.2.2.1, s6.2.2.2.2.2.2.2.2.2.2.2.2.1, s6.2.2.2.2.2.2.2.2.2.2.2.2.2.1, s6.2.2.2.2.2.2.2.2.2.2.2.2.2.2.1, s6.2.2.2.2.2.2.2.2.2.2.2.2.2.2.2.1, s6.2.2.2.2.2.2.2.2.2.2.2.2.2.2.2.2, IntKind.i64.wrap (s4.2.2.2.2.2.2.2.2.2.2.2.2.2.2.2.2.2 + 1)) rfl ((x13.1.1, x13.1.2), x13.2.1, (x13.2.2.1.1, x13.2.2.1.2), (x13.2.2.2.1.1, x13.2.2.2.1.2), x13.2.2.2.2)))
      ·refine T.block ?_
       refine T.seq ?_
       refine T.region ?_
       refine T.move .list rfl (wants0 rfl) rfl rfl ?_
       refine T.move .list rfl (wants0 rfl) rfl rfl ?_
       obtain ⟨hc1, hk3⟩ := inv_chk hk3
       refine T.idxRo .list 0 rfl rfl (wants0 rfl) rfl rfl rfl hc1.1 hc1.2 (Nat.le_refl _) ?_
       refine T.ldFRo 0 .list Fd.self (Sh.pair Sh.sc (Sh.pair Sh.sc (Sh.pair Sh.sc (Sh.pair Sh.slice (Sh.pair Sh.sc (Sh.pair Sh.sc (Sh.pair Sh.sc Sh.sc))))))) rfl (.inl rfl) rfl rfl hc1.1 hc1.2 rfl (wants0 rfl) rfl rfl rfl (v := fun x14 => .agg #[.int .i64 (((((l1).getD (s4.2.2.2.2.2.2.2.2.2.2.2.2.2.2.2.2.2 : Int).toNat default)).1)), .int .i64 (((((l1).getD (s4.2.2.2.2.2.2.2.2.2.2.2.2.2.2.2.2.2 : Int).toNat default)).2.1)), .int .i64 (((((l1).getD (s4.2.2.2.2.2.2.2.2.2.2.2.2.2.2.2.2.2 : Int).toNat default)).2.2.1)), .slice x14.2.2.2.1.1 ((((((l1).getD (s4.2.2.2.2.2.2.2.2.2.2.2.2.2.2.2.2.2 : Int).toNat default)).2.2.2.1)).length) x14.2.2.2.1.2, .int .i64 ((((((l1).getD (s4.2.2.2.2.2.2.2.2.2.2.2.2.2.2.2.2.2 : Int).toNat default)).2.2.2.2).1)), .int .u64 ((((((l1).getD (s4.2.2.2.2.2.2.2.2.2.2.2.2.2.2.2.2.2 : Int).toNat default)).2.2.2.2).2.1)), .int .i64 ((((((l1).getD (s4.2.2.2.2.2.2.2.2.2.2.2.2.2.2.2.2.2 : Int).toNat default)).2.2.2.2).2.2.1)), .int .i64 ((((((l1).getD (s4.2.2.2.2.2.2.2.2.2.2.2.2.2.2.2.2.2 : Int).toNat default)).2.2.2.2).2.2.2))]) (hs' := fun x14 => Ro E8 x14.2.2.2.1.1 x14.2.2.2.1.2 (((((l1).getD (s4.2.2.2.2.2.2.2.2.2.2.2.2.2.2.2.2.2 : Int).toNat default)).2.2.2.1)) :: Ro (Elt.pair E64 (Elt.pair E64 (Elt.pair E64 (Elt.pair (Elt.slice E8) (Elt.pair E64 (Elt.pair EU64 (Elt.pair E64 E64))))))) A1 c1 l1 :: Cl x2.1 69 [.int .i64 s4.1, .map (some x2.2.1), .slice x11.1.1 s4.2.2.1.length x11.1.2, .bool s4.2.2.2.1, .int .i64 s4.2.2.2.2.1, .int .i64 s4.2.2.2.2.2.1, .int .u64 s4.2.2.2.2.2.2.1, .int .i64 s4.2.2.2.2.2.2.2.1, .int .i64 s4.2.2.2.2.2.2.2.2.1] :: Mp (Elt.slice E8) x2.2.1 s4.2.1 :: Hb 71 x11.1.1 x11.1.2 x11.2.1 s4.2.2.1 :: Bb 5 x11.2.1 s4.2.2.1 :: Cl x3.1 61 [.slice x11.2.2.1.1 s4.2.2.2.2.2.2.2.2.2.1.length x11.2.2.1.2, .slice x11.2.2.2.1.1 s4.2.2.2.2.2.2.2.2.2.2.1.length x11.2.2.2.1.2, .bool s4.2.2.2.2.2.2.2.2.2.2.2.1, .int .i64 s4.2.2.2.2.2.2.2.2.2.2.2.2.1, .int .u64 s4.2.2.2.2.2.2.2.2.2.2.2.2.2.1, .int .i64 s4.2.2.2.2.2.2.2.2.2.2.2.2.2.2.1, .int .i64 s4.2.2.2.2.2.2.2.2.2.2.2.2.2.2.2.1, .int .i64 s4.2.2.2.2.2.2.2.2.2.2.2.2.2.2.2.2.1] :: Bf (Elt.slice E8) 33 x11.2.2.1.1 x11.2.2.1.2 s4.2.2.2.2.2.2.2.2.2.1 :: Hb 77 x11.2.2.2.1.1 x11.2.2.2.1.2 x11.2.2.2.2 s4.2.2.2.2.2.2.2.2.2.2.1 :: Bb 5 x11.2.2.2.2 s4.2.2.2.2.2.2.2.2.2.2.1 :: hs) (fun _ => rfl) (fun _ => rfl) (fun x14 => ?_)
       refine T.allocS .list rfl (wants0 rfl) rfl (cs := [.int .i64 0, .int .i64 0, .int .i64 0, .slice none 0 0, .int .i64 0, .int .u64 0, .int .i64 0, .int .i64 0]) rfl (fun b1 => ?_)
       refine T.store .list 0 rfl rfl (wants0 rfl) rfl rfl rfl rfl (Nat.le_of_ble_eq_true rfl) rfl (cs' := [.int .i64 (((((l1).getD (s4.2.2.2.2.2.2.2.2.2.2.2.2.2.2.2.2.2 : Int).toNat default)).1)), .int .i64 (((((l1).getD (s4.2.2.2.2.2.2.2.2.2.2.2.2.2.2.2.2.2 : Int).toNat default)).2.1)), .int .i64 (((((l1).getD (s4.2.2.2.2.2.2.2.2.2.2.2.2.2.2.2.2.2 : Int).toNat default)).2.2.1)), .slice x14.2.2.2.1.1 ((((((l1).getD (s4.2.2.2.2.2.2.2.2.2.2.2.2.2.2.2.2.2 : Int).toNat default)).2.2.2.1)).length) x14.2.2.2.1.2, .int .i64 ((((((l1).getD (s4.2.2.2.2.2.2.2.2.2.2.2.2.2.2.2.2.2 : Int).toNat default)).2.2.2.2).1)), .int .u64 ((((((l1).getD (s4.2.2.2.2.2.2.2.2.2.2.2.2.2.2.2.2.2 : Int).toNat default)).2.2.2.2).2.1)), .int .i64 ((((((l1).getD (s4.2.2.2.2.2.2.2.2.2.2.2.2.2.2.2.2.2 : Int).toNat default)).2.2.2.2).2.2.1)), .int .i64 ((((((l1).getD (s4.2.2.2.2.2.2.2.2.2.2.2.2.2.2.2.2.2 : Int).toNat default)).2.2.2.2).2.2.2))]) rfl rfl ?_
       refine T.nil ?_
       refine T.then_normal ?_
       refine T.seqJ (fun (s7 : Int × (List (Int × (List UInt8))) × (List (Int × List UInt8)) × Bool × Int × Int × Int × Int × Int × List (List UInt8) × (List (Int × List UInt8)) × Bool × Int × Int × Int × Int × Int) (x15 : (Option Addr × Nat) × (Ads) × (Option Addr × Nat) × (Option Addr × Nat) × (Ads)) => [(0, .int .i64 (IntKind.i64.wrap ((bitsOf .and .i64 a0 7) + 1))), (1, .slice A1 l1.length c1), (5, .pointer (some ⟨x2.1, 0, none⟩)), (7, .pointer (some ⟨x3.1, 0, none⟩)), (8, .int .i64 s4.2.2.2.2.2.2.2.2.2.2.2.2.2.2.2.2.2)]) (fun s7 x15 => Ro (Elt.pair E64 (Elt.pair E64 (Elt.pair E64 (Elt.pair (Elt.slice E8) (Elt.pair E64 (Elt.pair EU64 (Elt.pair E64 E64))))))) A1 c1 l1 :: Cl x2.1 69 [.int .i64 s7.1, .map (some x2.2.1), .slice x15.1.1 s7.2.2.1.length x15.1.2, .bool s7.2.2.2.1, .int .i64 s7.2.2.2.2.1, .int .i64 s7.2.2.2.2.2.1, .int .u64 s7.2.2.2.2.2.2.1, .int .i64 s7.2.2.2.2.2.2.2.1, .int .i64 s7.2.2.2.2.2.2.2.2.1] :: Mp (Elt.slice E8) x2.2.1 s7.2.1 :: Hb 71 x15.1.1 x15.1.2 x15.2.1 s7.2.2.1 :: Bb 5 x15.2.1 s7.2.2.1 :: Cl x3.1 61 [.slice x15.2.2.1.1 s7.2.2.2.2.2.2.2.2.2.1.length x15.2.2.1.2, .slice x15.2.2.2.1.1 s7.2.2.2.2.2.2.2.2.2.2.1.length x15.2.2.2.1.2, .bool s7.2.2.2.2.2.2.2.2.2.2.2.1, .int .i64 s7.2.2.2.2.2.2.2.2.2.2.2.2.1, .int .u64 s7.2.2.2.2.2.2.2.2.2.2.2.2.2.1, .int .i64 s7.2.2.2.2.2.2.2.2.2.2.2.2.2.2.1, .int .i64 s7.2.2.2.2.2.2.2.2.2.2.2.2.2.2.2.1, .int .i64 s7.2.2.2.2.2.2.2.2.2.2.2.2.2.2.2.2] :: Bf (Elt.slice E8) 33 x15.2.2.1.1 x15.2.2.1.2 s7.2.2.2.2.2.2.2.2.2.1 :: Hb 77 x15.2.2.2.1.1 x15.2.2.2.1.2 x15.2.2.2.2 s7.2.2.2.2.2.2.2.2.2.2.1 :: Bb 5 x15.2.2.2.2 s7.2.2.2.2.2.2.2.2.2.2.1 :: hs) (fun s7 => law3_DiskPlays.k5 s4 a0 s7 = some o2) (fun s7 x15 hk5 => ?_) (fun J5 => ?_)
       ·unfold law3_DiskPlays.k5 at hk5
        refine T.seqJ (fun (s8 : Bool) (x16 : Unit) => [(0, .int .i64 (IntKind.i64.wrap ((bitsOf .and .i64 a0 7) + 1))), (1, .slice A1 l1.length c1), (5, .pointer (some ⟨x2.1, 0, none⟩)), (7, .pointer (some ⟨x3.1, 0, none⟩)), (8, .int .i64 s4.2.2.2.2.2.2.2.2.2.2.2.2.2.2.2.2.2), (192, .bool s8)]) (fun s8 x16 => Ro (Elt.pair E64 (Elt.pair E64 (Elt.pair E64 (Elt.pair (Elt.slice E8) (Elt.pair E64 (Elt.pair EU64 (Elt.pair E64 E64))))))) A1 c1 l1 :: Cl x2.1 69 [.int .i64 s7.1, .map (some x2.2.1), .slice x15.1.1 s7.2.2.1.length x15.1.2, .bool s7.2.2.2.1, .int .i64 s7.2.2.2.2.1, .int .i64 s7.2.2.2.2.2.1, .int .u64 s7.2.2.2.2.2.2.1, .int .i64 s7.2.2.2.2.2.2.2.1, .int .i64 s7.2.2.2.2.2.2.2.2.1] :: Mp (Elt.slice E8) x2.2.1 s7.2.1 :: Hb 71 x15.1.1 x15.1.2 x15.2.1 s7.2.2.1 :: Bb 5 x15.2.1 s7.2.2.1 :: Cl x3.1 61 [.slice x15.2.2.1.1 s7.2.2.2.2.2.2.2.2.2.1.length x15.2.2.1.2, .slice x15.2.2.2.1.1 s7.2.2.2.2.2.2.2.2.2.2.1.length x15.2.2.2.1.2, .bool s7.2.2.2.2.2.2.2.2.2.2.2.1, .int .i64 s7.2.2.2.2.2.2.2.2.2.2.2.2.1, .int .u64 s7.2.2.2.2.2.2.2.2.2.2.2.2.2.1, .int .i64 s7.2.2.2.2.2.2.2.2.2.2.2.2.2.2.1, .int .i64 s7.2.2.2.2.2.2.2.2.2.2.2.2.2.2.2.1, .int .i64 s7.2.2.2.2.2.2.2.2.2.2.2.2.2.2.2.2] :: Bf (Elt.slice E8) 33 x15.2.2.1.1 x15.2.2.1.2 s7.2.2.2.2.2.2.2.2.2.1 :: Hb 77 x15.2.2.2.1.1 x15.2.2.2.1.2 x15.2.2.2.2 s7.2.2.2.2.2.2.2.2.2.2.1 :: Bb 5 x15.2.2.2.2 s7.2.2.2.2.2.2.2.2.2.2.1 :: hs) (fun s8 => law3_DiskPlays.k6 s4 s7 s8 = some o2) (fun s8 x16 hk6 => ?_) (fun J6 => ?_)
        ·unfold law3_DiskPlays.k6 at hk6
         refine T.cond rfl (fun hb5 => ?_) (fun hb5 => ?_)
         ·replace hk6 := inv_posB hb5 hk6
          refine T.seq ?_
          refine T.region ?_
          refine T.assign .list rfl (wants0 rfl) rfl rfl ?_
          refine T.nil ?_
          refine T.then_normal ?_
          refine T.ret ?_
          refine T.in_ret ?_
          refine T.then_ret ?_
          refine T.then_ret ?_
          obtain rfl := inv_some hk6
          obtain rfl := hx2 _ rfl
          refine T.in_ret ?_
          refine T.then_ret ?_
          obtain rfl := inv_some hr
          refine T.pick [] 9 rfl rfl (Nat.le_add_left _ _) rfl ?_
          refine T.ret1 rfl rfl (fun w hS => ⟨(), rfl, hS⟩)
         ·replace hk6 := inv_negB hb5 hk6
          refine T.skip ?_
          refine T.in_normal ?_
          refine T.then_normal ?_
          exact T.le (EnvLe.cons rfl (EnvLe.cons rfl (EnvLe.cons rfl (EnvLe.cons rfl (EnvLe.cons rfl EnvLe.nil))))) (T.pick [0, 1, 2, 3, 4, 5, 6, 7, 8] 9 rfl rfl (Nat.le_add_left _ _) rfl (J4 (s7.1, s7.2.1, s7.2.2.1, s7.2.2.2.1, s7.2.2.2.2.1, s7.2.2.2.2.2.1, s7.2.2.2.2.2.2.1, s7.2.2.2.2.2.2.2.1, s7.2.2.2.2.2.2.2.2.1, s7.2.2.2.2.2.2.2.2.2.1, s7.2.2.2.2.2.2.2.2.2.2.1, s7.2.2.2.2.2.2.2.2.2.2.2.1, s7.2.2.2.2.2.2.2.2.2.2.2.2.1, s7.2.2.2.2.2.2.2.2.2.2.2.2.2.1, s7.2.2.2.2.2.2.2.2.2.2.2.2.2.2.1, s7.2.2.2.2.2.2.2.2.2.2.2.2.2.2.2.1, s7.2.2.2.2.2.2.2.2.2.2.2.2.2.2.2.2) ((x15.1.1, x15.1.2), x15.2.1, (x15.2.2.1.1, x15.2.2.1.2), (x15.2.2.2.1.1, x15.2.2.2.1.2), x15.2.2.2.2) hk6))
        ·refine T.dStart mixed ?_
         refine T.move (.dPure (i := 0) rfl (by kernel_rfl) (fun d _ _ _ _ h => by cases d <;> exact h)) rfl (wants0 rfl) rfl rfl ?_
         refine T.move (.dPure (i := 2) rfl (by kernel_rfl) (fun d _ _ _ _ h => by cases d <;> exact h)) rfl (wants0 rfl) rfl rfl ?_
         refine T.nilCheck (.dPure (i := 3) rfl (by kernel_rfl) (fun d _ _ _ _ h => by cases d <;> exact h)) rfl (wants0 rfl) rfl rfl ?_
         refine T.field (.dPure (i := 4) rfl (by kernel_rfl) (fun d _ _ _ _ h => by cases d <;> exact h)) rfl (wants0 rfl) rfl rfl ?_
         refine T.dAdd 32 (fun w => w.heap[x3.1]? = some (.cells [.slice x15.2.2.1.1 s7.2.2.2.2.2.2.2.2.2.1.length x15.2.2.1.2, .slice x15.2.2.2.1.1 s7.2.2.2.2.2.2.2.2.2.2.1.length x15.2.2.2.1.2, .bool s7.2.2.2.2.2.2.2.2.2.2.2.1, .int .i64 s7.2.2.2.2.2.2.2.2.2.2.2.2.1, .int .u64 s7.2.2.2.2.2.2.2.2.2.2.2.2.2.1, .int .i64 s7.2.2.2.2.2.2.2.2.2.2.2.2.2.2.1, .int .i64 s7.2.2.2.2.2.2.2.2.2.2.2.2.2.2.2.1, .int .i64 s7.2.2.2.2.2.2.2.2.2.2.2.2.2.2.2.2].toArray 61 (0, 0))) (Cl.stays 5 rfl) ?_
         refine T.valS 0 (i := 5) (.bool s7.2.2.2.2.2.2.2.2.2.2.2.1) rfl rfl (by kernel_rfl) (by kernel_rfl) (fun d _ _ _ _ h => by cases d <;> exact h) (wants0 rfl) rfl (run_ldCl rfl rfl rfl) ?_
         obtain ⟨r7, hg7, hk5⟩ := inv_bind hk5
         refine T.pick [1, 2, 3, 4, 0, 5, 6, 7, 8] 9 rfl rfl (Nat.le_add_left _ _) (hs' := Cl x2.1 69 [.int .i64 s7.1, .map (some x2.2.1), .slice x15.1.1 s7.2.2.1.length x15.1.2, .bool s7.2.2.2.1, .int .i64 s7.2.2.2.2.1, .int .i64 s7.2.2.2.2.2.1, .int .u64 s7.2.2.2.2.2.2.1, .int .i64 s7.2.2.2.2.2.2.2.1, .int .i64 s7.2.2.2.2.2.2.2.2.1] :: Mp (Elt.slice E8) x2.2.1 s7.2.1 :: Hb 71 x15.1.1 x15.1.2 x15.2.1 s7.2.2.1 :: Bb 5 x15.2.1 s7.2.2.1 :: Ro (Elt.pair E64 (Elt.pair E64 (Elt.pair E64 (Elt.pair (Elt.slice E8) (Elt.pair E64 (Elt.pair EU64 (Elt.pair E64 E64))))))) A1 c1 l1 :: Cl x3.1 61 [.slice x15.2.2.1.1 s7.2.2.2.2.2.2.2.2.2.1.length x15.2.2.1.2, .slice x15.2.2.2.1.1 s7.2.2.2.2.2.2.2.2.2.2.1.length x15.2.2.2.1.2, .bool s7.2.2.2.2.2.2.2.2.2.2.2.1, .int .i64 s7.2.2.2.2.2.2.2.2.2.2.2.2.1, .int .u64 s7.2.2.2.2.2.2.2.2.2.2.2.2.2.1, .int .i64 s7.2.2.2.2.2.2.2.2.2.2.2.2.2.2.1, .int .i64 s7.2.2.2.2.2.2.2.2.2.2.2.2.2.2.2.1, .int .i64 s7.2.2.2.2.2.2.2.2.2.2.2.2.2.2.2.2] :: Bf (Elt.slice E8) 33 x15.2.2.1.1 x15.2.2.1.2 s7.2.2.2.2.2.2.2.2.2.1 :: Hb 77 x15.2.2.2.1.1 x15.2.2.2.1.2 x15.2.2.2.2 s7.2.2.2.2.2.2.2.2.2.2.1 :: Bb 5 x15.2.2.2.2 s7.2.2.2.2.2.2.2.2.2.2.1 :: hs) rfl ?_
         refine T.dOnly (i := 1) (by kernel_rfl) ?_
         refine T.call (.dOne rfl (by kernel_rfl)) (wants0 rfl) rfl (run_callF (vs := [_]) rfl Try.func20 rfl (by decide) rfl) (fun w hS => disk_Disk_Down.c hS (o0 := (s7.1, s7.2.2.2.1, s7.2.2.2.2.1, s7.2.2.2.2.2.1, s7.2.2.2.2.2.2.1, s7.2.2.2.2.2.2.2.1, s7.2.2.2.2.2.2.2.2.1)) (q0b := s7.2.1) (q0c := s7.2.2.1)  hg7) (fun x17 => ?_)
         refine T.dNext (phi_cons (.inr (Cl.stays 5 rfl)) phi_nil) ?_
         refine T.boolNe (.dPure (i := 6) rfl (by kernel_rfl) (fun d _ _ _ _ h => by cases d <;> exact h)) rfl (wants0 rfl) rfl rfl rfl (by kernel_rfl) ?_
         refine T.move (.dPure (i := 7) rfl (by kernel_rfl) (fun d _ _ _ _ h => by cases d <;> exact h)) rfl (wants0 rfl) rfl rfl ?_
         refine T.bool (b := (decide (r7 = s7.2.2.2.2.2.2.2.2.2.2.2.1))) (fun hb6 => ?_) (fun hb6 => ?_)
         ·replace hk5 := inv_posB hb6 hk5
          refine T.move (.dPure (i := 8) rfl (by kernel_rfl) (fun d _ _ _ _ h => by cases d <;> exact h)) rfl (wants1 rfl rfl rfl (not_t hb6)) rfl rfl ?_
          refine T.move (.dPure (i := 10) rfl (by kernel_rfl) (fun d _ _ _ _ h => by cases d <;> exact h)) rfl (wants1 rfl rfl rfl (not_t hb6)) rfl rfl ?_
          refine T.nilCheck (.dPure (i := 11) rfl (by kernel_rfl) (fun d _ _ _ _ h => by cases d <;> exact h)) rfl (wants1 rfl rfl rfl (not_t hb6)) rfl rfl ?_
          refine T.field (.dPure (i := 12) rfl (by kernel_rfl) (fun d _ _ _ _ h => by cases d <;> exact h)) rfl (wants1 rfl rfl rfl (not_t hb6)) rfl rfl ?_
          refine T.valS 0 (i := 13) (.int .i64 s7.2.2.2.2.2.2.2.2.2.2.2.2.2.2.2.2) rfl rfl (by kernel_rfl) (by kernel_rfl) (fun d _ _ _ _ h => by cases d <;> exact h) (wants1 rfl rfl rfl (not_t hb6)) rfl (run_ldCl rfl rfl rfl) ?_
          obtain ⟨r8, hg8, hk5⟩ := inv_bind hk5
          refine T.pick [0, 1, 2, 3, 4, 5, 6, 7, 8] 9 rfl rfl (Nat.le_add_left _ _) (hs' := Cl x2.1 69 [.int .i64 s7.1, .map (some x2.2.1), .slice x15.1.1 s7.2.2.1.length x15.1.2, .bool s7.2.2.2.1, .int .i64 s7.2.2.2.2.1, .int .i64 s7.2.2.2.2.2.1, .int .u64 s7.2.2.2.2.2.2.1, .int .i64 s7.2.2.2.2.2.2.2.1, .int .i64 s7.2.2.2.2.2.2.2.2.1] :: Mp (Elt.slice E8) x2.2.1 s7.2.1 :: Hb 71 x15.1.1 x15.1.2 x15.2.1 s7.2.2.1 :: Bb 5 x15.2.1 s7.2.2.1 :: Ro (Elt.pair E64 (Elt.pair E64 (Elt.pair E64 (Elt.pair (Elt.slice E8) (Elt.pair E64 (Elt.pair EU64 (Elt.pair E64 E64))))))) A1 c1 l1 :: Cl x3.1 61 [.slice x15.2.2.1.1 s7.2.2.2.2.2.2.2.2.2.1.length x15.2.2.1.2, .slice x15.2.2.2.1.1 s7.2.2.2.2.2.2.2.2.2.2.1.length x15.2.2.2.1.2, .bool s7.2.2.2.2.2.2.2.2.2.2.2.1, .int .i64 s7.2.2.2.2.2.2.2.2.2.2.2.2.1, .int .u64 s7.2.2.2.2.2.2.2.2.2.2.2.2.2.1, .int .i64 s7.2.2.2.2.2.2.2.2.2.2.2.2.2.2.1, .int .i64 s7.2.2.2.2.2.2.2.2.2.2.2.2.2.2.2.1, .int .i64 s7.2.2.2.2.2.2.2.2.2.2.2.2.2.2.2.2] :: Bf (Elt.slice E8) 33 x15.2.2.1.1 x15.2.2.1.2 s7.2.2.2.2.2.2.2.2.2.1 :: Hb 77 x15.2.2.2.1.1 x15.2.2.2.1.2 x15.2.2.2.2 s7.2.2.2.2.2.2.2.2.2.2.1 :: Bb 5 x15.2.2.2.2 s7.2.2.2.2.2.2.2.2.2.2.1 :: hs) rfl ?_
          refine T.dOnly (i := 9) (by kernel_rfl) ?_
          refine T.call (.dOne rfl (by kernel_rfl)) (wants1 rfl rfl rfl (not_t hb6)) rfl (run_callF (vs := [_]) rfl Try.func21 rfl (by decide) rfl) (fun w hS => disk_Disk_Life.c hS (o0 := (s7.1, s7.2.2.2.1, s7.2.2.2.2.1, s7.2.2.2.2.2.1, s7.2.2.2.2.2.2.1, s7.2.2.2.2.2.2.2.1, s7.2.2.2.2.2.2.2.2.1)) (q0b := s7.2.1) (q0c := s7.2.2.1)  hg8) (fun x18 => ?_)
          refine T.dNext (phi_cons (.inr (Cl.stays 5 rfl)) phi_nil) ?_
          refine T.bin (.dPure (i := 14) rfl (by kernel_rfl) (fun d _ _ _ _ h => by cases d <;> exact h)) rfl (wants1 rfl rfl rfl (not_t hb6)) rfl rfl rfl rfl ?_
          refine T.pickF (.dPure (i := 15) rfl (by kernel_rfl) (fun d _ _ _ _ h => by cases d <;> exact h)) rfl (wants0 rfl) rfl rfl (not_t hb6) rfl ?_
          refine T.move (.dPure (i := 16) rfl (by kernel_rfl) (fun d _ _ _ _ h => by cases d <;> exact h)) rfl (wants0 rfl) rfl rfl ?_
          refine T.bool (b := (decide (r8 = s7.2.2.2.2.2.2.2.2.2.2.2.2.2.2.2.2))) (fun hb7 => ?_) (fun hb7 => ?_)
          ·replace hk5 := inv_posB hb7 hk5
           refine T.move (.dPure (i := 17) rfl (by kernel_rfl) (fun d _ _ _ _ h => by cases d <;> exact h)) rfl (wants1 rfl rfl rfl (not_t hb7)) rfl rfl ?_
           refine T.move (.dPure (i := 19) rfl (by kernel_rfl) (fun d _ _ _ _ h => by cases d <;> exact h)) rfl (wants1 rfl rfl rfl (not_t hb7)) rfl rfl ?_
           refine T.nilCheck (.dPure (i := 20) rfl (by kernel_rfl) (fun d _ _ _ _ h => by cases d <;> exact h)) rfl (wants1 rfl rfl rfl (not_t hb7)) rfl rfl ?_
           refine T.field (.dPure (i := 21) rfl (by kernel_rfl) (fun d _ _ _ _ h => by cases d <;> exact h)) rfl (wants1 rfl rfl rfl (not_t hb7)) rfl rfl ?_
           refine T.valS 0 (i := 22) (.slice x15.2.2.2.1.1 s7.2.2.2.2.2.2.2.2.2.2.1.length x15.2.2.2.1.2) rfl rfl (by kernel_rfl) (by kernel_rfl) (fun d _ _ _ _ h => by cases d <;> exact h) (wants1 rfl rfl rfl (not_t hb7)) rfl (run_ldCl rfl rfl rfl) ?_
           refine T.lenSlice (.dPure (i := 23) rfl (by kernel_rfl) (fun d _ _ _ _ h => by cases d <;> exact h)) rfl (wants1 rfl rfl rfl (not_t hb7)) rfl rfl ?_
           obtain ⟨r9, hg9, hk5⟩ := inv_bind hk5
           refine T.pick [0, 1, 2, 3, 4, 5, 6, 7, 8] 9 rfl rfl (Nat.le_add_left _ _) (hs' := Cl x2.1 69 [.int .i64 s7.1, .map (some x2.2.1), .slice x15.1.1 s7.2.2.1.length x15.1.2, .bool s7.2.2.2.1, .int .i64 s7.2.2.2.2.1, .int .i64 s7.2.2.2.2.2.1, .int .u64 s7.2.2.2.2.2.2.1, .int .i64 s7.2.2.2.2.2.2.2.1, .int .i64 s7.2.2.2.2.2.2.2.2.1] :: Mp (Elt.slice E8) x2.2.1 s7.2.1 :: Hb 71 x15.1.1 x15.1.2 x15.2.1 s7.2.2.1 :: Bb 5 x15.2.1 s7.2.2.1 :: Ro (Elt.pair E64 (Elt.pair E64 (Elt.pair E64 (Elt.pair (Elt.slice E8) (Elt.pair E64 (Elt.pair EU64 (Elt.pair E64 E64))))))) A1 c1 l1 :: Cl x3.1 61 [.slice x15.2.2.1.1 s7.2.2.2.2.2.2.2.2.2.1.length x15.2.2.1.2, .slice x15.2.2.2.1.1 s7.2.2.2.2.2.2.2.2.2.2.1.length x15.2.2.2.1.2, .bool s7.2.2.2.2.2.2.2.2.2.2.2.1, .int .i64 s7.2.2.2.2.2.2.2.2.2.2.2.2.1, .int .u64 s7.2.2.2.2.2.2.2.2.2.2.2.2.2.1, .int .i64 s7.2.2.2.2.2.2.2.2.2.2.2.2.2.2.1, .int .i64 s7.2.2.2.2.2.2.2.2.2.2.2.2.2.2.2.1, .int .i64 s7.2.2.2.2.2.2.2.2.2.2.2.2.2.2.2.2] :: Bf (Elt.slice E8) 33 x15.2.2.1.1 x15.2.2.1.2 s7.2.2.2.2.2.2.2.2.2.1 :: Hb 77 x15.2.2.2.1.1 x15.2.2.2.1.2 x15.2.2.2.2 s7.2.2.2.2.2.2.2.2.2.2.1 :: Bb 5 x15.2.2.2.2 s7.2.2.2.2.2.2.2.2.2.2.1 :: hs) rfl ?_
           refine T.dOnly (i := 18) (by kernel_rfl) ?_
           refine T.call (.dOne rfl (by kernel_rfl)) (wants1 rfl rfl rfl (not_t hb7)) rfl (run_callF (vs := [_]) rfl Try.func17 rfl (by decide) rfl) (fun w hS => disk_Disk_Open.c hS (o0 := (s7.1, s7.2.2.2.1, s7.2.2.2.2.1, s7.2.2.2.2.2.1, s7.2.2.2.2.2.2.1, s7.2.2.2.2.2.2.2.1, s7.2.2.2.2.2.2.2.2.1)) (q0b := s7.2.1) (q0c := s7.2.2.1)  hg9) (fun x19 => ?_)
           refine T.dNext (phi_cons (.inr (Cl.stays 5 rfl)) phi_nil) ?_
           refine T.bin (.dPure (i := 24) rfl (by kernel_rfl) (fun d _ _ _ _ h => by cases d <;> exact h)) rfl (wants1 rfl rfl rfl (not_t hb7)) rfl rfl rfl rfl ?_
           refine T.pickF (.dPure (i := 25) rfl (by kernel_rfl) (fun d _ _ _ _ h => by cases d <;> exact h)) rfl (wants0 rfl) rfl rfl (not_t hb7) rfl ?_
           refine T.move (.dPure (i := 26) rfl (by kernel_rfl) (fun d _ _ _ _ h => by cases d <;> exact h)) rfl (wants0 rfl) rfl rfl ?_
           refine T.bool (b := (decide (r9 = ((s7.2.2.2.2.2.2.2.2.2.2.1.length : Int))))) (fun hb8 => ?_) (fun hb8 => ?_)
           ·replace hk5 := inv_posB hb8 hk5
            refine T.move (.dPure (i := 27) rfl (by kernel_rfl) (fun d _ _ _ _ h => by cases d <;> exact h)) rfl (wants1 rfl rfl rfl (not_t hb8)) rfl rfl ?_
            refine T.move (.dPure (i := 29) rfl (by kernel_rfl) (fun d _ _ _ _ h => by cases d <;> exact h)) rfl (wants1 rfl rfl rfl (not_t hb8)) rfl rfl ?_
            obtain ⟨r10, hg10, hk5⟩ := inv_bind hk5
            refine T.pick [0, 1, 2, 3, 4, 5, 6, 7, 8] 9 rfl rfl (Nat.le_add_left _ _) (hs' := Cl x2.1 69 [.int .i64 s7.1, .map (some x2.2.1), .slice x15.1.1 s7.2.2.1.length x15.1.2, .bool s7.2.2.2.1, .int .i64 s7.2.2.2.2.1, .int .i64 s7.2.2.2.2.2.1, .int .u64 s7.2.2.2.2.2.2.1, .int .i64 s7.2.2.2.2.2.2.2.1, .int .i64 s7.2.2.2.2.2.2.2.2.1] :: Mp (Elt.slice E8) x2.2.1 s7.2.1 :: Hb 71 x15.1.1 x15.1.2 x15.2.1 s7.2.2.1 :: Bb 5 x15.2.1 s7.2.2.1 :: Ro (Elt.pair E64 (Elt.pair E64 (Elt.pair E64 (Elt.pair (Elt.slice E8) (Elt.pair E64 (Elt.pair EU64 (Elt.pair E64 E64))))))) A1 c1 l1 :: Cl x3.1 61 [.slice x15.2.2.1.1 s7.2.2.2.2.2.2.2.2.2.1.length x15.2.2.1.2, .slice x15.2.2.2.1.1 s7.2.2.2.2.2.2.2.2.2.2.1.length x15.2.2.2.1.2, .bool s7.2.2.2.2.2.2.2.2.2.2.2.1, .int .i64 s7.2.2.2.2.2.2.2.2.2.2.2.2.1, .int .u64 s7.2.2.2.2.2.2.2.2.2.2.2.2.2.1, .int .i64 s7.2.2.2.2.2.2.2.2.2.2.2.2.2.2.1, .int .i64 s7.2.2.2.2.2.2.2.2.2.2.2.2.2.2.2.1, .int .i64 s7.2.2.2.2.2.2.2.2.2.2.2.2.2.2.2.2] :: Bf (Elt.slice E8) 33 x15.2.2.1.1 x15.2.2.1.2 s7.2.2.2.2.2.2.2.2.2.1 :: Hb 77 x15.2.2.2.1.1 x15.2.2.2.1.2 x15.2.2.2.2 s7.2.2.2.2.2.2.2.2.2.2.1 :: Bb 5 x15.2.2.2.2 s7.2.2.2.2.2.2.2.2.2.2.1 :: hs) rfl ?_
            refine T.dOnly (i := 28) (by kernel_rfl) ?_
            refine T.call (.dOne rfl (by kernel_rfl)) (wants1 rfl rfl rfl (not_t hb8)) rfl (run_callF (vs := [_]) rfl Try.func31 rfl (by decide) rfl) (fun w hS => disk_Disk_Blocks.c hS (o0 := (s7.1, s7.2.2.2.1, s7.2.2.2.2.1, s7.2.2.2.2.2.1, s7.2.2.2.2.2.2.1, s7.2.2.2.2.2.2.2.1, s7.2.2.2.2.2.2.2.2.1)) (q0b := s7.2.1) (q0c := s7.2.2.1)  hg10) (fun x20 => ?_)
            refine T.dNext (phi_cons (.inr (Cl.stays 5 rfl)) phi_nil) ?_
            refine T.bin (.dPure (i := 30) rfl (by kernel_rfl) (fun d _ _ _ _ h => by cases d <;> exact h)) rfl (wants1 rfl rfl rfl (not_t hb8)) rfl rfl rfl rfl ?_
            refine T.pickF (.dPure (i := 31) rfl (by kernel_rfl) (fun d _ _ _ _ h => by cases d <;> exact h)) rfl (wants0 rfl) rfl rfl (not_t hb8) rfl ?_
            refine T.dDone (by kernel_rfl) ?_
            refine T.then_normal ?_
            exact T.le (EnvLe.cons rfl (EnvLe.cons rfl (EnvLe.cons rfl (EnvLe.cons rfl (EnvLe.cons rfl (EnvLe.cons rfl EnvLe.nil)))))) (T.pick [4, 0, 1, 2, 3, 5, 6, 7, 8] 9 rfl rfl (Nat.le_add_left _ _) rfl (J6 (!(decide (r10 = (IntKind.i64.wrap ((bitsOf .and .i64 a0 7) + 1))))) () hk5))
           ·replace hk5 := inv_negB hb8 hk5
            refine T.leave (.dPure (i := 27) rfl (by kernel_rfl) (fun d _ _ _ _ h => by cases d <;> exact h)) (wantsNot rfl rfl rfl (not_f hb8)) rfl ?_
            refine T.leave (.dPure (i := 28) rfl (by kernel_rfl) (fun d _ _ _ _ h => by cases d <;> exact h)) (wantsNot rfl rfl rfl (not_f hb8)) rfl ?_
            refine T.leave (.dPure (i := 29) rfl (by kernel_rfl) (fun d _ _ _ _ h => by cases d <;> exact h)) (wantsNot rfl rfl rfl (not_f hb8)) rfl ?_
            refine T.leave (.dPure (i := 30) rfl (by kernel_rfl) (fun d _ _ _ _ h => by cases d <;> exact h)) (wantsNot rfl rfl rfl (not_f hb8)) rfl ?_
            refine T.pickT (.dPure (i := 31) rfl (by kernel_rfl) (fun d _ _ _ _ h => by cases d <;> exact h)) rfl (wants0 rfl) rfl rfl (not_f hb8) rfl ?_
            refine T.dDone (by kernel_rfl) ?_
            refine T.then_normal ?_
            exact T.le (EnvLe.cons rfl (EnvLe.cons rfl (EnvLe.cons rfl (EnvLe.cons rfl (EnvLe.cons rfl (EnvLe.cons rfl EnvLe.nil)))))) (T.pick [4, 0, 1, 2, 3, 5, 6, 7, 8] 9 rfl rfl (Nat.le_add_left _ _) rfl (J6 true () hk5))
          ·replace hk5 := inv_negB hb7 hk5
           refine T.leave (.dPure (i := 17) rfl (by kernel_rfl) (fun d _ _ _ _ h => by cases d <;> exact h)) (wantsNot rfl rfl rfl (not_f hb7)) rfl ?_
           refine T.leave (.dPure (i := 18) rfl (by kernel_rfl) (fun d _ _ _ _ h => by cases d <;> exact h)) (wantsNot rfl rfl rfl (not_f hb7)) rfl ?_
           refine T.leave (.dPure (i := 19) rfl (by kernel_rfl) (fun d _ _ _ _ h => by cases d <;> exact h)) (wantsNot rfl rfl rfl (not_f hb7)) rfl ?_
           refine T.leave (.dPure (i := 20) rfl (by kernel_rfl) (fun d _ _ _ _ h => by cases d <;> exact h)) (wantsNot rfl rfl rfl (not_f hb7)) rfl ?_
           refine T.leave (.dPure (i := 21) rfl (by kernel_rfl) (fun d _ _ _ _ h => by cases d <;> exact h)) (wantsNot rfl rfl rfl (not_f hb7)) rfl ?_
           refine T.leave (.dPure (i := 22) rfl (by kernel_rfl) (fun d _ _ _ _ h => by cases d <;> exact h)) (wantsNot rfl rfl rfl (not_f hb7)) rfl ?_
           refine T.leave (.dPure (i := 23) rfl (by kernel_rfl) (fun d _ _ _ _ h => by cases d <;> exact h)) (wantsNot rfl rfl rfl (not_f hb7)) rfl ?_
           refine T.leave (.dPure (i := 24) rfl (by kernel_rfl) (fun d _ _ _ _ h => by cases d <;> exact h)) (wantsNot rfl rfl rfl (not_f hb7)) rfl ?_
           refine T.pickT (.dPure (i := 25) rfl (by kernel_rfl) (fun d _ _ _ _ h => by cases d <;> exact h)) rfl (wants0 rfl) rfl rfl (not_f hb7) rfl ?_
           refine T.move (.dPure (i := 26) rfl (by kernel_rfl) (fun d _ _ _ _ h => by cases d <;> exact h)) rfl (wants0 rfl) rfl rfl ?_
           refine T.leave (.dPure (i := 27) rfl (by kernel_rfl) (fun d _ _ _ _ h => by cases d <;> exact h)) (wantsNot rfl rfl rfl rfl) rfl ?_
           refine T.leave (.dPure (i := 28) rfl (by kernel_rfl) (fun d _ _ _ _ h => by cases d <;> exact h)) (wantsNot rfl rfl rfl rfl) rfl ?_
           refine T.leave (.dPure (i := 29) rfl (by kernel_rfl) (fun d _ _ _ _ h => by cases d <;> exact h)) (wantsNot rfl rfl rfl rfl) rfl ?_
           refine T.leave (.dPure (i := 30) rfl (by kernel_rfl) (fun d _ _ _ _ h => by cases d <;> exact h)) (wantsNot rfl rfl rfl rfl) rfl ?_
           refine T.pickT (.dPure (i := 31) rfl (by kernel_rfl) (fun d _ _ _ _ h => by cases d <;> exact h)) rfl (wants0 rfl) rfl rfl rfl rfl ?_
           refine T.dDone (by kernel_rfl) ?_
           refine T.then_normal ?_
           exact T.le (EnvLe.cons rfl (EnvLe.cons rfl (EnvLe.cons rfl (EnvLe.cons rfl (EnvLe.cons rfl (EnvLe.cons rfl EnvLe.nil)))))) (T.pick [4, 0, 1, 2, 3, 5, 6, 7, 8] 9 rfl rfl (Nat.le_add_left _ _) rfl (J6 true () hk5))
         ·replace hk5 := inv_negB hb6 hk5
          refine T.leave (.dPure (i := 8) rfl (by kernel_rfl) (fun d _ _ _ _ h => by cases d <;> exact h)) (wantsNot rfl rfl rfl (not_f hb6)) rfl ?_
          refine T.leave (.dPure (i := 9) rfl (by kernel_rfl) (fun d _ _ _ _ h => by cases d <;> exact h)) (wantsNot rfl rfl rfl (not_f hb6)) rfl ?_
          refine T.leave (.dPure (i := 10) rfl (by kernel_rfl) (fun d _ _ _ _ h => by cases d <;> exact h)) (wantsNot rfl rfl rfl (not_f hb6)) rfl ?_
          refine T.leave (.dPure (i := 11) rfl (by kernel_rfl) (fun d _ _ _ _ h => by cases d <;> exact h)) (wantsNot rfl rfl rfl (not_f hb6)) rfl ?_
          refine T.leave (.dPure (i := 12) rfl (by kernel_rfl) (fun d _ _ _ _ h => by cases d <;> exact h)) (wantsNot rfl rfl rfl (not_f hb6)) rfl ?_
          refine T.leave (.dPure (i := 13) rfl (by kernel_rfl) (fun d _ _ _ _ h => by cases d <;> exact h)) (wantsNot rfl rfl rfl (not_f hb6)) rfl ?_
          refine T.leave (.dPure (i := 14) rfl (by kernel_rfl) (fun d _ _ _ _ h => by cases d <;> exact h)) (wantsNot rfl rfl rfl (not_f hb6)) rfl ?_
          refine T.pickT (.dPure (i := 15) rfl (by kernel_rfl) (fun d _ _ _ _ h => by cases d <;> exact h)) rfl (wants0 rfl) rfl rfl (not_f hb6) rfl ?_
          refine T.move (.dPure (i := 16) rfl (by kernel_rfl) (fun d _ _ _ _ h => by cases d <;> exact h)) rfl (wants0 rfl) rfl rfl ?_
          refine T.leave (.dPure (i := 17) rfl (by kernel_rfl) (fun d _ _ _ _ h => by cases d <;> exact h)) (wantsNot rfl rfl rfl rfl) rfl ?_
          refine T.leave (.dPure (i := 18) rfl (by kernel_rfl) (fun d _ _ _ _ h => by cases d <;> exact h)) (wantsNot rfl rfl rfl rfl) rfl ?_
          refine T.leave (.dPure (i := 19) rfl (by kernel_rfl) (fun d _ _ _ _ h => by cases d <;> exact h)) (wantsNot rfl rfl rfl rfl) rfl ?_
          refine T.leave (.dPure (i := 20) rfl (by kernel_rfl) (fun d _ _ _ _ h => by cases d <;> exact h)) (wantsNot rfl rfl rfl rfl) rfl ?_
          refine T.leave (.dPure (i := 21) rfl (by kernel_rfl) (fun d _ _ _ _ h => by cases d <;> exact h)) (wantsNot rfl rfl rfl rfl) rfl ?_
          refine T.leave (.dPure (i := 22) rfl (by kernel_rfl) (fun d _ _ _ _ h => by cases d <;> exact h)) (wantsNot rfl rfl rfl rfl) rfl ?_
          refine T.leave (.dPure (i := 23) rfl (by kernel_rfl) (fun d _ _ _ _ h => by cases d <;> exact h)) (wantsNot rfl rfl rfl rfl) rfl ?_
          refine T.leave (.dPure (i := 24) rfl (by kernel_rfl) (fun d _ _ _ _ h => by cases d <;> exact h)) (wantsNot rfl rfl rfl rfl) rfl ?_
          refine T.pickT (.dPure (i := 25) rfl (by kernel_rfl) (fun d _ _ _ _ h => by cases d <;> exact h)) rfl (wants0 rfl) rfl rfl rfl rfl ?_
          refine T.move (.dPure (i := 26) rfl (by kernel_rfl) (fun d _ _ _ _ h => by cases d <;> exact h)) rfl (wants0 rfl) rfl rfl ?_
          refine T.leave (.dPure (i := 27) rfl (by kernel_rfl) (fun d _ _ _ _ h => by cases d <;> exact h)) (wantsNot rfl rfl rfl rfl) rfl ?_
          refine T.leave (.dPure (i := 28) rfl (by kernel_rfl) (fun d _ _ _ _ h => by cases d <;> exact h)) (wantsNot rfl rfl rfl rfl) rfl ?_
          refine T.leave (.dPure (i := 29) rfl (by kernel_rfl) (fun d _ _ _ _ h => by cases d <;> exact h)) (wantsNot rfl rfl rfl rfl) rfl ?_
          refine T.leave (.dPure (i := 30) rfl (by kernel_rfl) (fun d _ _ _ _ h => by cases d <;> exact h)) (wantsNot rfl rfl rfl rfl) rfl ?_
          refine T.pickT (.dPure (i := 31) rfl (by kernel_rfl) (fun d _ _ _ _ h => by cases d <;> exact h)) rfl (wants0 rfl) rfl rfl rfl rfl ?_
          refine T.dDone (by kernel_rfl) ?_
          refine T.then_normal ?_
          exact T.le (EnvLe.cons rfl (EnvLe.cons rfl (EnvLe.cons rfl (EnvLe.cons rfl (EnvLe.cons rfl (EnvLe.cons rfl EnvLe.nil)))))) (T.pick [4, 0, 1, 2, 3, 5, 6, 7, 8] 9 rfl rfl (Nat.le_add_left _ _) rfl (J6 true () hk5))
       ·refine T.seq ?_
        refine T.region ?_
        refine T.field .list rfl (wants0 rfl) rfl rfl ?_
        refine T.load .list 0 rfl rfl (wants0 rfl) rfl rfl rfl ?_
        refine T.nil ?_
        refine T.then_normal ?_
        refine T.block ?_
        refine T.seq ?_
        refine T.region ?_
        refine T.bin .list rfl (wants0 rfl) rfl rfl rfl rfl ?_
        refine T.assign .list rfl (wants0 rfl) rfl rfl ?_
        refine T.nil ?_
        refine T.then_normal ?_
        refine T.cond rfl (fun hb9 => ?_) (fun hb9 => ?_)
        ·replace hk3 := inv_posB hb9 hk3
         refine T.seq ?_
         refine T.region ?_
         refine T.loadN .list 0 rfl rfl (wants0 rfl) rfl rfl (vs := [.int .i64 (((((l1).getD (s4.2.2.2.2.2.2.2.2.2.2.2.2.2.2.2.2.2 : Int).toNat default)).1)), .int .i64 (((((l1).getD (s4.2.2.2.2.2.2.2.2.2.2.2.2.2.2.2.2.2 : Int).toNat default)).2.1)), .int .i64 (((((l1).getD (s4.2.2.2.2.2.2.2.2.2.2.2.2.2.2.2.2.2 : Int).toNat default)).2.2.1)), .slice x14.2.2.2.1.1 ((((((l1).getD (s4.2.2.2.2.2.2.2.2.2.2.2.2.2.2.2.2.2 : Int).toNat default)).2.2.2.1)).length) x14.2.2.2.1.2, .int .i64 ((((((l1).getD (s4.2.2.2.2.2.2.2.2.2.2.2.2.2.2.2.2.2 : Int).toNat default)).2.2.2.2).1)), .int .u64 ((((((l1).getD (s4.2.2.2.2.2.2.2.2.2.2.2.2.2.2.2.2.2 : Int).toNat default)).2.2.2.2).2.1)), .int .i64 ((((((l1).getD (s4.2.2.2.2.2.2.2.2.2.2.2.2.2.2.2.2.2 : Int).toNat default)).2.2.2.2).2.2.1)), .int .i64 ((((((l1).getD (s4.2.2.2.2.2.2.2.2.2.2.2.2.2.2.2.2.2 : Int).toNat default)).2.2.2.2).2.2.2))]) rfl rfl ?_
         obtain ⟨r11, hg11, hk3⟩ := inv_bind hk3
         refine T.call .list (wants0 rfl) rfl (run_callF (vs := [_]) rfl Try.func22 rfl (by decide) rfl) (fun w hS => law3_bytes.c hS (i0a := 1) (a0 := (((((l1).getD (s4.2.2.2.2.2.2.2.2.2.2.2.2.2.2.2.2.2 : Int).toNat default)).1), ((((l1).getD (s4.2.2.2.2.2.2.2.2.2.2.2.2.2.2.2.2.2 : Int).toNat default)).2.1), ((((l1).getD (s4.2.2.2.2.2.2.2.2.2.2.2.2.2.2.2.2.2 : Int).toNat default)).2.2.1), ((((l1).getD (s4.2.2.2.2.2.2.2.2.2.2.2.2.2.2.2.2.2 : Int).toNat default)).2.2.2.1), ((((((l1).getD (s4.2.2.2.2.2.2.2.2.2.2.2.2.2.2.2.2.2 : Int).toNat default)).2.2.2.2).1), (((((l1).getD (s4.2.2.2.2.2.2.2.2.2.2.2.2.2.2.2.2.2 : Int).toNat default)).2.2.2.2).2.1), (((((l1).getD (s4.2.2.2.2.2.2.2.2.2.2.2.2.2.2.2.2.2 : Int).toNat default)).2.2.2.2).2.2.1), (((((l1).getD (s4.2.2.2.2.2.2.2.2.2.2.2.2.2.2.2.2.2 : Int).toNat default)).2.2.2.2).2.2.2)))) rfl hg11) (fun x21 => ?_)
         refine T.assign .list rfl (wants0 rfl) rfl rfl ?_
         refine T.nil ?_
         refine T.then_normal ?_
         refine T.seq ?_
         refine T.seq ?_
         refine T.dStart mixed ?_
         refine T.move (.dPure (i := 0) rfl (by kernel_rfl) (fun d _ _ _ _ h => by cases d <;> exact h)) rfl (wants0 rfl) rfl rfl ?_
         refine T.field (.dPure (i := 1) rfl (by kernel_rfl) (fun d _ _ _ _ h => by cases d <;> exact h)) rfl (wants0 rfl) rfl rfl ?_
         refine T.move (.dPure (i := 3) rfl (by kernel_rfl) (fun d _ _ _ _ h => by cases d <;> exact h)) rfl (wants0 rfl) rfl rfl ?_
         refine T.move (.dPure (i := 5) rfl (by kernel_rfl) (fun d _ _ _ _ h => by cases d <;> exact h)) rfl (wants0 rfl) rfl rfl ?_
         refine T.field (.dPure (i := 6) rfl (by kernel_rfl) (fun d _ _ _ _ h => by cases d <;> exact h)) rfl (wants0 rfl) rfl rfl ?_
         refine T.dAdd 12 (fun w => w.heap[b1]? = some (.cells [.int .i64 (((((l1).getD (s4.2.2.2.2.2.2.2.2.2.2.2.2.2.2.2.2.2 : Int).toNat default)).1)), .int .i64 (((((l1).getD (s4.2.2.2.2.2.2.2.2.2.2.2.2.2.2.2.2.2 : Int).toNat default)).2.1)), .int .i64 (((((l1).getD (s4.2.2.2.2.2.2.2.2.2.2.2.2.2.2.2.2.2 : Int).toNat default)).2.2.1)), .slice x14.2.2.2.1.1 ((((((l1).getD (s4.2.2.2.2.2.2.2.2.2.2.2.2.2.2.2.2.2 : Int).toNat default)).2.2.2.1)).length) x14.2.2.2.1.2, .int .i64 ((((((l1).getD (s4.2.2.2.2.2.2.2.2.2.2.2.2.2.2.2.2.2 : Int).toNat default)).2.2.2.2).1)), .int .u64 ((((((l1).getD (s4.2.2.2.2.2.2.2.2.2.2.2.2.2.2.2.2.2 : Int).toNat default)).2.2.2.2).2.1)), .int .i64 ((((((l1).getD (s4.2.2.2.2.2.2.2.2.2.2.2.2.2.2.2.2.2 : Int).toNat default)).2.2.2.2).2.2.1)), .int .i64 ((((((l1).getD (s4.2.2.2.2.2.2.2.2.2.2.2.2.2.2.2.2.2 : Int).toNat default)).2.2.2.2).2.2.2))].toArray 35 (0, 0))) (Cl.stays 1 rfl) ?_
         refine T.valS 0 (i := 2) (.int .i64 (((((l1).getD (s4.2.2.2.2.2.2.2.2.2.2.2.2.2.2.2.2.2 : Int).toNat default)).2.1))) rfl rfl (by kernel_rfl) (by kernel_rfl) (fun d _ _ _ _ h => by cases d <;> exact h) (wants0 rfl) rfl (run_ldCl rfl rfl rfl) ?_
         refine T.valS 0 (i := 7) (.int .i64 (((((l1).getD (s4.2.2.2.2.2.2.2.2.2.2.2.2.2.2.2.2.2 : Int).toNat default)).2.1))) rfl rfl (by kernel_rfl) (by kernel_rfl) (fun d _ _ _ _ h => by cases d <;> exact h) (wants0 rfl) rfl (run_ldCl rfl rfl rfl) ?_
         refine T.valS 0 (i := 8) (.agg #[.int .i64 (((((l1).getD (s4.2.2.2.2.2.2.2.2.2.2.2.2.2.2.2.2.2 : Int).toNat default)).1)), .int .i64 (((((l1).getD (s4.2.2.2.2.2.2.2.2.2.2.2.2.2.2.2.2.2 : Int).toNat default)).2.1)), .int .i64 (((((l1).getD (s4.2.2.2.2.2.2.2.2.2.2.2.2.2.2.2.2.2 : Int).toNat default)).2.2.1)), .slice x14.2.2.2.1.1 ((((((l1).getD (s4.2.2.2.2.2.2.2.2.2.2.2.2.2.2.2.2.2 : Int).toNat default)).2.2.2.1)).length) x14.2.2.2.1.2, .int .i64 ((((((l1).getD (s4.2.2.2.2.2.2.2.2.2.2.2.2.2.2.2.2.2 : Int).toNat default)).2.2.2.2).1)), .int .u64 ((((((l1).getD (s4.2.2.2.2.2.2.2.2.2.2.2.2.2.2.2.2.2 : Int).toNat default)).2.2.2.2).2.1)), .int .i64 ((((((l1).getD (s4.2.2.2.2.2.2.2.2.2.2.2.2.2.2.2.2.2 : Int).toNat default)).2.2.2.2).2.2.1)), .int .i64 ((((((l1).getD (s4.2.2.2.2.2.2.2.2.2.2.2.2.2.2.2.2.2 : Int).toNat default)).2.2.2.2).2.2.2))]) rfl rfl (by kernel_rfl) (by kernel_rfl) (fun d _ _ _ _ h => by cases d <;> exact h) (wants0 rfl) rfl (run_ldClN rfl rfl (vs := [.int .i64 (((((l1).getD (s4.2.2.2.2.2.2.2.2.2.2.2.2.2.2.2.2.2 : Int).toNat default)).1)), .int .i64 (((((l1).getD (s4.2.2.2.2.2.2.2.2.2.2.2.2.2.2.2.2.2 : Int).toNat default)).2.1)), .int .i64 (((((l1).getD (s4.2.2.2.2.2.2.2.2.2.2.2.2.2.2.2.2.2 : Int).toNat default)).2.2.1)), .slice x14.2.2.2.1.1 ((((((l1).getD (s4.2.2.2.2.2.2.2.2.2.2.2.2.2.2.2.2.2 : Int).toNat default)).2.2.2.1)).length) x14.2.2.2.1.2, .int .i64 ((((((l1).getD (s4.2.2.2.2.2.2.2.2.2.2.2.2.2.2.2.2.2 : Int).toNat default)).2.2.2.2).1)), .int .u64 ((((((l1).getD (s4.2.2.2.2.2.2.2.2.2.2.2.2.2.2.2.2.2 : Int).toNat default)).2.2.2.2).2.1)), .int .i64 ((((((l1).getD (s4.2.2.2.2.2.2.2.2.2.2.2.2.2.2.2.2.2 : Int).toNat default)).2.2.2.2).2.2.1)), .int .i64 ((((((l1).getD (s4.2.2.2.2.2.2.2.2.2.2.2.2.2.2.2.2.2 : Int).toNat default)).2.2.2.2).2.2.2))]) rfl rfl) ?_
         obtain ⟨r12, hg12, hk3⟩ := inv_bind hk3
         refine T.pick [4, 5, 6, 7, 0, 1, 2, 3, 8, 9, 10, 11] 12 rfl rfl (Nat.le_add_left _ _) (hs' := Cl x2.1 69 [.int .i64 s4.1, .map (some x2.2.1), .slice x11.1.1 s4.2.2.1.length x11.1.2, .bool s4.2.2.2.1, .int .i64 s4.2.2.2.2.1, .int .i64 s4.2.2.2.2.2.1, .int .u64 s4.2.2.2.2.2.2.1, .int .i64 s4.2.2.2.2.2.2.2.1, .int .i64 s4.2.2.2.2.2.2.2.2.1] :: Mp (Elt.slice E8) x2.2.1 s4.2.1 :: Hb 71 x11.1.1 x11.1.2 x11.2.1 s4.2.2.1 :: Bb 5 x11.2.1 s4.2.2.1 :: Bf E8 5 x21.1 x21.2 r11 :: Cl b1 35 [.int .i64 (((((l1).getD (s4.2.2.2.2.2.2.2.2.2.2.2.2.2.2.2.2.2 : Int).toNat default)).1)), .int .i64 (((((l1).getD (s4.2.2.2.2.2.2.2.2.2.2.2.2.2.2.2.2.2 : Int).toNat default)).2.1)), .int .i64 (((((l1).getD (s4.2.2.2.2.2.2.2.2.2.2.2.2.2.2.2.2.2 : Int).toNat default)).2.2.1)), .slice x14.2.2.2.1.1 ((((((l1).getD (s4.2.2.2.2.2.2.2.2.2.2.2.2.2.2.2.2.2 : Int).toNat default)).2.2.2.1)).length) x14.2.2.2.1.2, .int .i64 ((((((l1).getD (s4.2.2.2.2.2.2.2.2.2.2.2.2.2.2.2.2.2 : Int).toNat default)).2.2.2.2).1)), .int .u64 ((((((l1).getD (s4.2.2.2.2.2.2.2.2.2.2.2.2.2.2.2.2.2 : Int).toNat default)).2.2.2.2).2.1)), .int .i64 ((((((l1).getD (s4.2.2.2.2.2.2.2.2.2.2.2.2.2.2.2.2.2 : Int).toNat default)).2.2.2.2).2.2.1)), .int .i64 ((((((l1).getD (s4.2.2.2.2.2.2.2.2.2.2.2.2.2.2.2.2.2 : Int).toNat default)).2.2.2.2).2.2.2))] :: Ro E8 x14.2.2.2.1.1 x14.2.2.2.1.2 (((((l1).getD (s4.2.2.2.2.2.2.2.2.2.2.2.2.2.2.2.2.2 : Int).toNat default)).2.2.2.1)) :: Ro (Elt.pair E64 (Elt.pair E64 (Elt.pair E64 (Elt.pair (Elt.slice E8) (Elt.pair E64 (Elt.pair EU64 (Elt.pair E64 E64))))))) A1 c1 l1 :: Cl x3.1 61 [.slice x11.2.2.1.1 s4.2.2.2.2.2.2.2.2.2.1.length x11.2.2.1.2, .slice x11.2.2.2.1.1 s4.2.2.2.2.2.2.2.2.2.2.1.length x11.2.2.2.1.2, .bool s4.2.2.2.2.2.2.2.2.2.2.2.1, .int .i64 s4.2.2.2.2.2.2.2.2.2.2.2.2.1, .int .u64 s4.2.2.2.2.2.2.2.2.2.2.2.2.2.1, .int .i64 s4.2.2.2.2.2.2.2.2.2.2.2.2.2.2.1, .int .i64 s4.2.2.2.2.2.2.2.2.2.2.2.2.2.2.2.1, .int .i64 s4.2.2.2.2.2.2.2.2.2.2.2.2.2.2.2.2.1] :: Bf (Elt.slice E8) 33 x11.2.2.1.1 x11.2.2.1.2 s4.2.2.2.2.2.2.2.2.2.1 :: Hb 77 x11.2.2.2.1.1 x11.2.2.2.1.2 x11.2.2.2.2 s4.2.2.2.2.2.2.2.2.2.2.1 :: Bb 5 x11.2.2.2.2 s4.2.2.2.2.2.2.2.2.2.2.1 :: hs) rfl ?_
         refine T.dOnly (i := 4) (by kernel_rfl) ?_
         refine T.call (.dOne rfl (by kernel_rfl)) (wants0 rfl) rfl (run_callF (vs := [_, _, _]) rfl Try.func11 rfl (by decide) rfl) (fun w hS => disk_Disk_Write.c hS (o0 := (s4.1, s4.2.2.2.1, s4.2.2.2.2.1, s4.2.2.2.2.2.1, s4.2.2.2.2.2.2.1, s4.2.2.2.2.2.2.2.1, s4.2.2.2.2.2.2.2.2.1)) (q0b := s4.2.1) (q0c := s4.2.2.1) (l2 := r11)  hg12) (fun x22 => ?_)
         refine T.dNext (phi_cons (.inr (Cl.stays 5 rfl)) phi_nil) ?_
         obtain ⟨r13, hg13, hk3⟩ := inv_bind hk3
         refine T.dOnly (i := 9) (by kernel_rfl) ?_
         refine T.call (.dOne rfl (by kernel_rfl)) (wants0 rfl) rfl (run_callF (vs := [_]) rfl Try.func22 rfl (by decide) rfl) (fun w hS => law3_bytes.c hS (i0a := 6) (a0 := (((((l1).getD (s4.2.2.2.2.2.2.2.2.2.2.2.2.2.2.2.2.2 : Int).toNat default)).1), ((((l1).getD (s4.2.2.2.2.2.2.2.2.2.2.2.2.2.2.2.2.2 : Int).toNat default)).2.1), ((((l1).getD (s4.2.2.2.2.2.2.2.2.2.2.2.2.2.2.2.2.2 : Int).toNat default)).2.2.1), ((((l1).getD (s4.2.2.2.2.2.2.2.2.2.2.2.2.2.2.2.2.2 : Int).toNat default)).2.2.2.1), ((((((l1).getD (s4.2.2.2.2.2.2.2.2.2.2.2.2.2.2.2.2.2 : Int).toNat default)).2.2.2.2).1), (((((l1).getD (s4.2.2.2.2.2.2.2.2.2.2.2.2.2.2.2.2.2 : Int).toNat default)).2.2.2.2).2.1), (((((l1).getD (s4.2.2.2.2.2.2.2.2.2.2.2.2.2.2.2.2.2 : Int).toNat default)).2.2.2.2).2.2.1), (((((l1).getD (s4.2.2.2.2.2.2.2.2.2.2.2.2.2.2.2.2.2 : Int).toNat default)).2.2.2.2).2.2.2)))) rfl hg13) (fun x23 => ?_)
         refine T.dNext (phi_cons (.inr (Cl.stays 6 rfl)) phi_nil) ?_
         obtain ⟨r14, hg14, hk3⟩ := inv_bind hk3
         refine T.freeze 0 rfl rfl rfl ?_
         refine T.pick [9, 10, 11, 12, 0, 1, 2, 3, 4, 5, 6, 7, 8] 13 rfl rfl (Nat.le_add_left _ _) (hs' := Cl x3.1 61 [.slice x11.2.2.1.1 s4.2.2.2.2.2.2.2.2.2.1.length x11.2.2.1.2, .slice x11.2.2.2.1.1 s4.2.2.2.2.2.2.2.2.2.2.1.length x11.2.2.2.1.2, .bool s4.2.2.2.2.2.2.2.2.2.2.2.1, .int .i64 s4.2.2.2.2.2.2.2.2.2.2.2.2.1, .int .u64 s4.2.2.2.2.2.2.2.2.2.2.2.2.2.1, .int .i64 s4.2.2.2.2.2.2.2.2.2.2.2.2.2.2.1, .int .i64 s4.2.2.2.2.2.2.2.2.2.2.2.2.2.2.2.1, .int .i64 s4.2.2.2.2.2.2.2.2.2.2.2.2.2.2.2.2.1] :: Bf (Elt.slice E8) 33 x11.2.2.1.1 x11.2.2.1.2 s4.2.2.2.2.2.2.2.2.2.1 :: Hb 77 x11.2.2.2.1.1 x11.2.2.2.1.2 x11.2.2.2.2 s4.2.2.2.2.2.2.2.2.2.2.1 :: Bb 5 x11.2.2.2.2 s4.2.2.2.2.2.2.2.2.2.2.1 :: Ro E8 x23.1 x23.2 r13 :: Cl x2.1 69 [.int .i64 r12.2.1.1, .map (some x2.2.1), .slice x22.1.1 r12.2.2.2.length x22.1.2, .bool r12.2.1.2.1, .int .i64 r12.2.1.2.2.1, .int .i64 r12.2.1.2.2.2.1, .int .u64 r12.2.1.2.2.2.2.1, .int .i64 r12.2.1.2.2.2.2.2.1, .int .i64 r12.2.1.2.2.2.2.2.2] :: Mp (Elt.slice E8) x2.2.1 r12.2.2.1 :: Hb 71 x22.1.1 x22.1.2 x22.2 r12.2.2.2 :: Bb 5 x22.2 r12.2.2.2 :: Bf E8 5 x21.1 x21.2 r11 :: Cl b1 35 [.int .i64 (((((l1).getD (s4.2.2.2.2.2.2.2.2.2.2.2.2.2.2.2.2.2 : Int).toNat default)).1)), .int .i64 (((((l1).getD (s4.2.2.2.2.2.2.2.2.2.2.2.2.2.2.2.2.2 : Int).toNat default)).2.1)), .int .i64 (((((l1).getD (s4.2.2.2.2.2.2.2.2.2.2.2.2.2.2.2.2.2 : Int).toNat default)).2.2.1)), .slice x14.2.2.2.1.1 ((((((l1).getD (s4.2.2.2.2.2.2.2.2.2.2.2.2.2.2.2.2.2 : Int).toNat default)).2.2.2.1)).length) x14.2.2.2.1.2, .int .i64 ((((((l1).getD (s4.2.2.2.2.2.2.2.2.2.2.2.2.2.2.2.2.2 : Int).toNat default)).2.2.2.2).1)), .int .u64 ((((((l1).getD (s4.2.2.2.2.2.2.2.2.2.2.2.2.2.2.2.2.2 : Int).toNat default)).2.2.2.2).2.1)), .int .i64 ((((((l1).getD (s4.2.2.2.2.2.2.2.2.2.2.2.2.2.2.2.2.2 : Int).toNat default)).2.2.2.2).2.2.1)), .int .i64 ((((((l1).getD (s4.2.2.2.2.2.2.2.2.2.2.2.2.2.2.2.2.2 : Int).toNat default)).2.2.2.2).2.2.2))] :: Ro E8 x14.2.2.2.1.1 x14.2.2.2.1.2 (((((l1).getD (s4.2.2.2.2.2.2.2.2.2.2.2.2.2.2.2.2.2 : Int).toNat default)).2.2.2.1)) :: Ro (Elt.pair E64 (Elt.pair E64 (Elt.pair E64 (Elt.pair (Elt.slice E8) (Elt.pair E64 (Elt.pair EU64 (Elt.pair E64 E64))))))) A1 c1 l1 :: hs) rfl ?_
         refine T.dOnly (i := 10) (by kernel_rfl) ?_
         refine T.call (.dOne rfl (by kernel_rfl)) (wants0 rfl) rfl (run_callF (vs := [_, _, _]) rfl Try.func25 rfl (by decide) rfl) (fun w hS => ref3_Disk_Write.c hS (i2 := 4) (o0 := (s4.2.2.2.2.2.2.2.2.2.2.2.1, s4.2.2.2.2.2.2.2.2.2.2.2.2.1, s4.2.2.2.2.2.2.2.2.2.2.2.2.2.1, s4.2.2.2.2.2.2.2.2.2.2.2.2.2.2.1, s4.2.2.2.2.2.2.2.2.2.2.2.2.2.2.2.1, s4.2.2.2.2.2.2.2.2.2.2.2.2.2.2.2.2.1)) (q0a := s4.2.2.2.2.2.2.2.2.2.1) (q0b := s4.2.2.2.2.2.2.2.2.2.2.1) rfl hg14) (fun x24 => ?_)
         refine T.dNext (phi_cons (.inr (Cl.stays 10 rfl)) phi_nil) ?_
         refine T.bin (.dPure (i := 11) rfl (by kernel_rfl) (fun d _ _ _ _ h => by cases d <;> exact h)) rfl (wants0 rfl) rfl rfl rfl rfl ?_
         refine T.dDone (by kernel_rfl) ?_
         refine T.then_normal ?_
         refine T.cond rfl (fun hb10 => ?_) (fun hb10 => ?_)
         ·replace hk3 := inv_posB hb10 hk3
          refine T.seq ?_
          refine T.region ?_
          refine T.assign .list rfl (wants0 rfl) rfl rfl ?_
          refine T.nil ?_
          refine T.then_normal ?_
          refine T.ret ?_
          refine T.then_ret ?_
          refine T.in_ret ?_
          refine T.then_ret ?_
          refine T.in_ret ?_
          refine T.then_ret ?_
          refine T.then_ret ?_
          obtain rfl := inv_some hk3
          obtain rfl := hx2 _ rfl
          refine T.in_ret ?_
          refine T.then_ret ?_
          obtain rfl := inv_some hr
          refine T.pick [] 13 rfl rfl (Nat.le_add_left _ _) rfl ?_
          refine T.ret1 rfl rfl (fun w hS => ⟨(), rfl, hS⟩)
         ·replace hk3 := inv_negB hb10 hk3
          refine T.skip ?_
          refine T.then_normal ?_
          refine T.seq ?_
          refine T.region ?_
          refine T.assign .list rfl (wants0 rfl) rfl rfl ?_
          refine T.nil ?_
          refine T.then_normal ?_
          refine T.block ?_
          obtain ⟨e3, hl3, hk3⟩ := inv_bind hk3
          refine T.le (EnvLe.cons rfl (EnvLe.cons rfl (EnvLe.cons rfl (EnvLe.cons rfl (EnvLe.cons rfl (EnvLe.cons rfl (EnvLe.cons rfl EnvLe.nil))))))) (T.pick [12, 5, 6, 7, 8, 0, 1, 2, 3, 9] 13 rfl rfl (Nat.le_add_left _ _) rfl (T.loop (s0 := (r11, 0)) (env := fun s9 x25 => [(0, .int .i64 (IntKind.i64.wrap ((bitsOf .and .i64 a0 7) + 1))), (1, .slice A1 l1.length c1), (5, .pointer (some ⟨x2.1, 0, none⟩)), (7, .pointer (some ⟨x3.1, 0, none⟩)), (8, .int .i64 s4.2.2.2.2.2.2.2.2.2.2.2.2.2.2.2.2.2), (10, .slice x25.1 s9.1.length x25.2), (11, .int .i64 s9.2)]) (hs := fun (s9 : List UInt8 × Int) (x25 : (Option Addr × Nat)) => Ro (Elt.pair E64 (Elt.pair E64 (Elt.pair E64 (Elt.pair (Elt.slice E8) (Elt.pair E64 (Elt.pair EU64 (Elt.pair E64 E64))))))) A1 c1 l1 :: Cl x2.1 69 [.int .i64 r12.2.1.1, .map (some x2.2.1), .slice x22.1.1 r12.2.2.2.length x22.1.2, .bool r12.2.1.2.1, .int .i64 r12.2.1.2.2.1, .int .i64 r12.2.1.2.2.2.1, .int .u64 r12.2.1.2.2.2.2.1, .int .i64 r12.2.1.2.2.2.2.2.1, .int .i64 r12.2.1.2.2.2.2.2.2] :: Mp (Elt.slice E8) x2.2.1 r12.2.2.1 :: Hb 71 x22.1.1 x22.1.2 x22.2 r12.2.2.2 :: Bb 5 x22.2 r12.2.2.2 :: Cl x3.1 61 [.slice x24.1.1 r14.2.2.1.length x24.1.2, .slice x24.2.1.1 r14.2.2.2.length x24.2.1.2, .bool r14.2.1.1, .int .i64 r14.2.1.2.1, .int .u64 r14.2.1.2.2.1, .int .i64 r14.2.1.2.2.2.1, .int .i64 r14.2.1.2.2.2.2.1, .int .i64 r14.2.1.2.2.2.2.2] :: Bf (Elt.slice E8) 33 x24.1.1 x24.1.2 r14.2.2.1 :: Hb 77 x24.2.1.1 x24.2.1.2 x24.2.2 r14.2.2.2 :: Bb 5 x24.2.2 r14.2.2.2 :: Bf E8 5 x25.1 x25.2 s9.1 :: hs) hl3 (x21.1, x21.2) (fun K3 s9 x25 o3 he3 hm3 hx3 => ?_)))
          unfold law3_DiskPlays.st3 at he3
          refine T.seq ?_
          refine T.seq ?_
          refine T.region ?_
          refine T.move .list rfl (wants0 rfl) rfl rfl ?_
          refine T.move .list rfl (wants0 rfl) rfl rfl ?_
          refine T.lenSlice .list rfl (wants0 rfl) rfl rfl ?_
          refine T.bin .list rfl (wants0 rfl) rfl rfl rfl rfl ?_
          refine T.nil ?_
          refine T.then_normal ?_
          refine T.cond rfl (fun hb11 => ?_) (fun hb11 => ?_)
          ·replace he3 := inv_posB hb11 he3
           refine T.skip ?_
           refine T.then_normal ?_
           refine T.seq ?_
           refine T.block ?_
           refine T.region ?_
           refine T.move .list rfl (wants0 rfl) rfl rfl ?_
           refine T.move .list rfl (wants0 rfl) rfl rfl ?_
           obtain ⟨hc2, he3⟩ := inv_chk he3
           refine T.idxBf .list 9 rfl rfl (wants0 rfl) rfl rfl rfl hc2.1 hc2.2 (Nat.le_refl _) ?_
           refine T.stBf .list 9 (z := (9 : UInt8)) rfl rfl (wants0 rfl) rfl rfl rfl rfl hc2.1 hc2.2 rfl ?_
           refine T.nil ?_
           refine T.in_normal ?_
           refine T.then_normal ?_
           refine T.region ?_
           refine T.move .list rfl (wants0 rfl) rfl rfl ?_
           refine T.bin .list rfl (wants0 rfl) rfl rfl rfl rfl ?_
           refine T.assign .list rfl (wants0 rfl) rfl rfl ?_
           refine T.nil ?_
           refine T.then_normal ?_
           obtain rfl := inv_some he3
           refine T.env1 10 rfl (slc (n' := (((s9.1).set (s9.2 : Int).toNat (9 : UInt8))).length) (by simp only [List.length_set])) ?_
           exact T.le (EnvLe.cons rfl (EnvLe.cons rfl (EnvLe.cons rfl (EnvLe.cons rfl (EnvLe.cons rfl (EnvLe.cons rfl (EnvLe.cons rfl EnvLe.nil))))))) (T.pick [0, 1, 2, 3, 4, 5, 6, 7, 8, 9] 10 rfl rfl (Nat.le_add_left _ _) rfl (hm3 (((s9.1).set (s9.2 : Int).toNat (9 : UInt8)), IntKind.i64.wrap (s9.2 + 1)) rfl (x25.1, x25.2)))
          ·replace he3 := inv_negB hb11 he3
           refine T.exit ?_
           refine T.then_exit ?_
           refine T.then_exit ?_
           obtain rfl := inv_some he3
           obtain rfl := hx3 _ rfl
           refine T.in_hit ?_
           refine T.in_normal ?_
           refine T.then_normal ?_
           exact T.le (EnvLe.cons rfl (EnvLe.cons rfl (EnvLe.cons rfl (EnvLe.cons rfl (EnvLe.cons rfl EnvLe.nil))))) (T.pick [0, 1, 2, 3, 4, 5, 6, 7, 8] 10 rfl rfl (Nat.le_add_left _ _) rfl (J5 (r12.2.1.1, r12.2.2.1, r12.2.2.2, r12.2.1.2.1, r12.2.1.2.2.1, r12.2.1.2.2.2.1, r12.2.1.2.2.2.2.1, r12.2.1.2.2.2.2.2.1, r12.2.1.2.2.2.2.2.2, r14.2.2.1, r14.2.2.2, r14.2.1.1, r14.2.1.2.1, r14.2.1.2.2.1, r14.2.1.2.2.2.1, r14.2.1.2.2.2.2.1, r14.2.1.2.2.2.2.2) ((x22.1.1, x22.1.2), x22.2, (x24.1.1, x24.1.2), (x24.2.1.1, x24.2.1.2), x24.2.2) hk3))
        ·replace hk3 := inv_negB hb9 hk3
         refine T.seq ?_
         refine T.region ?_
         refine T.bin .list rfl (wants0 rfl) rfl rfl rfl rfl ?_
         refine T.assign .list rfl (wants0 rfl) rfl rfl ?_
         refine T.nil ?_
         refine T.then_normal ?_
         refine T.cond rfl (fun hb12 => ?_) (fun hb12 => ?_)
         ·replace hk3 := inv_posB hb12 hk3
          refine T.seq ?_
          refine T.region ?_
          refine T.move .list rfl (wants0 rfl) rfl rfl ?_
          refine T.pick [3, 4, 5, 6, 0, 1, 2, 7, 8, 9, 10] 11 rfl rfl (Nat.le_add_left _ _) (hs' := Cl x2.1 69 [.int .i64 s4.1, .map (some x2.2.1), .slice x11.1.1 s4.2.2.1.length x11.1.2, .bool s4.2.2.2.1, .int .i64 s4.2.2.2.2.1, .int .i64 s4.2.2.2.2.2.1, .int .u64 s4.2.2.2.2.2.2.1, .int .i64 s4.2.2.2.2.2.2.2.1, .int .i64 s4.2.2.2.2.2.2.2.2.1] :: Mp (Elt.slice E8) x2.2.1 s4.2.1 :: Hb 71 x11.1.1 x11.1.2 x11.2.1 s4.2.2.1 :: Bb 5 x11.2.1 s4.2.2.1 :: Cl b1 35 [.int .i64 (((((l1).getD (s4.2.2.2.2.2.2.2.2.2.2.2.2.2.2.2.2.2 : Int).toNat default)).1)), .int .i64 (((((l1).getD (s4.2.2.2.2.2.2.2.2.2.2.2.2.2.2.2.2.2 : Int).toNat default)).2.1)), .int .i64 (((((l1).getD (s4.2.2.2.2.2.2.2.2.2.2.2.2.2.2.2.2.2 : Int).toNat default)).2.2.1)), .slice x14.2.2.2.1.1 ((((((l1).getD (s4.2.2.2.2.2.2.2.2.2.2.2.2.2.2.2.2.2 : Int).toNat default)).2.2.2.1)).length) x14.2.2.2.1.2, .int .i64 ((((((l1).getD (s4.2.2.2.2.2.2.2.2.2.2.2.2.2.2.2.2.2 : Int).toNat default)).2.2.2.2).1)), .int .u64 ((((((l1).getD (s4.2.2.2.2.2.2.2.2.2.2.2.2.2.2.2.2.2 : Int).toNat default)).2.2.2.2).2.1)), .int .i64 ((((((l1).getD (s4.2.2.2.2.2.2.2.2.2.2.2.2.2.2.2.2.2 : Int).toNat default)).2.2.2.2).2.2.1)), .int .i64 ((((((l1).getD (s4.2.2.2.2.2.2.2.2.2.2.2.2.2.2.2.2.2 : Int).toNat default)).2.2.2.2).2.2.2))] :: Ro E8 x14.2.2.2.1.1 x14.2.2.2.1.2 (((((l1).getD (s4.2.2.2.2.2.2.2.2.2.2.2.2.2.2.2.2.2 : Int).toNat default)).2.2.2.1)) :: Ro (Elt.pair E64 (Elt.pair E64 (Elt.pair E64 (Elt.pair (Elt.slice E8) (Elt.pair E64 (Elt.pair EU64 (Elt.pair E64 E64))))))) A1 c1 l1 :: Cl x3.1 61 [.slice x11.2.2.1.1 s4.2.2.2.2.2.2.2.2.2.1.length x11.2.2.1.2, .slice x11.2.2.2.1.1 s4.2.2.2.2.2.2.2.2.2.2.1.length x11.2.2.2.1.2, .bool s4.2.2.2.2.2.2.2.2.2.2.2.1, .int .i64 s4.2.2.2.2.2.2.2.2.2.2.2.2.1, .int .u64 s4.2.2.2.2.2.2.2.2.2.2.2.2.2.1, .int .i64 s4.2.2.2.2.2.2.2.2.2.2.2.2.2.2.1, .int .i64 s4.2.2.2.2.2.2.2.2.2.2.2.2.2.2.2.1, .int .i64 s4.2.2.2.2.2.2.2.2.2.2.2.2.2.2.2.2.1] :: Bf (Elt.slice E8) 33 x11.2.2.1.1 x11.2.2.1.2 s4.2.2.2.2.2.2.2.2.2.1 :: Hb 77 x11.2.2.2.1.1 x11.2.2.2.1.2 x11.2.2.2.2 s4.2.2.2.2.2.2.2.2.2.2.1 :: Bb 5 x11.2.2.2.2 s4.2.2.2.2.2.2.2.2.2.2.1 :: hs) rfl ?_
          obtain ⟨r15, hg15, hk3⟩ := inv_bind hk3
          refine T.call .list (wants0 rfl) rfl (run_callF (vs := [_]) rfl Try.func10 rfl (by decide) rfl) (fun w hS => disk_Disk_Flush.c hS (o0 := (s4.1, s4.2.2.2.1, s4.2.2.2.2.1, s4.2.2.2.2.2.1, s4.2.2.2.2.2.2.1, s4.2.2.2.2.2.2.2.1, s4.2.2.2.2.2.2.2.2.1)) (q0b := s4.2.1) (q0c := s4.2.2.1)  hg15) (fun x26 => ?_)
          refine T.move .list rfl (wants0 rfl) rfl rfl ?_
          refine T.pick [7, 8, 9, 10, 0, 1, 2, 3, 4, 5, 6] 11 rfl rfl (Nat.le_add_left _ _) (hs' := Cl x3.1 61 [.slice x11.2.2.1.1 s4.2.2.2.2.2.2.2.2.2.1.length x11.2.2.1.2, .slice x11.2.2.2.1.1 s4.2.2.2.2.2.2.2.2.2.2.1.length x11.2.2.2.1.2, .bool s4.2.2.2.2.2.2.2.2.2.2.2.1, .int .i64 s4.2.2.2.2.2.2.2.2.2.2.2.2.1, .int .u64 s4.2.2.2.2.2.2.2.2.2.2.2.2.2.1, .int .i64 s4.2.2.2.2.2.2.2.2.2.2.2.2.2.2.1, .int .i64 s4.2.2.2.2.2.2.2.2.2.2.2.2.2.2.2.1, .int .i64 s4.2.2.2.2.2.2.2.2.2.2.2.2.2.2.2.2.1] :: Bf (Elt.slice E8) 33 x11.2.2.1.1 x11.2.2.1.2 s4.2.2.2.2.2.2.2.2.2.1 :: Hb 77 x11.2.2.2.1.1 x11.2.2.2.1.2 x11.2.2.2.2 s4.2.2.2.2.2.2.2.2.2.2.1 :: Bb 5 x11.2.2.2.2 s4.2.2.2.2.2.2.2.2.2.2.1 :: Cl x2.1 69 [.int .i64 r15.2.1.1, .map (some x2.2.1), .slice x26.1.1 r15.2.2.2.length x26.1.2, .bool r15.2.1.2.1, .int .i64 r15.2.1.2.2.1, .int .i64 r15.2.1.2.2.2.1, .int .u64 r15.2.1.2.2.2.2.1, .int .i64 r15.2.1.2.2.2.2.2.1, .int .i64 r15.2.1.2.2.2.2.2.2] :: Mp (Elt.slice E8) x2.2.1 r15.2.2.1 :: Hb 71 x26.1.1 x26.1.2 x26.2 r15.2.2.2 :: Bb 5 x26.2 r15.2.2.2 :: Cl b1 35 [.int .i64 (((((l1).getD (s4.2.2.2.2.2.2.2.2.2.2.2.2.2.2.2.2.2 : Int).toNat default)).1)), .int .i64 (((((l1).getD (s4.2.2.2.2.2.2.2.2.2.2.2.2.2.2.2.2.2 : Int).toNat default)).2.1)), .int .i64 (((((l1).getD (s4.2.2.2.2.2.2.2.2.2.2.2.2.2.2.2.2.2 : Int).toNat default)).2.2.1)), .slice x14.2.2.2.1.1 ((((((l1).getD (s4.2.2.2.2.2.2.2.2.2.2.2.2.2.2.2.2.2 : Int).toNat default)).2.2.2.1)).length) x14.2.2.2.1.2, .int .i64 ((((((l1).getD (s4.2.2.2.2.2.2.2.2.2.2.2.2.2.2.2.2.2 : Int).toNat default)).2.2.2.2).1)), .int .u64 ((((((l1).getD (s4.2.2.2.2.2.2.2.2.2.2.2.2.2.2.2.2.2 : Int).toNat default)).2.2.2.2).2.1)), .int .i64 ((((((l1).getD (s4.2.2.2.2.2.2.2.2.2.2.2.2.2.2.2.2.2 : Int).toNat default)).2.2.2.2).2.2.1)), .int .i64 ((((((l1).getD (s4.2.2.2.2.2.2.2.2.2.2.2.2.2.2.2.2.2 : Int).toNat default)).2.2.2.2).2.2.2))] :: Ro E8 x14.2.2.2.1.1 x14.2.2.2.1.2 (((((l1).getD (s4.2.2.2.2.2.2.2.2.2.2.2.2.2.2.2.2.2 : Int).toNat default)).2.2.2.1)) :: Ro (Elt.pair E64 (Elt.pair E64 (Elt.pair E64 (Elt.pair (Elt.slice E8) (Elt.pair E64 (Elt.pair EU64 (Elt.pair E64 E64))))))) A1 c1 l1 :: hs) rfl ?_
          obtain ⟨r16, hg16, hk3⟩ := inv_bind hk3
          refine T.call .list (wants0 rfl) rfl (run_callF (vs := [_]) rfl Try.func26 rfl (by decide) rfl) (fun w hS => ref3_Disk_Flush.c hS (o0 := (s4.2.2.2.2.2.2.2.2.2.2.2.1, s4.2.2.2.2.2.2.2.2.2.2.2.2.1, s4.2.2.2.2.2.2.2.2.2.2.2.2.2.1, s4.2.2.2.2.2.2.2.2.2.2.2.2.2.2.1, s4.2.2.2.2.2.2.2.2.2.2.2.2.2.2.2.1, s4.2.2.2.2.2.2.2.2.2.2.2.2.2.2.2.2.1)) (q0a := s4.2.2.2.2.2.2.2.2.2.1) (q0b := s4.2.2.2.2.2.2.2.2.2.2.1)  hg16) (fun x27 => ?_)
          refine T.bin .list rfl (wants0 rfl) rfl rfl rfl rfl ?_
          refine T.nil ?_
          refine T.then_normal ?_
          refine T.cond rfl (fun hb13 => ?_) (fun hb13 => ?_)
          ·replace hk3 := inv_posB hb13 hk3
           refine T.seq ?_
           refine T.region ?_
           refine T.assign .list rfl (wants0 rfl) rfl rfl ?_
           refine T.nil ?_
           refine T.then_normal ?_
           refine T.ret ?_
           refine T.in_ret ?_
           refine T.then_ret ?_
           refine T.in_ret ?_
           refine T.then_ret ?_
           refine T.then_ret ?_
           obtain rfl := inv_some hk3
           obtain rfl := hx2 _ rfl
           refine T.in_ret ?_
           refine T.then_ret ?_
           obtain rfl := inv_some hr
           refine T.pick [] 11 rfl rfl (Nat.le_add_left _ _) rfl ?_
           refine T.ret1 rfl rfl (fun w hS => ⟨(), rfl, hS⟩)
          ·replace hk3 := inv_negB hb13 hk3
           refine T.skip ?_
           refine T.in_normal ?_
           refine T.then_normal ?_
           exact T.le (EnvLe.cons rfl (EnvLe.cons rfl (EnvLe.cons rfl (EnvLe.cons rfl (EnvLe.cons rfl EnvLe.nil))))) (T.pick [10, 4, 5, 6, 7, 0, 1, 2, 3] 11 rfl rfl (Nat.le_add_left _ _) rfl (J5 (r15.2.1.1, r15.2.2.1, r15.2.2.2, r15.2.1.2.1, r15.2.1.2.2.1, r15.2.1.2.2.2.1, r15.2.1.2.2.2.2.1, r15.2.1.2.2.2.2.2.1, r15.2.1.2.2.2.2.2.2, r16.2.2.1, r16.2.2.2, r16.2.1.1, r16.2.1.2.1, r16.2.1.2.2.1, r16.2.1.2.2.2.1, r16.2.1.2.2.2.2.1, r16.2.1.2.2.2.2.2) ((x26.1.1, x26.1.2), x26.2, (x27.1.1, x27.1.2), (x27.2.1.1, x27.2.1.2), x27.2.2) hk3))
         ·replace hk3 := inv_negB hb12 hk3
          refine T.seq ?_
          refine T.region ?_
          refine T.bin .list rfl (wants0 rfl) rfl rfl rfl rfl ?_
          refine T.assign .list rfl (wants0 rfl) rfl rfl ?_
          refine T.nil ?_
          refine T.then_normal ?_
          refine T.cond rfl (fun hb14 => ?_) (fun hb14 => ?_)
          ·replace hk3 := inv_posB hb14 hk3
           refine T.seq ?_
           refine T.region ?_
           refine T.move .list rfl (wants0 rfl) rfl rfl ?_
           refine T.field .list rfl (wants0 rfl) rfl rfl ?_
           refine T.loadN .list 0 rfl rfl (wants0 rfl) rfl rfl (vs := [.int .i64 ((((((l1).getD (s4.2.2.2.2.2.2.2.2.2.2.2.2.2.2.2.2.2 : Int).toNat default)).2.2.2.2).1)), .int .u64 ((((((l1).getD (s4.2.2.2.2.2.2.2.2.2.2.2.2.2.2.2.2.2 : Int).toNat default)).2.2.2.2).2.1)), .int .i64 ((((((l1).getD (s4.2.2.2.2.2.2.2.2.2.2.2.2.2.2.2.2.2 : Int).toNat default)).2.2.2.2).2.2.1)), .int .i64 ((((((l1).getD (s4.2.2.2.2.2.2.2.2.2.2.2.2.2.2.2.2.2 : Int).toNat default)).2.2.2.2).2.2.2))]) rfl rfl ?_
           refine T.pick [3, 4, 5, 6, 0, 1, 2, 7, 8, 9, 10] 11 rfl rfl (Nat.le_add_left _ _) (hs' := Cl x2.1 69 [.int .i64 s4.1, .map (some x2.2.1), .slice x11.1.1 s4.2.2.1.length x11.1.2, .bool s4.2.2.2.1, .int .i64 s4.2.2.2.2.1, .int .i64 s4.2.2.2.2.2.1, .int .u64 s4.2.2.2.2.2.2.1, .int .i64 s4.2.2.2.2.2.2.2.1, .int .i64 s4.2.2.2.2.2.2.2.2.1] :: Mp (Elt.slice E8) x2.2.1 s4.2.1 :: Hb 71 x11.1.1 x11.1.2 x11.2.1 s4.2.2.1 :: Bb 5 x11.2.1 s4.2.2.1 :: Cl b1 35 [.int .i64 (((((l1).getD (s4.2.2.2.2.2.2.2.2.2.2.2.2.2.2.2.2.2 : Int).toNat default)).1)), .int .i64 (((((l1).getD (s4.2.2.2.2.2.2.2.2.2.2.2.2.2.2.2.2.2 : Int).toNat default)).2.1)), .int .i64 (((((l1).getD (s4.2.2.2.2.2.2.2.2.2.2.2.2.2.2.2.2.2 : Int).toNat default)).2.2.1)), .slice x14.2.2.2.1.1 ((((((l1).getD (s4.2.2.2.2.2.2.2.2.2.2.2.2.2.2.2.2.2 : Int).toNat default)).2.2.2.1)).length) x14.2.2.2.1.2, .int .i64 ((((((l1).getD (s4.2.2.2.2.2.2.2.2.2.2.2.2.2.2.2.2.2 : Int).toNat default)).2.2.2.2).1)), .int .u64 ((((((l1).getD (s4.2.2.2.2.2.2.2.2.2.2.2.2.2.2.2.2.2 : Int).toNat default)).2.2.2.2).2.1)), .int .i64 ((((((l1).getD (s4.2.2.2.2.2.2.2.2.2.2.2.2.2.2.2.2.2 : Int).toNat default)).2.2.2.2).2.2.1)), .int .i64 ((((((l1).getD (s4.2.2.2.2.2.2.2.2.2.2.2.2.2.2.2.2.2 : Int).toNat default)).2.2.2.2).2.2.2))] :: Ro E8 x14.2.2.2.1.1 x14.2.2.2.1.2 (((((l1).getD (s4.2.2.2.2.2.2.2.2.2.2.2.2.2.2.2.2.2 : Int).toNat default)).2.2.2.1)) :: Ro (Elt.pair E64 (Elt.pair E64 (Elt.pair E64 (Elt.pair (Elt.slice E8) (Elt.pair E64 (Elt.pair EU64 (Elt.pair E64 E64))))))) A1 c1 l1 :: Cl x3.1 61 [.slice x11.2.2.1.1 s4.2.2.2.2.2.2.2.2.2.1.length x11.2.2.1.2, .slice x11.2.2.2.1.1 s4.2.2.2.2.2.2.2.2.2.2.1.length x11.2.2.2.1.2, .bool s4.2.2.2.2.2.2.2.2.2.2.2.1, .int .i64 s4.2.2.2.2.2.2.2.2.2.2.2.2.1, .int .u64 s4.2.2.2.2.2.2.2.2.2.2.2.2.2.1, .int .i64 s4.2.2.2.2.2.2.2.2.2.2.2.2.2.2.1, .int .i64 s4.2.2.2.2.2.2.2.2.2.2.2.2.2.2.2.1, .int .i64 s4.2.2.2.2.2.2.2.2.2.2.2.2.2.2.2.2.1] :: Bf (Elt.slice E8) 33 x11.2.2.1.1 x11.2.2.1.2 s4.2.2.2.2.2.2.2.2.2.1 :: Hb 77 x11.2.2.2.1.1 x11.2.2.2.1.2 x11.2.2.2.2 s4.2.2.2.2.2.2.2.2.2.2.1 :: Bb 5 x11.2.2.2.2 s4.2.2.2.2.2.2.2.2.2.2.1 :: hs) rfl ?_
           obtain ⟨r17, hg17, hk3⟩ := inv_bind hk3
           refine T.call .list (wants0 rfl) rfl (run_callF (vs := [_, _]) rfl Try.func19 rfl (by decide) rfl) (fun w hS => disk_Disk_Arm.c hS (o0 := (s4.1, s4.2.2.2.1, s4.2.2.2.2.1, s4.2.2.2.2.2.1, s4.2.2.2.2.2.2.1, s4.2.2.2.2.2.2.2.1, s4.2.2.2.2.2.2.2.2.1)) (q0b := s4.2.1) (q0c := s4.2.2.1) (a1 := ((((((l1).getD (s4.2.2.2.2.2.2.2.2.2.2.2.2.2.2.2.2.2 : Int).toNat default)).2.2.2.2).1), (((((l1).getD (s4.2.2.2.2.2.2.2.2.2.2.2.2.2.2.2.2.2 : Int).toNat default)).2.2.2.2).2.1), (((((l1).getD (s4.2.2.2.2.2.2.2.2.2.2.2.2.2.2.2.2.2 : Int).toNat default)).2.2.2.2).2.2.1), (((((l1).getD (s4.2.2.2.2.2.2.2.2.2.2.2.2.2.2.2.2.2 : Int).toNat default)).2.2.2.2).2.2.2)))  hg17) (fun x28 => ?_)
           refine T.nil ?_
           refine T.then_normal ?_
           refine T.region ?_
           refine T.move .list rfl (wants0 rfl) rfl rfl ?_
           refine T.field .list rfl (wants0 rfl) rfl rfl ?_
           refine T.loadN .list 4 rfl rfl (wants0 rfl) rfl rfl (vs := [.int .i64 ((((((l1).getD (s4.2.2.2.2.2.2.2.2.2.2.2.2.2.2.2.2.2 : Int).toNat default)).2.2.2.2).1)), .int .u64 ((((((l1).getD (s4.2.2.2.2.2.2.2.2.2.2.2.2.2.2.2.2.2 : Int).toNat default)).2.2.2.2).2.1)), .int .i64 ((((((l1).getD (s4.2.2.2.2.2.2.2.2.2.2.2.2.2.2.2.2.2 : Int).toNat default)).2.2.2.2).2.2.1)), .int .i64 ((((((l1).getD (s4.2.2.2.2.2.2.2.2.2.2.2.2.2.2.2.2.2 : Int).toNat default)).2.2.2.2).2.2.2))]) rfl rfl ?_
           refine T.pick [7, 8, 9, 10, 0, 1, 2, 3, 4, 5, 6] 11 rfl rfl (Nat.le_add_left _ _) (hs' := Cl x3.1 61 [.slice x11.2.2.1.1 s4.2.2.2.2.2.2.2.2.2.1.length x11.2.2.1.2, .slice x11.2.2.2.1.1 s4.2.2.2.2.2.2.2.2.2.2.1.length x11.2.2.2.1.2, .bool s4.2.2.2.2.2.2.2.2.2.2.2.1, .int .i64 s4.2.2.2.2.2.2.2.2.2.2.2.2.1, .int .u64 s4.2.2.2.2.2.2.2.2.2.2.2.2.2.1, .int .i64 s4.2.2.2.2.2.2.2.2.2.2.2.2.2.2.1, .int .i64 s4.2.2.2.2.2.2.2.2.2.2.2.2.2.2.2.1, .int .i64 s4.2.2.2.2.2.2.2.2.2.2.2.2.2.2.2.2.1] :: Bf (Elt.slice E8) 33 x11.2.2.1.1 x11.2.2.1.2 s4.2.2.2.2.2.2.2.2.2.1 :: Hb 77 x11.2.2.2.1.1 x11.2.2.2.1.2 x11.2.2.2.2 s4.2.2.2.2.2.2.2.2.2.2.1 :: Bb 5 x11.2.2.2.2 s4.2.2.2.2.2.2.2.2.2.2.1 :: Cl x2.1 69 [.int .i64 r17.1, .map (some x2.2.1), .slice x11.1.1 s4.2.2.1.length x11.1.2, .bool r17.2.1, .int .i64 r17.2.2.1, .int .i64 r17.2.2.2.1, .int .u64 r17.2.2.2.2.1, .int .i64 r17.2.2.2.2.2.1, .int .i64 r17.2.2.2.2.2.2] :: Mp (Elt.slice E8) x2.2.1 s4.2.1 :: Hb 71 x11.1.1 x11.1.2 x11.2.1 s4.2.2.1 :: Bb 5 x11.2.1 s4.2.2.1 :: Cl b1 35 [.int .i64 (((((l1).getD (s4.2.2.2.2.2.2.2.2.2.2.2.2.2.2.2.2.2 : Int).toNat default)).1)), .int .i64 (((((l1).getD (s4.2.2.2.2.2.2.2.2.2.2.2.2.2.2.2.2.2 : Int).toNat default)).2.1)), .int .i64 (((((l1).getD (s4.2.2.2.2.2.2.2.2.2.2.2.2.2.2.2.2.2 : Int).toNat default)).2.2.1)), .slice x14.2.2.2.1.1 ((((((l1).getD (s4.2.2.2.2.2.2.2.2.2.2.2.2.2.2.2.2.2 : Int).toNat default)).2.2.2.1)).length) x14.2.2.2.1.2, .int .i64 ((((((l1).getD (s4.2.2.2.2.2.2.2.2.2.2.2.2.2.2.2.2.2 : Int).toNat default)).2.2.2.2).1)), .int .u64 ((((((l1).getD (s4.2.2.2.2.2.2.2.2.2.2.2.2.2.2.2.2.2 : Int).toNat default)).2.2.2.2).2.1)), .int .i64 ((((((l1).getD (s4.2.2.2.2.2.2.2.2.2.2.2.2.2.2.2.2.2 : Int).toNat default)).2.2.2.2).2.2.1)), .int .i64 ((((((l1).getD (s4.2.2.2.2.2.2.2.2.2.2.2.2.2.2.2.2.2 : Int).toNat default)).2.2.2.2).2.2.2))] :: Ro E8 x14.2.2.2.1.1 x14.2.2.2.1.2 (((((l1).getD (s4.2.2.2.2.2.2.2.2.2.2.2.2.2.2.2.2.2 : Int).toNat default)).2.2.2.1)) :: Ro (Elt.pair E64 (Elt.pair E64 (Elt.pair E64 (Elt.pair (Elt.slice E8) (Elt.pair E64 (Elt.pair EU64 (Elt.pair E64 E64))))))) A1 c1 l1 :: hs) rfl ?_
           obtain ⟨r18, hg18, hk3⟩ := inv_bind hk3
           refine T.call .list (wants0 rfl) rfl (run_callF (vs := [_, _]) rfl Try.func27 rfl (by decide) rfl) (fun w hS => ref3_Disk_Arm.c hS (o0 := (s4.2.2.2.2.2.2.2.2.2.2.2.1, s4.2.2.2.2.2.2.2.2.2.2.2.2.1, s4.2.2.2.2.2.2.2.2.2.2.2.2.2.1, s4.2.2.2.2.2.2.2.2.2.2.2.2.2.2.1, s4.2.2.2.2.2.2.2.2.2.2.2.2.2.2.2.1, s4.2.2.2.2.2.2.2.2.2.2.2.2.2.2.2.2.1)) (q0a := s4.2.2.2.2.2.2.2.2.2.1) (q0b := s4.2.2.2.2.2.2.2.2.2.2.1) (a1 := ((((((l1).getD (s4.2.2.2.2.2.2.2.2.2.2.2.2.2.2.2.2.2 : Int).toNat default)).2.2.2.2).1), (((((l1).getD (s4.2.2.2.2.2.2.2.2.2.2.2.2.2.2.2.2.2 : Int).toNat default)).2.2.2.2).2.1), (((((l1).getD (s4.2.2.2.2.2.2.2.2.2.2.2.2.2.2.2.2.2 : Int).toNat default)).2.2.2.2).2.2.1), (((((l1).getD (s4.2.2.2.2.2.2.2.2.2.2.2.2.2.2.2.2.2 : Int).toNat default)).2.2.2.2).2.2.2)))  hg18) (fun x29 => ?_)
           refine T.nil ?_
           refine T.in_normal ?_
           refine T.then_normal ?_
           exact T.le (EnvLe.cons rfl (EnvLe.cons rfl (EnvLe.cons rfl (EnvLe.cons rfl (EnvLe.cons rfl EnvLe.nil))))) (T.pick [10, 4, 5, 6, 7, 0, 1, 2, 3] 11 rfl rfl (Nat.le_add_left _ _) rfl (J5 (r17.1, s4.2.1, s4.2.2.1, r17.2.1, r17.2.2.1, r17.2.2.2.1, r17.2.2.2.2.1, r17.2.2.2.2.2.1, r17.2.2.2.2.2.2, s4.2.2.2.2.2.2.2.2.2.1, s4.2.2.2.2.2.2.2.2.2.2.1, r18.1, r18.2.1, r18.2.2.1, r18.2.2.2.1, r18.2.2.2.2.1, r18.2.2.2.2.2) ((x11.1.1, x11.1.2), x11.2.1, (x11.2.2.1.1, x11.2.2.1.2), (x11.2.2.2.1.1, x11.2.2.2.1.2), x11.2.2.2.2) hk3))
          ·replace hk3 := inv_negB hb14 hk3
           refine T.seq ?_
           refine T.region ?_
           refine T.bin .list rfl (wants0 rfl) rfl rfl rfl rfl ?_
           refine T.assign .list rfl (wants0 rfl) rfl rfl ?_
           refine T.nil ?_
           refine T.then_normal ?_
           refine T.cond rfl (fun hb15 => ?_) (fun hb15 => ?_)
           ·replace hk3 := inv_posB hb15 hk3
            refine T.seq ?_
            refine T.region ?_
            refine T.move .list rfl (wants0 rfl) rfl rfl ?_
            refine T.field .list rfl (wants0 rfl) rfl rfl ?_
            refine T.loadN .list 0 rfl rfl (wants0 rfl) rfl rfl (vs := [.int .i64 ((((((l1).getD (s4.2.2.2.2.2.2.2.2.2.2.2.2.2.2.2.2.2 : Int).toNat default)).2.2.2.2).1)), .int .u64 ((((((l1).getD (s4.2.2.2.2.2.2.2.2.2.2.2.2.2.2.2.2.2 : Int).toNat default)).2.2.2.2).2.1)), .int .i64 ((((((l1).getD (s4.2.2.2.2.2.2.2.2.2.2.2.2.2.2.2.2.2 : Int).toNat default)).2.2.2.2).2.2.1)), .int .i64 ((((((l1).getD (s4.2.2.2.2.2.2.2.2.2.2.2.2.2.2.2.2.2 : Int).toNat default)).2.2.2.2).2.2.2))]) rfl rfl ?_
            refine T.pick [3, 4, 5, 6, 0, 1, 2, 7, 8, 9, 10] 11 rfl rfl (Nat.le_add_left _ _) (hs' := Cl x2.1 69 [.int .i64 s4.1, .map (some x2.2.1), .slice x11.1.1 s4.2.2.1.length x11.1.2, .bool s4.2.2.2.1, .int .i64 s4.2.2.2.2.1, .int .i64 s4.2.2.2.2.2.1, .int .u64 s4.2.2.2.2.2.2.1, .int .i64 s4.2.2.2.2.2.2.2.1, .int .i64 s4.2.2.2.2.2.2.2.2.1] :: Mp (Elt.slice E8) x2.2.1 s4.2.1 :: Hb 71 x11.1.1 x11.1.2 x11.2.1 s4.2.2.1 :: Bb 5 x11.2.1 s4.2.2.1 :: Cl b1 35 [.int .i64 (((((l1).getD (s4.2.2.2.2.2.2.2.2.2.2.2.2.2.2.2.2.2 : Int).toNat default)).1)), .int .i64 (((((l1).getD (s4.2.2.2.2.2.2.2.2.2.2.2.2.2.2.2.2.2 : Int).toNat default)).2.1)), .int .i64 (((((l1).getD (s4.2.2.2.2.2.2.2.2.2.2.2.2.2.2.2.2.2 : Int).toNat default)).2.2.1)), .slice x14.2.2.2.1.1 ((((((l1).getD (s4.2.2.2.2.2.2.2.2.2.2.2.2.2.2.2.2.2 : Int).toNat default)).2.2.2.1)).length) x14.2.2.2.1.2, .int .i64 ((((((l1).getD (s4.2.2.2.2.2.2.2.2.2.2.2.2.2.2.2.2.2 : Int).toNat default)).2.2.2.2).1)), .int .u64 ((((((l1).getD (s4.2.2.2.2.2.2.2.2.2.2.2.2.2.2.2.2.2 : Int).toNat default)).2.2.2.2).2.1)), .int .i64 ((((((l1).getD (s4.2.2.2.2.2.2.2.2.2.2.2.2.2.2.2.2.2 : Int).toNat default)).2.2.2.2).2.2.1)), .int .i64 ((((((l1).getD (s4.2.2.2.2.2.2.2.2.2.2.2.2.2.2.2.2.2 : Int).toNat default)).2.2.2.2).2.2.2))] :: Ro E8 x14.2.2.2.1.1 x14.2.2.2.1.2 (((((l1).getD (s4.2.2.2.2.2.2.2.2.2.2.2.2.2.2.2.2.2 : Int).toNat default)).2.2.2.1)) :: Ro (Elt.pair E64 (Elt.pair E64 (Elt.pair E64 (Elt.pair (Elt.slice E8) (Elt.pair E64 (Elt.pair EU64 (Elt.pair E64 E64))))))) A1 c1 l1 :: Cl x3.1 61 [.slice x11.2.2.1.1 s4.2.2.2.2.2.2.2.2.2.1.length x11.2.2.1.2, .slice x11.2.2.2.1.1 s4.2.2.2.2.2.2.2.2.2.2.1.length x11.2.2.2.1.2, .bool s4.2.2.2.2.2.2.2.2.2.2.2.1, .int .i64 s4.2.2.2.2.2.2.2.2.2.2.2.2.1, .int .u64 s4.2.2.2.2.2.2.2.2.2.2.2.2.2.1, .int .i64 s4.2.2.2.2.2.2.2.2.2.2.2.2.2.2.1, .int .i64 s4.2.2.2.2.2.2.2.2.2.2.2.2.2.2.2.1, .int .i64 s4.2.2.2.2.2.2.2.2.2.2.2.2.2.2.2.2.1] :: Bf (Elt.slice E8) 33 x11.2.2.1.1 x11.2.2.1.2 s4.2.2.2.2.2.2.2.2.2.1 :: Hb 77 x11.2.2.2.1.1 x11.2.2.2.1.2 x11.2.2.2.2 s4.2.2.2.2.2.2.2.2.2.2.1 :: Bb 5 x11.2.2.2.2 s4.2.2.2.2.2.2.2.2.2.2.1 :: hs) rfl ?_
            obtain ⟨r19, hg19, hk3⟩ := inv_bind hk3
            refine T.call .list (wants0 rfl) rfl (run_callF (vs := [_, _]) rfl Try.func12 rfl (by decide) rfl) (fun w hS => disk_Disk_Cut.c hS (o0 := (s4.1, s4.2.2.2.1, s4.2.2.2.2.1, s4.2.2.2.2.2.1, s4.2.2.2.2.2.2.1, s4.2.2.2.2.2.2.2.1, s4.2.2.2.2.2.2.2.2.1)) (q0b := s4.2.1) (q0c := s4.2.2.1) (a1 := ((((((l1).getD (s4.2.2.2.2.2.2.2.2.2.2.2.2.2.2.2.2.2 : Int).toNat default)).2.2.2.2).1), (((((l1).getD (s4.2.2.2.2.2.2.2.2.2.2.2.2.2.2.2.2.2 : Int).toNat default)).2.2.2.2).2.1), (((((l1).getD (s4.2.2.2.2.2.2.2.2.2.2.2.2.2.2.2.2.2 : Int).toNat default)).2.2.2.2).2.2.1), (((((l1).getD (s4.2.2.2.2.2.2.2.2.2.2.2.2.2.2.2.2.2 : Int).toNat default)).2.2.2.2).2.2.2)))  hg19) (fun x30 => ?_)
            refine T.nil ?_
            refine T.then_normal ?_
            refine T.region ?_
            refine T.move .list rfl (wants0 rfl) rfl rfl ?_
            refine T.field .list rfl (wants0 rfl) rfl rfl ?_
            refine T.loadN .list 4 rfl rfl (wants0 rfl) rfl rfl (vs := [.int .i64 ((((((l1).getD (s4.2.2.2.2.2.2.2.2.2.2.2.2.2.2.2.2.2 : Int).toNat default)).2.2.2.2).1)), .int .u64 ((((((l1).getD (s4.2.2.2.2.2.2.2.2.2.2.2.2.2.2.2.2.2 : Int).toNat default)).2.2.2.2).2.1)), .int .i64 ((((((l1).getD (s4.2.2.2.2.2.2.2.2.2.2.2.2.2.2.2.2.2 : Int).toNat default)).2.2.2.2).2.2.1)), .int .i64 ((((((l1).getD (s4.2.2.2.2.2.2.2.2.2.2.2.2.2.2.2.2.2 : Int).toNat default)).2.2.2.2).2.2.2))]) rfl rfl ?_
            refine T.pick [7, 8, 9, 10, 0, 1, 2, 3, 4, 5, 6] 11 rfl rfl (Nat.le_add_left _ _) (hs' := Cl x3.1 61 [.slice x11.2.2.1.1 s4.2.2.2.2.2.2.2.2.2.1.length x11.2.2.1.2, .slice x11.2.2.2.1.1 s4.2.2.2.2.2.2.2.2.2.2.1.length x11.2.2.2.1.2, .bool s4.2.2.2.2.2.2.2.2.2.2.2.1, .int .i64 s4.2.2.2.2.2.2.2.2.2.2.2.2.1, .int .u64 s4.2.2.2.2.2.2.2.2.2.2.2.2.2.1, .int .i64 s4.2.2.2.2.2.2.2.2.2.2.2.2.2.2.1, .int .i64 s4.2.2.2.2.2.2.2.2.2.2.2.2.2.2.2.1, .int .i64 s4.2.2.2.2.2.2.2.2.2.2.2.2.2.2.2.2.1] :: Bf (Elt.slice E8) 33 x11.2.2.1.1 x11.2.2.1.2 s4.2.2.2.2.2.2.2.2.2.1 :: Hb 77 x11.2.2.2.1.1 x11.2.2.2.1.2 x11.2.2.2.2 s4.2.2.2.2.2.2.2.2.2.2.1 :: Bb 5 x11.2.2.2.2 s4.2.2.2.2.2.2.2.2.2.2.1 :: Cl x2.1 69 [.int .i64 r19.1.1, .map (some x2.2.1), .slice x30.1.1 r19.2.2.length x30.1.2, .bool r19.1.2.1, .int .i64 r19.1.2.2.1, .int .i64 r19.1.2.2.2.1, .int .u64 r19.1.2.2.2.2.1, .int .i64 r19.1.2.2.2.2.2.1, .int .i64 r19.1.2.2.2.2.2.2] :: Mp (Elt.slice E8) x2.2.1 r19.2.1 :: Hb 71 x30.1.1 x30.1.2 x30.2 r19.2.2 :: Bb 5 x30.2 r19.2.2 :: Cl b1 35 [.int .i64 (((((l1).getD (s4.2.2.2.2.2.2.2.2.2.2.2.2.2.2.2.2.2 : Int).toNat default)).1)), .int .i64 (((((l1).getD (s4.2.2.2.2.2.2.2.2.2.2.2.2.2.2.2.2.2 : Int).toNat default)).2.1)), .int .i64 (((((l1).getD (s4.2.2.2.2.2.2.2.2.2.2.2.2.2.2.2.2.2 : Int).toNat default)).2.2.1)), .slice x14.2.2.2.1.1 ((((((l1).getD (s4.2.2.2.2.2.2.2.2.2.2.2.2.2.2.2.2.2 : Int).toNat default)).2.2.2.1)).length) x14.2.2.2.1.2, .int .i64 ((((((l1).getD (s4.2.2.2.2.2.2.2.2.2.2.2.2.2.2.2.2.2 : Int).toNat default)).2.2.2.2).1)), .int .u64 ((((((l1).getD (s4.2.2.2.2.2.2.2.2.2.2.2.2.2.2.2.2.2 : Int).toNat default)).2.2.2.2).2.1)), .int .i64 ((((((l1).getD (s4.2.2.2.2.2.2.2.2.2.2.2.2.2.2.2.2.2 : Int).toNat default)).2.2.2.2).2.2.1)), .int .i64 ((((((l1).getD (s4.2.2.2.2.2.2.2.2.2.2.2.2.2.2.2.2.2 : Int).toNat default)).2.2.2.2).2.2.2))] :: Ro E8 x14.2.2.2.1.1 x14.2.2.2.1.2 (((((l1).getD (s4.2.2.2.2.2.2.2.2.2.2.2.2.2.2.2.2.2 : Int).toNat default)).2.2.2.1)) :: Ro (Elt.pair E64 (Elt.pair E64 (Elt.pair E64 (Elt.pair (Elt.slice E8) (Elt.pair E64 (Elt.pair EU64 (Elt.pair E64 E64))))))) A1 c1 l1 :: hs) rfl ?_
            obtain ⟨r20, hg20, hk3⟩ := inv_bind hk3
            refine T.call .list (wants0 rfl) rfl (run_callF (vs := [_, _]) rfl Try.func28 rfl (by decide) rfl) (fun w hS => ref3_Disk_Cut.c hS (o0 := (s4.2.2.2.2.2.2.2.2.2.2.2.1, s4.2.2.2.2.2.2.2.2.2.2.2.2.1, s4.2.2.2.2.2.2.2.2.2.2.2.2.2.1, s4.2.2.2.2.2.2.2.2.2.2.2.2.2.2.1, s4.2.2.2.2.2.2.2.2.2.2.2.2.2.2.2.1, s4.2.2.2.2.2.2.2.2.2.2.2.2.2.2.2.2.1)) (q0a := s4.2.2.2.2.2.2.2.2.2.1) (q0b := s4.2.2.2.2.2.2.2.2.2.2.1) (a1 := ((((((l1).getD (s4.2.2.2.2.2.2.2.2.2.2.2.2.2.2.2.2.2 : Int).toNat default)).2.2.2.2).1), (((((l1).getD (s4.2.2.2.2.2.2.2.2.2.2.2.2.2.2.2.2.2 : Int).toNat default)).2.2.2.2).2.1), (((((l1).getD (s4.2.2.2.2.2.2.2.2.2.2.2.2.2.2.2.2.2 : Int).toNat default)).2.2.2.2).2.2.1), (((((l1).getD (s4.2.2.2.2.2.2.2.2.2.2.2.2.2.2.2.2.2 : Int).toNat default)).2.2.2.2).2.2.2)))  hg20) (fun x31 => ?_)
            refine T.nil ?_
            refine T.in_normal ?_
            refine T.then_normal ?_
            exact T.le (EnvLe.cons rfl (EnvLe.cons rfl (EnvLe.cons rfl (EnvLe.cons rfl (EnvLe.cons rfl EnvLe.nil))))) (T.pick [10, 4, 5, 6, 7, 0, 1, 2, 3] 11 rfl rfl (Nat.le_add_left _ _) rfl (J5 (r19.1.1, r19.2.1, r19.2.2, r19.1.2.1, r19.1.2.2.1, r19.1.2.2.2.1, r19.1.2.2.2.2.1, r19.1.2.2.2.2.2.1, r19.1.2.2.2.2.2.2, r20.2.1, r20.2.2, r20.1.1, r20.1.2.1, r20.1.2.2.1, r20.1.2.2.2.1, r20.1.2.2.2.2.1, r20.1.2.2.2.2.2) ((x30.1.1, x30.1.2), x30.2, (x31.1.1, x31.1.2), (x31.2.1.1, x31.2.1.2), x31.2.2) hk3))
           ·replace hk3 := inv_negB hb15 hk3
            refine T.seq ?_
            refine T.region ?_
            refine T.bin .list rfl (wants0 rfl) rfl rfl rfl rfl ?_
            refine T.assign .list rfl (wants0 rfl) rfl rfl ?_
            refine T.nil ?_
            refine T.then_normal ?_
            refine T.cond rfl (fun hb16 => ?_) (fun hb16 => ?_)
            ·replace hk3 := inv_posB hb16 hk3
             refine T.seq ?_
             refine T.region ?_
             refine T.move .list rfl (wants0 rfl) rfl rfl ?_
             refine T.pick [3, 4, 5, 6, 0, 1, 2, 7, 8, 9, 10] 11 rfl rfl (Nat.le_add_left _ _) (hs' := Cl x2.1 69 [.int .i64 s4.1, .map (some x2.2.1), .slice x11.1.1 s4.2.2.1.length x11.1.2, .bool s4.2.2.2.1, .int .i64 s4.2.2.2.2.1, .int .i64 s4.2.2.2.2.2.1, .int .u64 s4.2.2.2.2.2.2.1, .int .i64 s4.2.2.2.2.2.2.2.1, .int .i64 s4.2.2.2.2.2.2.2.2.1] :: Mp (Elt.slice E8) x2.2.1 s4.2.1 :: Hb 71 x11.1.1 x11.1.2 x11.2.1 s4.2.2.1 :: Bb 5 x11.2.1 s4.2.2.1 :: Cl b1 35 [.int .i64 (((((l1).getD (s4.2.2.2.2.2.2.2.2.2.2.2.2.2.2.2.2.2 : Int).toNat default)).1)), .int .i64 (((((l1).getD (s4.2.2.2.2.2.2.2.2.2.2.2.2.2.2.2.2.2 : Int).toNat default)).2.1)), .int .i64 (((((l1).getD (s4.2.2.2.2.2.2.2.2.2.2.2.2.2.2.2.2.2 : Int).toNat default)).2.2.1)), .slice x14.2.2.2.1.1 ((((((l1).getD (s4.2.2.2.2.2.2.2.2.2.2.2.2.2.2.2.2.2 : Int).toNat default)).2.2.2.1)).length) x14.2.2.2.1.2, .int .i64 ((((((l1).getD (s4.2.2.2.2.2.2.2.2.2.2.2.2.2.2.2.2.2 : Int).toNat default)).2.2.2.2).1)), .int .u64 ((((((l1).getD (s4.2.2.2.2.2.2.2.2.2.2.2.2.2.2.2.2.2 : Int).toNat default)).2.2.2.2).2.1)), .int .i64 ((((((l1).getD (s4.2.2.2.2.2.2.2.2.2.2.2.2.2.2.2.2.2 : Int).toNat default)).2.2.2.2).2.2.1)), .int .i64 ((((((l1).getD (s4.2.2.2.2.2.2.2.2.2.2.2.2.2.2.2.2.2 : Int).toNat default)).2.2.2.2).2.2.2))] :: Ro E8 x14.2.2.2.1.1 x14.2.2.2.1.2 (((((l1).getD (s4.2.2.2.2.2.2.2.2.2.2.2.2.2.2.2.2.2 : Int).toNat default)).2.2.2.1)) :: Ro (Elt.pair E64 (Elt.pair E64 (Elt.pair E64 (Elt.pair (Elt.slice E8) (Elt.pair E64 (Elt.pair EU64 (Elt.pair E64 E64))))))) A1 c1 l1 :: Cl x3.1 61 [.slice x11.2.2.1.1 s4.2.2.2.2.2.2.2.2.2.1.length x11.2.2.1.2, .slice x11.2.2.2.1.1 s4.2.2.2.2.2.2.2.2.2.2.1.length x11.2.2.2.1.2, .bool s4.2.2.2.2.2.2.2.2.2.2.2.1, .int .i64 s4.2.2.2.2.2.2.2.2.2.2.2.2.1, .int .u64 s4.2.2.2.2.2.2.2.2.2.2.2.2.2.1, .int .i64 s4.2.2.2.2.2.2.2.2.2.2.2.2.2.2.1, .int .i64 s4.2.2.2.2.2.2.2.2.2.2.2.2.2.2.2.1, .int .i64 s4.2.2.2.2.2.2.2.2.2.2.2.2.2.2.2.2.1] :: Bf (Elt.slice E8) 33 x11.2.2.1.1 x11.2.2.1.2 s4.2.2.2.2.2.2.2.2.2.1 :: Hb 77 x11.2.2.2.1.1 x11.2.2.2.1.2 x11.2.2.2.2 s4.2.2.2.2.2.2.2.2.2.2.1 :: Bb 5 x11.2.2.2.2 s4.2.2.2.2.2.2.2.2.2.2.1 :: hs) rfl ?_
             obtain ⟨r21, hg21, hk3⟩ := inv_bind hk3
             refine T.call .list (wants0 rfl) rfl (run_callF (vs := [_]) rfl Try.func13 rfl (by decide) rfl) (fun w hS => disk_Disk_Restart.c hS (o0 := (s4.1, s4.2.2.2.1, s4.2.2.2.2.1, s4.2.2.2.2.2.1, s4.2.2.2.2.2.2.1, s4.2.2.2.2.2.2.2.1, s4.2.2.2.2.2.2.2.2.1)) (q0b := s4.2.1) (q0c := s4.2.2.1)  hg21) (fun x32 => ?_)
             refine T.nil ?_
             refine T.then_normal ?_
             refine T.region ?_
             refine T.move .list rfl (wants0 rfl) rfl rfl ?_
             refine T.nilCheck .list rfl (wants0 rfl) rfl rfl ?_
             refine T.field .list rfl (wants0 rfl) rfl rfl ?_
             refine T.store .list 7 rfl rfl (wants0 rfl) rfl rfl rfl rfl (Nat.le_of_ble_eq_true rfl) rfl (cs' := [.slice x11.2.2.1.1 s4.2.2.2.2.2.2.2.2.2.1.length x11.2.2.1.2, .slice x11.2.2.2.1.1 s4.2.2.2.2.2.2.2.2.2.2.1.length x11.2.2.2.1.2, .bool false, .int .i64 s4.2.2.2.2.2.2.2.2.2.2.2.2.1, .int .u64 s4.2.2.2.2.2.2.2.2.2.2.2.2.2.1, .int .i64 s4.2.2.2.2.2.2.2.2.2.2.2.2.2.2.1, .int .i64 s4.2.2.2.2.2.2.2.2.2.2.2.2.2.2.2.1, .int .i64 s4.2.2.2.2.2.2.2.2.2.2.2.2.2.2.2.2.1]) rfl rfl ?_
             refine T.nil ?_
             refine T.in_normal ?_
             refine T.then_normal ?_
             exact T.le (EnvLe.cons rfl (EnvLe.cons rfl (EnvLe.cons rfl (EnvLe.cons rfl (EnvLe.cons rfl EnvLe.nil))))) (T.pick [6, 0, 1, 2, 3, 7, 8, 9, 10] 11 rfl rfl (Nat.le_add_left _ _) rfl (J5 (r21.1, s4.2.1, s4.2.2.1, r21.2.1, r21.2.2.1, r21.2.2.2.1, r21.2.2.2.2.1, r21.2.2.2.2.2.1, r21.2.2.2.2.2.2, s4.2.2.2.2.2.2.2.2.2.1, s4.2.2.2.2.2.2.2.2.2.2.1, false, s4.2.2.2.2.2.2.2.2.2.2.2.2.1, s4.2.2.2.2.2.2.2.2.2.2.2.2.2.1, s4.2.2.2.2.2.2.2.2.2.2.2.2.2.2.1, s4.2.2.2.2.2.2.2.2.2.2.2.2.2.2.2.1, s4.2.2.2.2.2.2.2.2.2.2.2.2.2.2.2.2.1) ((x11.1.1, x11.1.2), x11.2.1, (x11.2.2.1.1, x11.2.2.1.2), (x11.2.2.2.1.1, x11.2.2.2.1.2), x11.2.2.2.2) hk3))
            ·replace hk3 := inv_negB hb16 hk3
             refine T.seq ?_
             refine T.region ?_
             refine T.bin .list rfl (wants0 rfl) rfl rfl rfl rfl ?_
             refine T.assign .list rfl (wants0 rfl) rfl rfl ?_
             refine T.nil ?_
             refine T.then_normal ?_
             refine T.cond rfl (fun hb17 => ?_) (fun hb17 => ?_)
             ·replace hk3 := inv_posB hb17 hk3
              refine T.seq ?_
              refine T.dStart mixed ?_
              refine T.move (.dPure (i := 0) rfl (by kernel_rfl) (fun d _ _ _ _ h => by cases d <;> exact h)) rfl (wants0 rfl) rfl rfl ?_
              refine T.field (.dPure (i := 1) rfl (by kernel_rfl) (fun d _ _ _ _ h => by cases d <;> exact h)) rfl (wants0 rfl) rfl rfl ?_
              refine T.field (.dPure (i := 3) rfl (by kernel_rfl) (fun d _ _ _ _ h => by cases d <;> exact h)) rfl (wants0 rfl) rfl rfl ?_
              refine T.move (.dPure (i := 6) rfl (by kernel_rfl) (fun d _ _ _ _ h => by cases d <;> exact h)) rfl (wants0 rfl) rfl rfl ?_
              refine T.field (.dPure (i := 7) rfl (by kernel_rfl) (fun d _ _ _ _ h => by cases d <;> exact h)) rfl (wants0 rfl) rfl rfl ?_
              refine T.field (.dPure (i := 9) rfl (by kernel_rfl) (fun d _ _ _ _ h => by cases d <;> exact h)) rfl (wants0 rfl) rfl rfl ?_
              refine T.dAdd 13 (fun w => w.heap[b1]? = some (.cells [.int .i64 (((((l1).getD (s4.2.2.2.2.2.2.2.2.2.2.2.2.2.2.2.2.2 : Int).toNat default)).1)), .int .i64 (((((l1).getD (s4.2.2.2.2.2.2.2.2.2.2.2.2.2.2.2.2.2 : Int).toNat default)).2.1)), .int .i64 (((((l1).getD (s4.2.2.2.2.2.2.2.2.2.2.2.2.2.2.2.2.2 : Int).toNat default)).2.2.1)), .slice x14.2.2.2.1.1 ((((((l1).getD (s4.2.2.2.2.2.2.2.2.2.2.2.2.2.2.2.2.2 : Int).toNat default)).2.2.2.1)).length) x14.2.2.2.1.2, .int .i64 ((((((l1).getD (s4.2.2.2.2.2.2.2.2.2.2.2.2.2.2.2.2.2 : Int).toNat default)).2.2.2.2).1)), .int .u64 ((((((l1).getD (s4.2.2.2.2.2.2.2.2.2.2.2.2.2.2.2.2.2 : Int).toNat default)).2.2.2.2).2.1)), .int .i64 ((((((l1).getD (s4.2.2.2.2.2.2.2.2.2.2.2.2.2.2.2.2.2 : Int).toNat default)).2.2.2.2).2.2.1)), .int .i64 ((((((l1).getD (s4.2.2.2.2.2.2.2.2.2.2.2.2.2.2.2.2.2 : Int).toNat default)).2.2.2.2).2.2.2))].toArray 35 (0, 0))) (Cl.stays 0 rfl) ?_
              refine T.valS 0 (i := 2) (.int .i64 (((((l1).getD (s4.2.2.2.2.2.2.2.2.2.2.2.2.2.2.2.2.2 : Int).toNat default)).2.1))) rfl rfl (by kernel_rfl) (by kernel_rfl) (fun d _ _ _ _ h => by cases d <;> exact h) (wants0 rfl) rfl (run_ldCl rfl rfl rfl) ?_
              refine T.valS 0 (i := 4) (.int .i64 (((((l1).getD (s4.2.2.2.2.2.2.2.2.2.2.2.2.2.2.2.2.2 : Int).toNat default)).2.2.1))) rfl rfl (by kernel_rfl) (by kernel_rfl) (fun d _ _ _ _ h => by cases d <;> exact h) (wants0 rfl) rfl (run_ldCl rfl rfl rfl) ?_
              refine T.valS 0 (i := 8) (.int .i64 (((((l1).getD (s4.2.2.2.2.2.2.2.2.2.2.2.2.2.2.2.2.2 : Int).toNat default)).2.1))) rfl rfl (by kernel_rfl) (by kernel_rfl) (fun d _ _ _ _ h => by cases d <;> exact h) (wants0 rfl) rfl (run_ldCl rfl rfl rfl) ?_
              refine T.valS 0 (i := 10) (.int .i64 (((((l1).getD (s4.2.2.2.2.2.2.2.2.2.2.2.2.2.2.2.2.2 : Int).toNat default)).2.2.1))) rfl rfl (by kernel_rfl) (by kernel_rfl) (fun d _ _ _ _ h => by cases d <;> exact h) (wants0 rfl) rfl (run_ldCl rfl rfl rfl) ?_
              obtain ⟨r22, hg22, hk3⟩ := inv_bind hk3
              refine T.pick [3, 4, 5, 6, 0, 1, 2, 7, 8, 9, 10] 11 rfl rfl (Nat.le_add_left _ _) (hs' := Cl x2.1 69 [.int .i64 s4.1, .map (some x2.2.1), .slice x11.1.1 s4.2.2.1.length x11.1.2, .bool s4.2.2.2.1, .int .i64 s4.2.2.2.2.1, .int .i64 s4.2.2.2.2.2.1, .int .u64 s4.2.2.2.2.2.2.1, .int .i64 s4.2.2.2.2.2.2.2.1, .int .i64 s4.2.2.2.2.2.2.2.2.1] :: Mp (Elt.slice E8) x2.2.1 s4.2.1 :: Hb 71 x11.1.1 x11.1.2 x11.2.1 s4.2.2.1 :: Bb 5 x11.2.1 s4.2.2.1 :: Cl b1 35 [.int .i64 (((((l1).getD (s4.2.2.2.2.2.2.2.2.2.2.2.2.2.2.2.2.2 : Int).toNat default)).1)), .int .i64 (((((l1).getD (s4.2.2.2.2.2.2.2.2.2.2.2.2.2.2.2.2.2 : Int).toNat default)).2.1)), .int .i64 (((((l1).getD (s4.2.2.2.2.2.2.2.2.2.2.2.2.2.2.2.2.2 : Int).toNat default)).2.2.1)), .slice x14.2.2.2.1.1 ((((((l1).getD (s4.2.2.2.2.2.2.2.2.2.2.2.2.2.2.2.2.2 : Int).toNat default)).2.2.2.1)).length) x14.2.2.2.1.2, .int .i64 ((((((l1).getD (s4.2.2.2.2.2.2.2.2.2.2.2.2.2.2.2.2.2 : Int).toNat default)).2.2.2.2).1)), .int .u64 ((((((l1).getD (s4.2.2.2.2.2.2.2.2.2.2.2.2.2.2.2.2.2 : Int).toNat default)).2.2.2.2).2.1)), .int .i64 ((((((l1).getD (s4.2.2.2.2.2.2.2.2.2.2.2.2.2.2.2.2.2 : Int).toNat default)).2.2.2.2).2.2.1)), .int .i64 ((((((l1).getD (s4.2.2.2.2.2.2.2.2.2.2.2.2.2.2.2.2.2 : Int).toNat default)).2.2.2.2).2.2.2))] :: Ro E8 x14.2.2.2.1.1 x14.2.2.2.1.2 (((((l1).getD (s4.2.2.2.2.2.2.2.2.2.2.2.2.2.2.2.2.2 : Int).toNat default)).2.2.2.1)) :: Ro (Elt.pair E64 (Elt.pair E64 (Elt.pair E64 (Elt.pair (Elt.slice E8) (Elt.pair E64 (Elt.pair EU64 (Elt.pair E64 E64))))))) A1 c1 l1 :: Cl x3.1 61 [.slice x11.2.2.1.1 s4.2.2.2.2.2.2.2.2.2.1.length x11.2.2.1.2, .slice x11.2.2.2.1.1 s4.2.2.2.2.2.2.2.2.2.2.1.length x11.2.2.2.1.2, .bool s4.2.2.2.2.2.2.2.2.2.2.2.1, .int .i64 s4.2.2.2.2.2.2.2.2.2.2.2.2.1, .int .u64 s4.2.2.2.2.2.2.2.2.2.2.2.2.2.1, .int .i64 s4.2.2.2.2.2.2.2.2.2.2.2.2.2.2.1, .int .i64 s4.2.2.2.2.2.2.2.2.2.2.2.2.2.2.2.1, .int .i64 s4.2.2.2.2.2.2.2.2.2.2.2.2.2.2.2.2.1] :: Bf (Elt.slice E8) 33 x11.2.2.1.1 x11.2.2.1.2 s4.2.2.2.2.2.2.2.2.2.1 :: Hb 77 x11.2.2.2.1.1 x11.2.2.2.1.2 x11.2.2.2.2 s4.2.2.2.2.2.2.2.2.2.2.1 :: Bb 5 x11.2.2.2.2 s4.2.2.2.2.2.2.2.2.2.2.1 :: hs) rfl ?_
              refine T.dOnly (i := 5) (by kernel_rfl) ?_
              refine T.call (.dOne rfl (by kernel_rfl)) (wants0 rfl) rfl (run_callF (vs := [_, _, _]) rfl Try.func23 rfl (by decide) rfl) (fun w hS => disk_Disk_Flip.c hS (o0 := (s4.1, s4.2.2.2.1, s4.2.2.2.2.1, s4.2.2.2.2.2.1, s4.2.2.2.2.2.2.1, s4.2.2.2.2.2.2.2.1, s4.2.2.2.2.2.2.2.2.1)) (q0b := s4.2.1) (q0c := s4.2.2.1)  hg22) (fun x33 => ?_)
              refine T.dNext (phi_cons (.inr (Cl.stays 4 rfl)) phi_nil) ?_
              obtain ⟨r23, hg23, hk3⟩ := inv_bind hk3
              refine T.pick [7, 8, 9, 10, 0, 1, 2, 3, 4, 5, 6] 11 rfl rfl (Nat.le_add_left _ _) (hs' := Cl x3.1 61 [.slice x11.2.2.1.1 s4.2.2.2.2.2.2.2.2.2.1.length x11.2.2.1.2, .slice x11.2.2.2.1.1 s4.2.2.2.2.2.2.2.2.2.2.1.length x11.2.2.2.1.2, .bool s4.2.2.2.2.2.2.2.2.2.2.2.1, .int .i64 s4.2.2.2.2.2.2.2.2.2.2.2.2.1, .int .u64 s4.2.2.2.2.2.2.2.2.2.2.2.2.2.1, .int .i64 s4.2.2.2.2.2.2.2.2.2.2.2.2.2.2.1, .int .i64 s4.2.2.2.2.2.2.2.2.2.2.2.2.2.2.2.1, .int .i64 s4.2.2.2.2.2.2.2.2.2.2.2.2.2.2.2.2.1] :: Bf (Elt.slice E8) 33 x11.2.2.1.1 x11.2.2.1.2 s4.2.2.2.2.2.2.2.2.2.1 :: Hb 77 x11.2.2.2.1.1 x11.2.2.2.1.2 x11.2.2.2.2 s4.2.2.2.2.2.2.2.2.2.2.1 :: Bb 5 x11.2.2.2.2 s4.2.2.2.2.2.2.2.2.2.2.1 :: Cl x2.1 69 [.int .i64 s4.1, .map (some x2.2.1), .slice x33.1.1 r22.2.2.length x33.1.2, .bool s4.2.2.2.1, .int .i64 s4.2.2.2.2.1, .int .i64 s4.2.2.2.2.2.1, .int .u64 s4.2.2.2.2.2.2.1, .int .i64 s4.2.2.2.2.2.2.2.1, .int .i64 s4.2.2.2.2.2.2.2.2.1] :: Mp (Elt.slice E8) x2.2.1 r22.2.1 :: Hb 71 x33.1.1 x33.1.2 x33.2 r22.2.2 :: Bb 5 x33.2 r22.2.2 :: Cl b1 35 [.int .i64 (((((l1).getD (s4.2.2.2.2.2.2.2.2.2.2.2.2.2.2.2.2.2 : Int).toNat default)).1)), .int .i64 (((((l1).getD (s4.2.2.2.2.2.2.2.2.2.2.2.2.2.2.2.2.2 : Int).toNat default)).2.1)), .int .i64 (((((l1).getD (s4.2.2.2.2.2.2.2.2.2.2.2.2.2.2.2.2.2 : Int).toNat default)).2.2.1)), .slice x14.2.2.2.1.1 ((((((l1).getD (s4.2.2.2.2.2.2.2.2.2.2.2.2.2.2.2.2.2 : Int).toNat default)).2.2.2.1)).length) x14.2.2.2.1.2, .int .i64 ((((((l1).getD (s4.2.2.2.2.2.2.2.2.2.2.2.2.2.2.2.2.2 : Int).toNat default)).2.2.2.2).1)), .int .u64 ((((((l1).getD (s4.2.2.2.2.2.2.2.2.2.2.2.2.2.2.2.2.2 : Int).toNat default)).2.2.2.2).2.1)), .int .i64 ((((((l1).getD (s4.2.2.2.2.2.2.2.2.2.2.2.2.2.2.2.2.2 : Int).toNat default)).2.2.2.2).2.2.1)), .int .i64 ((((((l1).getD (s4.2.2.2.2.2.2.2.2.2.2.2.2.2.2.2.2.2 : Int).toNat default)).2.2.2.2).2.2.2))] :: Ro E8 x14.2.2.2.1.1 x14.2.2.2.1.2 (((((l1).getD (s4.2.2.2.2.2.2.2.2.2.2.2.2.2.2.2.2.2 : Int).toNat default)).2.2.2.1)) :: Ro (Elt.pair E64 (Elt.pair E64 (Elt.pair E64 (Elt.pair (Elt.slice E8) (Elt.pair E64 (Elt.pair EU64 (Elt.pair E64 E64))))))) A1 c1 l1 :: hs) rfl ?_
              refine T.dOnly (i := 11) (by kernel_rfl) ?_
              refine T.call (.dOne rfl (by kernel_rfl)) (wants0 rfl) rfl (run_callF (vs := [_, _, _]) rfl Try.func29 rfl (by decide) rfl) (fun w hS => ref3_Disk_Flip.c hS (o0 := (s4.2.2.2.2.2.2.2.2.2.2.2.1, s4.2.2.2.2.2.2.2.2.2.2.2.2.1, s4.2.2.2.2.2.2.2.2.2.2.2.2.2.1, s4.2.2.2.2.2.2.2.2.2.2.2.2.2.2.1, s4.2.2.2.2.2.2.2.2.2.2.2.2.2.2.2.1, s4.2.2.2.2.2.2.2.2.2.2.2.2.2.2.2.2.1)) (q0a := s4.2.2.2.2.2.2.2.2.2.1) (q0b := s4.2.2.2.2.2.2.2.2.2.2.1)  hg23) (fun x34 => ?_)
              refine T.dNext (phi_cons (.inr (Cl.stays 8 rfl)) phi_nil) ?_
              refine T.bin (.dPure (i := 12) rfl (by kernel_rfl) (fun d _ _ _ _ h => by cases d <;> exact h)) rfl (wants0 rfl) rfl rfl rfl rfl ?_
              refine T.dDone (by kernel_rfl) ?_
              refine T.then_normal ?_
              refine T.cond rfl (fun hb18 => ?_) (fun hb18 => ?_)
              ·replace hk3 := inv_posB hb18 hk3
               refine T.seq ?_
               refine T.region ?_
               refine T.assign .list rfl (wants0 rfl) rfl rfl ?_
               refine T.nil ?_
               refine T.then_normal ?_
               refine T.ret ?_
               refine T.in_ret ?_
               refine T.then_ret ?_
               refine T.in_ret ?_
               refine T.then_ret ?_
               refine T.then_ret ?_
               obtain rfl := inv_some hk3
               obtain rfl := hx2 _ rfl
               refine T.in_ret ?_
               refine T.then_ret ?_
               obtain rfl := inv_some hr
               refine T.pick [] 11 rfl rfl (Nat.le_add_left _ _) rfl ?_
               refine T.ret1 rfl rfl (fun w hS => ⟨(), rfl, hS⟩)
              ·replace hk3 := inv_negB hb18 hk3
               refine T.skip ?_
               refine T.in_normal ?_
               refine T.then_normal ?_
               exact T.le (EnvLe.cons rfl (EnvLe.cons rfl (EnvLe.cons rfl (EnvLe.cons rfl (EnvLe.cons rfl EnvLe.nil))))) (T.pick [10, 4, 5, 6, 7, 0, 1, 2, 3] 11 rfl rfl (Nat.le_add_left _ _) rfl (J5 (s4.1, r22.2.1, r22.2.2, s4.2.2.2.1, s4.2.2.2.2.1, s4.2.2.2.2.2.1, s4.2.2.2.2.2.2.1, s4.2.2.2.2.2.2.2.1, s4.2.2.2.2.2.2.2.2.1, r23.2.1, r23.2.2, s4.2.2.2.2.2.2.2.2.2.2.2.1, s4.2.2.2.2.2.2.2.2.2.2.2.2.1, s4.2.2.2.2.2.2.2.2.2.2.2.2.2.1, s4.2.2.2.2.2.2.2.2.2.2.2.2.2.2.1, s4.2.2.2.2.2.2.2.2.2.2.2.2.2.2.2.1, s4.2.2.2.2.2.2.2.2.2.2.2.2.2.2.2.2.1) ((x33.1.1, x33.1.2), x33.2, (x34.1.1, x34.1.2), (x34.2.1.1, x34.2.1.2), x34.2.2) hk3))
             ·replace hk3 := inv_negB hb17 hk3
              refine T.seq ?_
              refine T.region ?_
              refine T.move .list rfl (wants0 rfl) rfl rfl ?_
              refine T.field .list rfl (wants0 rfl) rfl rfl ?_
              refine T.load .list 0 rfl rfl (wants0 rfl) rfl rfl rfl ?_
              refine T.pick [3, 4, 5, 6, 0, 1, 2, 7, 8, 9, 10] 11 rfl rfl (Nat.le_add_left _ _) (hs' := Cl x2.1 69 [.int .i64 s4.1, .map (some x2.2.1), .slice x11.1.1 s4.2.2.1.length x11.1.2, .bool s4.2.2.2.1, .int .i64 s4.2.2.2.2.1, .int .i64 s4.2.2.2.2.2.1, .int .u64 s4.2.2.2.2.2.2.1, .int .i64 s4.2.2.2.2.2.2.2.1, .int .i64 s4.2.2.2.2.2.2.2.2.1] :: Mp (Elt.slice E8) x2.2.1 s4.2.1 :: Hb 71 x11.1.1 x11.1.2 x11.2.1 s4.2.2.1 :: Bb 5 x11.2.1 s4.2.2.1 :: Cl b1 35 [.int .i64 (((((l1).getD (s4.2.2.2.2.2.2.2.2.2.2.2.2.2.2.2.2.2 : Int).toNat default)).1)), .int .i64 (((((l1).getD (s4.2.2.2.2.2.2.2.2.2.2.2.2.2.2.2.2.2 : Int).toNat default)).2.1)), .int .i64 (((((l1).getD (s4.2.2.2.2.2.2.2.2.2.2.2.2.2.2.2.2.2 : Int).toNat default)).2.2.1)), .slice x14.2.2.2.1.1 ((((((l1).getD (s4.2.2.2.2.2.2.2.2.2.2.2.2.2.2.2.2.2 : Int).toNat default)).2.2.2.1)).length) x14.2.2.2.1.2, .int .i64 ((((((l1).getD (s4.2.2.2.2.2.2.2.2.2.2.2.2.2.2.2.2.2 : Int).toNat default)).2.2.2.2).1)), .int .u64 ((((((l1).getD (s4.2.2.2.2.2.2.2.2.2.2.2.2.2.2.2.2.2 : Int).toNat default)).2.2.2.2).2.1)), .int .i64 ((((((l1).getD (s4.2.2.2.2.2.2.2.2.2.2.2.2.2.2.2.2.2 : Int).toNat default)).2.2.2.2).2.2.1)), .int .i64 ((((((l1).getD (s4.2.2.2.2.2.2.2.2.2.2.2.2.2.2.2.2.2 : Int).toNat default)).2.2.2.2).2.2.2))] :: Ro E8 x14.2.2.2.1.1 x14.2.2.2.1.2 (((((l1).getD (s4.2.2.2.2.2.2.2.2.2.2.2.2.2.2.2.2.2 : Int).toNat default)).2.2.2.1)) :: Ro (Elt.pair E64 (Elt.pair E64 (Elt.pair E64 (Elt.pair (Elt.slice E8) (Elt.pair E64 (Elt.pair EU64 (Elt.pair E64 E64))))))) A1 c1 l1 :: Cl x3.1 61 [.slice x11.2.2.1.1 s4.2.2.2.2.2.2.2.2.2.1.length x11.2.2.1.2, .slice x11.2.2.2.1.1 s4.2.2.2.2.2.2.2.2.2.2.1.length x11.2.2.2.1.2, .bool s4.2.2.2.2.2.2.2.2.2.2.2.1, .int .i64 s4.2.2.2.2.2.2.2.2.2.2.2.2.1, .int .u64 s4.2.2.2.2.2.2.2.2.2.2.2.2.2.1, .int .i64 s4.2.2.2.2.2.2.2.2.2.2.2.2.2.2.1, .int .i64 s4.2.2.2.2.2.2.2.2.2.2.2.2.2.2.2.1, .int .i64 s4.2.2.2.2.2.2.2.2.2.2.2.2.2.2.2.2.1] :: Bf (Elt.slice E8) 33 x11.2.2.1.1 x11.2.2.1.2 s4.2.2.2.2.2.2.2.2.2.1 :: Hb 77 x11.2.2.2.1.1 x11.2.2.2.1.2 x11.2.2.2.2 s4.2.2.2.2.2.2.2.2.2.2.1 :: Bb 5 x11.2.2.2.2 s4.2.2.2.2.2.2.2.2.2.2.1 :: hs) rfl ?_
              obtain ⟨r24, hg24, hk3⟩ := inv_bind hk3
              refine T.call .list (wants0 rfl) rfl (run_callF (vs := [_, _]) rfl Try.func14 rfl (by decide) rfl) (fun w hS => disk_Disk_Read.c hS (o0 := (s4.1, s4.2.2.2.1, s4.2.2.2.2.1, s4.2.2.2.2.2.1, s4.2.2.2.2.2.2.1, s4.2.2.2.2.2.2.2.1, s4.2.2.2.2.2.2.2.2.1)) (q0b := s4.2.1) (q0c := s4.2.2.1)  hg24) (fun x35 => ?_)
              refine T.move .list rfl (wants0 rfl) rfl rfl ?_
              refine T.extract .list rfl (wants0 rfl) rfl rfl rfl ?_
              refine T.extract .list rfl (wants0 rfl) rfl rfl rfl ?_
              refine T.assign .list rfl (wants0 rfl) rfl rfl ?_
              refine T.assign .list rfl (wants0 rfl) rfl rfl ?_
              refine T.nil ?_
              refine T.then_normal ?_
              refine T.seq ?_
              refine T.region ?_
              refine T.move .list rfl (wants0 rfl) rfl rfl ?_
              refine T.field .list rfl (wants0 rfl) rfl rfl ?_
              refine T.load .list 5 rfl rfl (wants0 rfl) rfl rfl rfl ?_
              refine T.pick [8, 9, 10, 11, 0, 1, 2, 3, 4, 5, 6, 7] 12 rfl rfl (Nat.le_add_left _ _) (hs' := Cl x3.1 61 [.slice x11.2.2.1.1 s4.2.2.2.2.2.2.2.2.2.1.length x11.2.2.1.2, .slice x11.2.2.2.1.1 s4.2.2.2.2.2.2.2.2.2.2.1.length x11.2.2.2.1.2, .bool s4.2.2.2.2.2.2.2.2.2.2.2.1, .int .i64 s4.2.2.2.2.2.2.2.2.2.2.2.2.1, .int .u64 s4.2.2.2.2.2.2.2.2.2.2.2.2.2.1, .int .i64 s4.2.2.2.2.2.2.2.2.2.2.2.2.2.2.1, .int .i64 s4.2.2.2.2.2.2.2.2.2.2.2.2.2.2.2.1, .int .i64 s4.2.2.2.2.2.2.2.2.2.2.2.2.2.2.2.2.1] :: Bf (Elt.slice E8) 33 x11.2.2.1.1 x11.2.2.1.2 s4.2.2.2.2.2.2.2.2.2.1 :: Hb 77 x11.2.2.2.1.1 x11.2.2.2.1.2 x11.2.2.2.2 s4.2.2.2.2.2.2.2.2.2.2.1 :: Bb 5 x11.2.2.2.2 s4.2.2.2.2.2.2.2.2.2.2.1 :: Bf E8 5 x35.1 x35.2 r24.1 :: Cl x2.1 69 [.int .i64 s4.1, .map (some x2.2.1), .slice x11.1.1 s4.2.2.1.length x11.1.2, .bool s4.2.2.2.1, .int .i64 s4.2.2.2.2.1, .int .i64 s4.2.2.2.2.2.1, .int .u64 s4.2.2.2.2.2.2.1, .int .i64 s4.2.2.2.2.2.2.2.1, .int .i64 s4.2.2.2.2.2.2.2.2.1] :: Mp (Elt.slice E8) x2.2.1 s4.2.1 :: Hb 71 x11.1.1 x11.1.2 x11.2.1 s4.2.2.1 :: Bb 5 x11.2.1 s4.2.2.1 :: Cl b1 35 [.int .i64 (((((l1).getD (s4.2.2.2.2.2.2.2.2.2.2.2.2.2.2.2.2.2 : Int).toNat default)).1)), .int .i64 (((((l1).getD (s4.2.2.2.2.2.2.2.2.2.2.2.2.2.2.2.2.2 : Int).toNat default)).2.1)), .int .i64 (((((l1).getD (s4.2.2.2.2.2.2.2.2.2.2.2.2.2.2.2.2.2 : Int).toNat default)).2.2.1)), .slice x14.2.2.2.1.1 ((((((l1).getD (s4.2.2.2.2.2.2.2.2.2.2.2.2.2.2.2.2.2 : Int).toNat default)).2.2.2.1)).length) x14.2.2.2.1.2, .int .i64 ((((((l1).getD (s4.2.2.2.2.2.2.2.2.2.2.2.2.2.2.2.2.2 : Int).toNat default)).2.2.2.2).1)), .int .u64 ((((((l1).getD (s4.2.2.2.2.2.2.2.2.2.2.2.2.2.2.2.2.2 : Int).toNat default)).2.2.2.2).2.1)), .int .i64 ((((((l1).getD (s4.2.2.2.2.2.2.2.2.2.2.2.2.2.2.2.2.2 : Int).toNat default)).2.2.2.2).2.2.1)), .int .i64 ((((((l1).getD (s4.2.2.2.2.2.2.2.2.2.2.2.2.2.2.2.2.2 : Int).toNat default)).2.2.2.2).2.2.2))] :: Ro E8 x14.2.2.2.1.1 x14.2.2.2.1.2 (((((l1).getD (s4.2.2.2.2.2.2.2.2.2.2.2.2.2.2.2.2.2 : Int).toNat default)).2.2.2.1)) :: Ro (Elt.pair E64 (Elt.pair E64 (Elt.pair E64 (Elt.pair (Elt.slice E8) (Elt.pair E64 (Elt.pair EU64 (Elt.pair E64 E64))))))) A1 c1 l1 :: hs) rfl ?_
              obtain ⟨r25, hg25, hk3⟩ := inv_bind hk3
              refine T.call .list (wants0 rfl) rfl (run_callF (vs := [_, _]) rfl Try.func30 rfl (by decide) rfl) (fun w hS => ref3_Disk_Read.c hS (o0 := (s4.2.2.2.2.2.2.2.2.2.2.2.1, s4.2.2.2.2.2.2.2.2.2.2.2.2.1, s4.2.2.2.2.2.2.2.2.2.2.2.2.2.1, s4.2.2.2.2.2.2.2.2.2.2.2.2.2.2.1, s4.2.2.2.2.2.2.2.2.2.2.2.2.2.2.2.1, s4.2.2.2.2.2.2.2.2.2.2.2.2.2.2.2.2.1)) (q0a := s4.2.2.2.2.2.2.2.2.2.1) (q0b := s4.2.2.2.2.2.2.2.2.2.2.1)  hg25) (fun x36 => ?_)
              refine T.move .list rfl (wants0 rfl) rfl rfl ?_
              refine T.extract .list rfl (wants0 rfl) rfl rfl rfl ?_
              refine T.extract .list rfl (wants0 rfl) rfl rfl rfl ?_
              refine T.assign .list rfl (wants0 rfl) rfl rfl ?_
              refine T.assign .list rfl (wants0 rfl) rfl rfl ?_
              refine T.nil ?_
              refine T.then_normal ?_
              refine T.seq ?_
              refine T.seqJ (fun (s10 : Bool) (x37 : Unit) => [(0, .int .i64 (IntKind.i64.wrap ((bitsOf .and .i64 a0 7) + 1))), (1, .slice A1 l1.length c1), (5, .pointer (some ⟨x2.1, 0, none⟩)), (7, .pointer (some ⟨x3.1, 0, none⟩)), (8, .int .i64 s4.2.2.2.2.2.2.2.2.2.2.2.2.2.2.2.2.2), (12, .slice x35.1 r24.1.length x35.2), (77, .bool s10)]) (fun s10 x37 => Ro (Elt.pair E64 (Elt.pair E64 (Elt.pair E64 (Elt.pair (Elt.slice E8) (Elt.pair E64 (Elt.pair EU64 (Elt.pair E64 E64))))))) A1 c1 l1 :: Cl x2.1 69 [.int .i64 s4.1, .map (some x2.2.1), .slice x11.1.1 s4.2.2.1.length x11.1.2, .bool s4.2.2.2.1, .int .i64 s4.2.2.2.2.1, .int .i64 s4.2.2.2.2.2.1, .int .u64 s4.2.2.2.2.2.2.1, .int .i64 s4.2.2.2.2.2.2.2.1, .int .i64 s4.2.2.2.2.2.2.2.2.1] :: Mp (Elt.slice E8) x2.2.1 s4.2.1 :: Hb 71 x11.1.1 x11.1.2 x11.2.1 s4.2.2.1 :: Bb 5 x11.2.1 s4.2.2.1 :: Cl x3.1 61 [.slice x11.2.2.1.1 s4.2.2.2.2.2.2.2.2.2.1.length x11.2.2.1.2, .slice x11.2.2.2.1.1 s4.2.2.2.2.2.2.2.2.2.2.1.length x11.2.2.2.1.2, .bool s4.2.2.2.2.2.2.2.2.2.2.2.1, .int .i64 s4.2.2.2.2.2.2.2.2.2.2.2.2.1, .int .u64 s4.2.2.2.2.2.2.2.2.2.2.2.2.2.1, .int .i64 s4.2.2.2.2.2.2.2.2.2.2.2.2.2.2.1, .int .i64 s4.2.2.2.2.2.2.2.2.2.2.2.2.2.2.2.1, .int .i64 s4.2.2.2.2.2.2.2.2.2.2.2.2.2.2.2.2.1] :: Bf (Elt.slice E8) 33 x11.2.2.1.1 x11.2.2.1.2 s4.2.2.2.2.2.2.2.2.2.1 :: Hb 77 x11.2.2.2.1.1 x11.2.2.2.1.2 x11.2.2.2.2 s4.2.2.2.2.2.2.2.2.2.2.1 :: Bb 5 x11.2.2.2.2 s4.2.2.2.2.2.2.2.2.2.2.1 :: Bf E8 5 x35.1 x35.2 r24.1 :: hs) (fun s10 => law3_DiskPlays.k7 s4 r24 a0 s10 = some o2) (fun s10 x37 hk7 => ?_) (fun J7 => ?_)
              ·unfold law3_DiskPlays.k7 at hk7
               refine T.cond rfl (fun hb19 => ?_) (fun hb19 => ?_)
               ·replace hk7 := inv_posB hb19 hk7
                refine T.seq ?_
                refine T.region ?_
                refine T.assign .list rfl (wants0 rfl) rfl rfl ?_
                refine T.nil ?_
                refine T.then_normal ?_
                refine T.ret ?_
                refine T.then_ret ?_
                refine T.in_ret ?_
                refine T.then_ret ?_
                refine T.in_ret ?_
                refine T.then_ret ?_
                refine T.then_ret ?_
                obtain rfl := inv_some hk7
                obtain rfl := hx2 _ rfl
                refine T.in_ret ?_
                refine T.then_ret ?_
                obtain rfl := inv_some hr
                refine T.pick [] 10 rfl rfl (Nat.le_add_left _ _) rfl ?_
                refine T.ret1 rfl rfl (fun w hS => ⟨(), rfl, hS⟩)
               ·replace hk7 := inv_negB hb19 hk7
                refine T.skip ?_
                refine T.then_normal ?_
                refine T.seq ?_
                refine T.region ?_
                refine T.assign .list rfl (wants0 rfl) rfl rfl ?_
                refine T.nil ?_
                refine T.then_normal ?_
                refine T.block ?_
                obtain ⟨e4, hl4, hk7⟩ := inv_bind hk7
                refine T.le (EnvLe.cons rfl (EnvLe.cons rfl (EnvLe.cons rfl (EnvLe.cons rfl (EnvLe.cons rfl (EnvLe.cons rfl (EnvLe.cons rfl EnvLe.nil))))))) (T.pick [0, 1, 2, 3, 4, 5, 6, 7, 8, 9] 10 rfl rfl (Nat.le_add_left _ _) rfl (T.loop (s0 := (r24.1, 0)) (env := fun s11 x38 => [(0, .int .i64 (IntKind.i64.wrap ((bitsOf .and .i64 a0 7) + 1))), (1, .slice A1 l1.length c1), (5, .pointer (some ⟨x2.1, 0, none⟩)), (7, .pointer (some ⟨x3.1, 0, none⟩)), (8, .int .i64 s4.2.2.2.2.2.2.2.2.2.2.2.2.2.2.2.2.2), (12, .slice x38.1 s11.1.length x38.2), (16, .int .i64 s11.2)]) (hs := fun (s11 : List UInt8 × Int) (x38 : (Option Addr × Nat)) => Ro (Elt.pair E64 (Elt.pair E64 (Elt.pair E64 (Elt.pair (Elt.slice E8) (Elt.pair E64 (Elt.pair EU64 (Elt.pair E64 E64))))))) A1 c1 l1 :: Cl x2.1 69 [.int .i64 s4.1, .map (some x2.2.1), .slice x11.1.1 s4.2.2.1.length x11.1.2, .bool s4.2.2.2.1, .int .i64 s4.2.2.2.2.1, .int .i64 s4.2.2.2.2.2.1, .int .u64 s4.2.2.2.2.2.2.1, .int .i64 s4.2.2.2.2.2.2.2.1, .int .i64 s4.2.2.2.2.2.2.2.2.1] :: Mp (Elt.slice E8) x2.2.1 s4.2.1 :: Hb 71 x11.1.1 x11.1.2 x11.2.1 s4.2.2.1 :: Bb 5 x11.2.1 s4.2.2.1 :: Cl x3.1 61 [.slice x11.2.2.1.1 s4.2.2.2.2.2.2.2.2.2.1.length x11.2.2.1.2, .slice x11.2.2.2.1.1 s4.2.2.2.2.2.2.2.2.2.2.1.length x11.2.2.2.1.2, .bool s4.2.2.2.2.2.2.2.2.2.2.2.1, .int .i64 s4.2.2.2.2.2.2.2.2.2.2.2.2.1, .int .u64 s4.2.2.2.2.2.2.2.2.2.2.2.2.2.1, .int .i64 s4.2.2.2.2.2.2.2.2.2.2.2.2.2.2.1, .int .i64 s4.2.2.2.2.2.2.2.2.2.2.2.2.2.2.2.1, .int .i64 s4.2.2.2.2.2.2.2.2.2.2.2.2.2.2.2.2.1] :: Bf (Elt.slice E8) 33 x11.2.2.1.1 x11.2.2.1.2 s4.2.2.2.2.2.2.2.2.2.1 :: Hb 77 x11.2.2.2.1.1 x11.2.2.2.1.2 x11.2.2.2.2 s4.2.2.2.2.2.2.2.2.2.2.1 :: Bb 5 x11.2.2.2.2 s4.2.2.2.2.2.2.2.2.2.2.1 :: Bf E8 5 x38.1 x38.2 s11.1 :: hs) hl4 (x35.1, x35.2) (fun K4 s11 x38 o4 he4 hm4 hx4 => ?_)))
                unfold law3_DiskPlays.st4 at he4
                refine T.seq ?_
                refine T.seq ?_
                refine T.region ?_
                refine T.move .list rfl (wants0 rfl) rfl rfl ?_
                refine T.move .list rfl (wants0 rfl) rfl rfl ?_
                refine T.lenSlice .list rfl (wants0 rfl) rfl rfl ?_
                refine T.bin .list rfl (wants0 rfl) rfl rfl rfl rfl ?_
                refine T.nil ?_
                refine T.then_normal ?_
                refine T.cond rfl (fun hb20 => ?_) (fun hb20 => ?_)
                ·replace he4 := inv_posB hb20 he4
                 refine T.skip ?_
                 refine T.then_normal ?_
                 refine T.seq ?_
                 refine T.block ?_
                 refine T.region ?_
                 refine T.move .list rfl (wants0 rfl) rfl rfl ?_
                 refine T.move .list rfl (wants0 rfl) rfl rfl ?_
                 obtain ⟨hc3, he4⟩ := inv_chk he4
                 refine T.idxBf .list 9 rfl rfl (wants0 rfl) rfl rfl rfl hc3.1 hc3.2 (Nat.le_refl _) ?_
                 refine T.stBf .list 9 (z := (9 : UInt8)) rfl rfl (wants0 rfl) rfl rfl rfl rfl hc3.1 hc3.2 rfl ?_
                 refine T.nil ?_
                 refine T.in_normal ?_
                 refine T.then_normal ?_
                 refine T.region ?_
                 refine T.move .list rfl (wants0 rfl) rfl rfl ?_
                 refine T.bin .list rfl (wants0 rfl) rfl rfl rfl rfl ?_
                 refine T.assign .list rfl (wants0 rfl) rfl rfl ?_
                 refine T.nil ?_
                 refine T.then_normal ?_
                 obtain rfl := inv_some he4
                 refine T.env1 12 rfl (slc (n' := (((s11.1).set (s11.2 : Int).toNat (9 : UInt8))).length) (by simp only [List.length_set])) ?_
                 exact T.le (EnvLe.cons rfl (EnvLe.cons rfl (EnvLe.cons rfl (EnvLe.cons rfl (EnvLe.cons rfl (EnvLe.cons rfl (EnvLe.cons rfl EnvLe.nil))))))) (T.pick [0, 1, 2, 3, 4, 5, 6, 7, 8, 9] 10 rfl rfl (Nat.le_add_left _ _) rfl (hm4 (((s11.1).set (s11.2 : Int).toNat (9 : UInt8)), IntKind.i64.wrap (s11.2 + 1)) rfl (x38.1, x38.2)))
                ·replace he4 := inv_negB hb20 he4
                 refine T.exit ?_
                 refine T.then_exit ?_
                 refine T.then_exit ?_
                 obtain rfl := inv_some he4
                 obtain rfl := hx4 _ rfl
                 refine T.in_hit ?_
                 refine T.in_normal ?_
                 refine T.then_normal ?_
                 exact T.le (EnvLe.cons rfl (EnvLe.cons rfl (EnvLe.cons rfl (EnvLe.cons rfl (EnvLe.cons rfl EnvLe.nil))))) (T.pick [0, 1, 2, 3, 4, 5, 6, 7, 8] 10 rfl rfl (Nat.le_add_left _ _) rfl (J5 (s4.1, s4.2.1, s4.2.2.1, s4.2.2.2.1, s4.2.2.2.2.1, s4.2.2.2.2.2.1, s4.2.2.2.2.2.2.1, s4.2.2.2.2.2.2.2.1, s4.2.2.2.2.2.2.2.2.1, s4.2.2.2.2.2.2.2.2.2.1, s4.2.2.2.2.2.2.2.2.2.2.1, s4.2.2.2.2.2.2.2.2.2.2.2.1, s4.2.2.2.2.2.2.2.2.2.2.2.2.1, s4.2.2.2.2.2.2.2.2.2.2.2.2.2.1, s4.2.2.2.2.2.2.2.2.2.2.2.2.2.2.1, s4.2.2.2.2.2.2.2.2.2.2.2.2.2.2.2.1, s4.2.2.2.2.2.2.2.2.2.2.2.2.2.2.2.2.1) ((x11.1.1, x11.1.2), x11.2.1, (x11.2.2.1.1, x11.2.2.1.2), (x11.2.2.2.1.1, x11.2.2.2.1.2), x11.2.2.2.2) hk7))
              ·refine T.region ?_
               refine T.move .list rfl (wants0 rfl) rfl rfl ?_
               refine T.move .list rfl (wants0 rfl) rfl rfl ?_
               refine T.bin .list rfl (wants0 rfl) rfl rfl rfl rfl ?_
               refine T.move .list rfl (wants0 rfl) rfl rfl ?_
               refine T.bool (b := (decide (r24.2 = r25.2))) (fun hb21 => ?_) (fun hb21 => ?_)
               ·replace hk3 := inv_posB hb21 hk3
                refine T.move .list rfl (wants1 rfl rfl rfl (not_t hb21)) rfl rfl ?_
                refine T.strBf .list 5 rfl rfl (wants1 rfl rfl rfl (not_t hb21)) rfl rfl rfl ?_
                refine T.move .list rfl (wants1 rfl rfl rfl (not_t hb21)) rfl rfl ?_
                refine T.strBf .list 0 rfl rfl (wants1 rfl rfl rfl (not_t hb21)) rfl rfl rfl ?_
                refine T.strNe .list rfl (wants1 rfl rfl rfl (not_t hb21)) rfl (l := r24.1) (l' := r25.1) rfl rfl ?_
                refine T.pickF .list rfl (wants0 rfl) rfl rfl (not_t hb21) rfl ?_
                refine T.nil ?_
                refine T.then_normal ?_
                exact T.le (EnvLe.cons rfl (EnvLe.cons rfl (EnvLe.cons rfl (EnvLe.cons rfl (EnvLe.cons rfl (EnvLe.cons rfl (EnvLe.cons rfl EnvLe.nil))))))) (T.pick [12, 6, 7, 8, 9, 1, 2, 3, 4, 5] 13 rfl rfl (Nat.le_add_left _ _) rfl (J7 (!(decide (r24.1 = r25.1))) () hk3))
               ·replace hk3 := inv_negB hb21 hk3
                refine T.leave .list (wantsNot rfl rfl rfl (not_f hb21)) rfl ?_
                refine T.leave .list (wantsNot rfl rfl rfl (not_f hb21)) rfl ?_
                refine T.leave .list (wantsNot rfl rfl rfl (not_f hb21)) rfl ?_
                refine T.leave .list (wantsNot rfl rfl rfl (not_f hb21)) rfl ?_
                refine T.leave .list (wantsNot rfl rfl rfl (not_f hb21)) rfl ?_
                refine T.pickT .list rfl (wants0 rfl) rfl rfl (not_f hb21) rfl ?_
                refine T.nil ?_
                refine T.then_normal ?_
                exact T.le (EnvLe.cons rfl (EnvLe.cons rfl (EnvLe.cons rfl (EnvLe.cons rfl (EnvLe.cons rfl (EnvLe.cons rfl (EnvLe.cons rfl EnvLe.nil))))))) (T.pick [12, 6, 7, 8, 9, 1, 2, 3, 4, 5] 13 rfl rfl (Nat.le_add_left _ _) rfl (J7 true () hk3))
     ·replace hk3 := inv_negB hb4 hk3
      refine T.exit ?_
      refine T.then_exit ?_
      refine T.then_exit ?_
      obtain rfl := inv_some hk3
      obtain rfl := hx2 _ rfl
      refine T.in_hit ?_
      refine T.then_normal ?_
      exact T.le (EnvLe.cons rfl (EnvLe.cons rfl (EnvLe.cons rfl EnvLe.nil))) (T.pick [1, 2, 3, 4, 5, 6, 7, 8] 9 rfl rfl (Nat.le_add_left _ _) rfl (J1 (s4.1, s4.2.1, s4.2.2.1, s4.2.2.2.1, s4.2.2.2.2.1, s4.2.2.2.2.2.1, s4.2.2.2.2.2.2.1, s4.2.2.2.2.2.2.2.1, s4.2.2.2.2.2.2.2.2.1, s4.2.2.2.2.2.2.2.2.2.1, s4.2.2.2.2.2.2.2.2.2.2.1, s4.2.2.2.2.2.2.2.2.2.2.2.1, s4.2.2.2.2.2.2.2.2.2.2.2.2.1, s4.2.2.2.2.2.2.2.2.2.2.2.2.2.1, s4.2.2.2.2.2.2.2.2.2.2.2.2.2.2.1, s4.2.2.2.2.2.2.2.2.2.2.2.2.2.2.2.1, s4.2.2.2.2.2.2.2.2.2.2.2.2.2.2.2.2.1) ((x11.1.1, x11.1.2), x11.2.1, (x11.2.2.1.1, x11.2.2.1.2), (x11.2.2.2.1.1, x11.2.2.2.1.2), x11.2.2.2.2) hr))
    ·refine T.region ?_
     refine T.move .list rfl (wants0 rfl) rfl rfl ?_
     refine T.move .list rfl (wants0 rfl) rfl rfl ?_
     refine T.lenSlice .list rfl (wants0 rfl) rfl rfl ?_
     refine T.bin .list rfl (wants0 rfl) rfl rfl rfl rfl ?_
     refine T.move .list rfl (wants0 rfl) rfl rfl ?_
     refine T.bool (b := (decide (s4.2.2.2.2.2.2.2.2.2.2.2.2.2.2.2.2.2 < ((l1.length : Int))))) (fun hb22 => ?_) (fun hb22 => ?_)
     ·replace he2 := inv_posB hb22 he2
      refine T.move .list rfl (wants1 rfl rfl rfl hb22) rfl rfl ?_
      refine T.bin .list rfl (wants1 rfl rfl rfl hb22) rfl rfl rfl rfl ?_
      refine T.pickT .list rfl (wants0 rfl) rfl rfl hb22 rfl ?_
      refine T.nil ?_
      refine T.then_normal ?_
      exact T.le (EnvLe.cons rfl (EnvLe.cons rfl (EnvLe.cons rfl (EnvLe.cons rfl (EnvLe.cons rfl (EnvLe.cons rfl EnvLe.nil)))))) (T.pick [0, 1, 2, 3, 4, 5, 6, 7, 8] 9 rfl rfl (Nat.le_add_left _ _) rfl (J3 (decide (s4.2.2.2.2.2.2.2.2.2.2.2.2.2.2.2.2.2 < 60)) () he2))
     ·replace he2 := inv_negB hb22 he2
      refine T.leave .list (wantsNot rfl rfl rfl hb22) rfl ?_
      refine T.leave .list (wantsNot rfl rfl rfl hb22) rfl ?_
      refine T.pickF .list rfl (wants0 rfl) rfl rfl hb22 rfl ?_
      refine T.nil ?_
      refine T.then_normal ?_
      exact T.le (EnvLe.cons rfl (EnvLe.cons rfl (EnvLe.cons rfl (EnvLe.cons rfl (EnvLe.cons rfl (EnvLe.cons rfl EnvLe.nil)))))) (T.pick [0, 1, 2, 3, 4, 5, 6, 7, 8] 9 rfl rfl (Nat.le_add_left _ _) rfl (J3 false () he2))
end Go.Proofs.Ytfdogeebkbaadaa
