/- LawB: what the functions compute, and that the program computes it; printed by a program of ours. -/
import Derived.Test.YtccifnjlfhdpiaaLawT
set_option linter.unusedVariables false
set_option linter.unusedSimpArgs false
namespace Go.Proofs.Ytccifnjlfhdpiaa
open Go.RowKit
noncomputable def law4_PageBack.k1 (s1 : Unit) : Option Bool :=
  some false
noncomputable def law4_PageBack.k7 (r3 : Int × (Int × Int × Int × Int) × (List (Int × Int)) × (Int × Bool × Int × Int × Int × Int × Int) × (List (Int × (List UInt8))) × (List (Int × List UInt8))) (s5 : (List (Int × Int)) × Int × (List (Int × (List UInt8))) × (List (Int × List UInt8)) × Bool × Int × Int × Int × Int × Int × Int) (s4 : (List (Int × Int)) × Int) (s7 : Unit) : Option Bool :=
  (law4_told.impl ).bind fun r4 => (if r4 = true then (page_Store_Commit.impl ((r3.2.1.1, r3.2.1.2.1, r3.2.1.2.2.1, r3.2.1.2.2.2)) s5.1 ((s5.2.1, s5.2.2.2.2.1, s5.2.2.2.2.2.1, s5.2.2.2.2.2.2.1, s5.2.2.2.2.2.2.2.1, s5.2.2.2.2.2.2.2.2.1, s5.2.2.2.2.2.2.2.2.2.1)) s5.2.2.1 s5.2.2.2.1 0).bind fun r5 => (if ((decide (r5.1 = 0))) = true then (page_counts_Left.impl r5.2.1.1 r5.2.2.1).bind fun r6 => (if ((decide (r6 = s4.2))) = true then (page_Store_Number.impl ((r5.2.1.1, r5.2.1.2.1, r5.2.1.2.2.1, r5.2.1.2.2.2)) r5.2.2.1 ((r5.2.2.2.1.1, r5.2.2.2.1.2.1, r5.2.2.2.1.2.2.1, r5.2.2.2.1.2.2.2.1, r5.2.2.2.1.2.2.2.2.1, r5.2.2.2.1.2.2.2.2.2.1, r5.2.2.2.1.2.2.2.2.2.2)) r5.2.2.2.2.1 r5.2.2.2.2.2).bind fun r7 => some (decide (r7 = 2)) else some false) else some false) else some false)
noncomputable def law4_PageBack.k8 (s8 : Int) (s9 : Bool) : Option (Int ⊕ (Bool ⊕ Unit)) :=
  (if s9 = true then some (.inr (.inl false)) else some (.inl (IntKind.i64.wrap (s8 + 1))))
noncomputable def law4_PageBack.st1 (s3 : (List (Int × Int)) × Int × (List (Int × (List UInt8))) × (List (Int × List UInt8)) × Bool × Int × Int × Int × Int × Int × List Int × List (List UInt8)) (r3 : Int × (Int × Int × Int × Int) × (List (Int × Int)) × (Int × Bool × Int × Int × Int × Int × Int) × (List (Int × (List UInt8))) × (List (Int × List UInt8))) (s5 : (List (Int × Int)) × Int × (List (Int × (List UInt8))) × (List (Int × List UInt8)) × Bool × Int × Int × Int × Int × Int × Int) (s8 : Int) : Option (Int ⊕ (Bool ⊕ Unit)) :=
  (if ((decide (s8 < ((s3.2.2.2.2.2.2.2.2.2.2.1.length : Int))))) = true then chk (0 ≤ s8 ∧ s8 < (s3.2.2.2.2.2.2.2.2.2.2.1.length : Int)) ((page_Store_Get.impl ((r3.2.1.1, r3.2.1.2.1, r3.2.1.2.2.1, r3.2.1.2.2.2)) s5.1 ((s5.2.1, s5.2.2.2.2.1, s5.2.2.2.2.2.1, s5.2.2.2.2.2.2.1, s5.2.2.2.2.2.2.2.1, s5.2.2.2.2.2.2.2.2.1, s5.2.2.2.2.2.2.2.2.2.1)) s5.2.2.1 s5.2.2.2.1 (((s3.2.2.2.2.2.2.2.2.2.2.1).getD (s8 : Int).toNat default))).bind fun r8 => (if ((decide (r8.2 = 0))) = true then chk (0 ≤ s8 ∧ s8 < (s3.2.2.2.2.2.2.2.2.2.2.2.length : Int)) (law4_PageBack.k8 s8 (!(decide (r8.1 = (((s3.2.2.2.2.2.2.2.2.2.2.2).getD (s8 : Int).toNat default)))))) else law4_PageBack.k8 s8 true)) else some (.inr (.inr ())))
noncomputable def law4_PageBack.k6 (s3 : (List (Int × Int)) × Int × (List (Int × (List UInt8))) × (List (Int × List UInt8)) × Bool × Int × Int × Int × Int × Int × List Int × List (List UInt8)) (r3 : Int × (Int × Int × Int × Int) × (List (Int × Int)) × (Int × Bool × Int × Int × Int × Int × Int) × (List (Int × (List UInt8))) × (List (Int × List UInt8))) (s5 : (List (Int × Int)) × Int × (List (Int × (List UInt8))) × (List (Int × List UInt8)) × Bool × Int × Int × Int × Int × Int × Int) (s4 : (List (Int × Int)) × Int) (s6 : Bool) : Option Bool :=
  (if s6 = true then some false else (loop (law4_PageBack.st1 s3 r3 s5) 0).bind (fun e1 => match e1 with | .inl v => some v | .inr v => law4_PageBack.k7 r3 s5 s4 v))
noncomputable def law4_PageBack.k5 (a2 : Int) (s3 : (List (Int × Int)) × Int × (List (Int × (List UInt8))) × (List (Int × List UInt8)) × Bool × Int × Int × Int × Int × Int × List Int × List (List UInt8)) (r3 : Int × (Int × Int × Int × Int) × (List (Int × Int)) × (Int × Bool × Int × Int × Int × Int × Int) × (List (Int × (List UInt8))) × (List (Int × List UInt8))) (s4 : (List (Int × Int)) × Int) (s5 : (List (Int × Int)) × Int × (List (Int × (List UInt8))) × (List (Int × List UInt8)) × Bool × Int × Int × Int × Int × Int × Int) : Option Bool :=
  (if ((decide (s5.2.2.2.2.2.2.2.2.2.2 = (IntKind.i64.wrap ((IntKind.i64.wrap ((IntKind.i64.wrap ((bitsOf .and .i64 a2 15) + 6)) - 2)) - ((s3.2.2.2.2.2.2.2.2.2.2.1.length : Int))))))) = true then (page_counts_Left.impl r3.2.1.1 s5.1).bind fun r9 => law4_PageBack.k6 s3 r3 s5 s4 (!(decide (r9 = 0))) else law4_PageBack.k6 s3 r3 s5 s4 true)
noncomputable def law4_PageBack.st2 (r3 : Int × (Int × Int × Int × Int) × (List (Int × Int)) × (Int × Bool × Int × Int × Int × Int × Int) × (List (Int × (List UInt8))) × (List (Int × List UInt8))) (s10 : (List (Int × Int)) × Int × (List (Int × (List UInt8))) × (List (Int × List UInt8)) × Bool × Int × Int × Int × Int × Int × Int) : Option (((List (Int × Int)) × Int × (List (Int × (List UInt8))) × (List (Int × List UInt8)) × Bool × Int × Int × Int × Int × Int × Int) ⊕ (Bool ⊕ ((List (Int × Int)) × Int × (List (Int × (List UInt8))) × (List (Int × List UInt8)) × Bool × Int × Int × Int × Int × Int × Int))) :=
  (page_Store_Put.impl ((r3.2.1.1, r3.2.1.2.1, r3.2.1.2.2.1, r3.2.1.2.2.2)) s10.1 ((s10.2.1, s10.2.2.2.2.1, s10.2.2.2.2.2.1, s10.2.2.2.2.2.2.1, s10.2.2.2.2.2.2.2.1, s10.2.2.2.2.2.2.2.2.1, s10.2.2.2.2.2.2.2.2.2.1)) s10.2.2.1 s10.2.2.2.1 (([(u8 (IntKind.u8.wrap s10.2.2.2.2.2.2.2.2.2.2))] : List UInt8))).bind fun r10 => (if ((!(decide (r10.2.1 = 0)))) = true then (if ((!(decide (r10.2.1 = 21)))) = true then some (.inr (.inl false)) else some (.inr (.inr (r10.2.2.1, r10.2.2.2.1.1, r10.2.2.2.2.1, r10.2.2.2.2.2, r10.2.2.2.1.2.1, r10.2.2.2.1.2.2.1, r10.2.2.2.1.2.2.2.1, r10.2.2.2.1.2.2.2.2.1, r10.2.2.2.1.2.2.2.2.2.1, r10.2.2.2.1.2.2.2.2.2.2, s10.2.2.2.2.2.2.2.2.2.2)))) else some (.inl (r10.2.2.1, r10.2.2.2.1.1, r10.2.2.2.2.1, r10.2.2.2.2.2, r10.2.2.2.1.2.1, r10.2.2.2.1.2.2.1, r10.2.2.2.1.2.2.2.1, r10.2.2.2.1.2.2.2.2.1, r10.2.2.2.1.2.2.2.2.2.1, r10.2.2.2.1.2.2.2.2.2.2, IntKind.i64.wrap (s10.2.2.2.2.2.2.2.2.2.2 + 1))))
noncomputable def law4_PageBack.k4 (r3 : Int × (Int × Int × Int × Int) × (List (Int × Int)) × (Int × Bool × Int × Int × Int × Int × Int) × (List (Int × (List UInt8))) × (List (Int × List UInt8))) (a2 : Int) (s3 : (List (Int × Int)) × Int × (List (Int × (List UInt8))) × (List (Int × List UInt8)) × Bool × Int × Int × Int × Int × Int × List Int × List (List UInt8)) (s4 : (List (Int × Int)) × Int) : Option Bool :=
  (loop (law4_PageBack.st2 r3) (s4.1, r3.2.2.2.1.1, r3.2.2.2.2.1, r3.2.2.2.2.2, r3.2.2.2.1.2.1, r3.2.2.2.1.2.2.1, r3.2.2.2.1.2.2.2.1, r3.2.2.2.1.2.2.2.2.1, r3.2.2.2.1.2.2.2.2.2.1, r3.2.2.2.1.2.2.2.2.2.2, 0)).bind (fun e2 => match e2 with | .inl v => some v | .inr v => law4_PageBack.k5 a2 s3 r3 s4 v)
noncomputable def law4_PageBack.k10 (s11 : (List (Int × Int)) × Int × Int) (s13 : (List (Int × Int)) × Int) : Option (((List (Int × Int)) × Int × Int) ⊕ (Bool ⊕ ((List (Int × Int)) × Int))) :=
  some (.inl (s13.1, s13.2, IntKind.i64.wrap (s11.2.2 + 1)))
noncomputable def law4_PageBack.k11 (s11 : (List (Int × Int)) × Int × Int) (s14 : (List (Int × Int)) × Bool) : Option (((List (Int × Int)) × Int × Int) ⊕ (Bool ⊕ ((List (Int × Int)) × Int))) :=
  (if s14.2 = true then some (.inr (.inl false)) else law4_PageBack.k10 s11 (s14.1, IntKind.i64.wrap (s11.2.1 + 1)))
noncomputable def law4_PageBack.k9 (s11 : (List (Int × Int)) × Int × Int) (l1 : List Bool) (s3 : (List (Int × Int)) × Int × (List (Int × (List UInt8))) × (List (Int × List UInt8)) × Bool × Int × Int × Int × Int × Int × List Int × List (List UInt8)) (r3 : Int × (Int × Int × Int × Int) × (List (Int × Int)) × (Int × Bool × Int × Int × Int × Int × Int) × (List (Int × (List UInt8))) × (List (Int × List UInt8))) (s12 : Bool) : Option (((List (Int × Int)) × Int × Int) ⊕ (Bool ⊕ ((List (Int × Int)) × Int))) :=
  (if s12 = true then chk (0 ≤ s11.2.2 ∧ s11.2.2 < (l1.length : Int)) ((if (((l1).getD (s11.2.2 : Int).toNat default)) = true then chk (0 ≤ s11.2.2 ∧ s11.2.2 < (s3.2.2.2.2.2.2.2.2.2.2.1.length : Int)) ((page_Store_Free.impl ((r3.2.1.1, r3.2.1.2.1, r3.2.1.2.2.1, r3.2.1.2.2.2)) s11.1 ((r3.2.2.2.1.1, r3.2.2.2.1.2.1, r3.2.2.2.1.2.2.1, r3.2.2.2.1.2.2.2.1, r3.2.2.2.1.2.2.2.2.1, r3.2.2.2.1.2.2.2.2.2.1, r3.2.2.2.1.2.2.2.2.2.2)) r3.2.2.2.2.1 r3.2.2.2.2.2 (((s3.2.2.2.2.2.2.2.2.2.2.1).getD (s11.2.2 : Int).toNat default))).bind fun r11 => (if ((decide (r11.1 = 0))) = true then chk (0 ≤ s11.2.2 ∧ s11.2.2 < (s3.2.2.2.2.2.2.2.2.2.2.1.length : Int)) ((page_Store_Free.impl ((r3.2.1.1, r3.2.1.2.1, r3.2.1.2.2.1, r3.2.1.2.2.2)) r11.2 ((r3.2.2.2.1.1, r3.2.2.2.1.2.1, r3.2.2.2.1.2.2.1, r3.2.2.2.1.2.2.2.1, r3.2.2.2.1.2.2.2.2.1, r3.2.2.2.1.2.2.2.2.2.1, r3.2.2.2.1.2.2.2.2.2.2)) r3.2.2.2.2.1 r3.2.2.2.2.2 (((s3.2.2.2.2.2.2.2.2.2.2.1).getD (s11.2.2 : Int).toNat default))).bind fun r12 => law4_PageBack.k11 s11 (r12.2, (!(decide (r12.1 = 1))))) else law4_PageBack.k11 s11 (r11.2, true))) else law4_PageBack.k10 s11 (s11.1, s11.2.1))) else some (.inr (.inr (s11.1, s11.2.1))))
noncomputable def law4_PageBack.st3 (s3 : (List (Int × Int)) × Int × (List (Int × (List UInt8))) × (List (Int × List UInt8)) × Bool × Int × Int × Int × Int × Int × List Int × List (List UInt8)) (l1 : List Bool) (r3 : Int × (Int × Int × Int × Int) × (List (Int × Int)) × (Int × Bool × Int × Int × Int × Int × Int) × (List (Int × (List UInt8))) × (List (Int × List UInt8))) (s11 : (List (Int × Int)) × Int × Int) : Option (((List (Int × Int)) × Int × Int) ⊕ (Bool ⊕ ((List (Int × Int)) × Int))) :=
  (if ((decide (s11.2.2 < ((s3.2.2.2.2.2.2.2.2.2.2.1.length : Int))))) = true then law4_PageBack.k9 s11 l1 s3 r3 (decide (s11.2.2 < ((l1.length : Int)))) else law4_PageBack.k9 s11 l1 s3 r3 false)
noncomputable def law4_PageBack.k3 (r2p0 : (Int × Int × Int × Int) × (List (Int × Int))) (l1 : List Bool) (a2 : Int) (s3 : (List (Int × Int)) × Int × (List (Int × (List UInt8))) × (List (Int × List UInt8)) × Bool × Int × Int × Int × Int × Int × List Int × List (List UInt8)) : Option Bool :=
  (page_Store_Commit.impl ((r2p0.1.1, r2p0.1.2.1, r2p0.1.2.2.1, r2p0.1.2.2.2)) s3.1 ((s3.2.1, s3.2.2.2.2.1, s3.2.2.2.2.2.1, s3.2.2.2.2.2.2.1, s3.2.2.2.2.2.2.2.1, s3.2.2.2.2.2.2.2.2.1, s3.2.2.2.2.2.2.2.2.2.1)) s3.2.2.1 s3.2.2.2.1 0).bind fun r3 => (if ((!(decide (r3.1 = 0)))) = true then some false else (loop (law4_PageBack.st3 s3 l1 r3) (r3.2.2.1, 0, 0)).bind (fun e3 => match e3 with | .inl v => some v | .inr v => law4_PageBack.k4 r3 a2 s3 v))
noncomputable def law4_PageBack.k13 (s15 : (List (Int × Int)) × Int × (List (Int × (List UInt8))) × (List (Int × List UInt8)) × Bool × Int × Int × Int × Int × Int × List Int × List (List UInt8) × Int) (s17 : (List (Int × Int)) × Int × (List (Int × (List UInt8))) × (List (Int × List UInt8)) × Bool × Int × Int × Int × Int × Int × List Int × List (List UInt8)) : Option (((List (Int × Int)) × Int × (List (Int × (List UInt8))) × (List (Int × List UInt8)) × Bool × Int × Int × Int × Int × Int × List Int × List (List UInt8) × Int) ⊕ (Bool ⊕ ((List (Int × Int)) × Int × (List (Int × (List UInt8))) × (List (Int × List UInt8)) × Bool × Int × Int × Int × Int × Int × List Int × List (List UInt8)))) :=
  some (.inl (s17.1, s17.2.1, s17.2.2.1, s17.2.2.2.1, s17.2.2.2.2.1, s17.2.2.2.2.2.1, s17.2.2.2.2.2.2.1, s17.2.2.2.2.2.2.2.1, s17.2.2.2.2.2.2.2.2.1, s17.2.2.2.2.2.2.2.2.2.1, s17.2.2.2.2.2.2.2.2.2.2.1, s17.2.2.2.2.2.2.2.2.2.2.2, IntKind.i64.wrap (s15.2.2.2.2.2.2.2.2.2.2.2.2 + 1)))
noncomputable def law4_PageBack.k14 (s15 : (List (Int × Int)) × Int × (List (Int × (List UInt8))) × (List (Int × List UInt8)) × Bool × Int × Int × Int × Int × Int × List Int × List (List UInt8) × Int) (r13 : Int × Int × (List (Int × Int)) × (Int × Bool × Int × Int × Int × Int × Int) × (List (Int × (List UInt8))) × (List (Int × List UInt8))) (l0 : List (List UInt8)) (s18 : Bool) : Option (((List (Int × Int)) × Int × (List (Int × (List UInt8))) × (List (Int × List UInt8)) × Bool × Int × Int × Int × Int × Int × List Int × List (List UInt8) × Int) ⊕ (Bool ⊕ ((List (Int × Int)) × Int × (List (Int × (List UInt8))) × (List (Int × List UInt8)) × Bool × Int × Int × Int × Int × Int × List Int × List (List UInt8)))) :=
  (if s18 = true then some (.inr (.inl false)) else chk ((s15.2.2.2.2.2.2.2.2.2.2.1.length + (([r13.1] : List Int)).length) * 8 ≤ 140737488355328) (chk ((s15.2.2.2.2.2.2.2.2.2.2.2.1.length + (([(subl (((l0).getD (s15.2.2.2.2.2.2.2.2.2.2.2.2 : Int).toNat default)) 0 (min (((((l0).getD (s15.2.2.2.2.2.2.2.2.2.2.2.2 : Int).toNat default)).length : Int)) 100))] : List (List UInt8))).length) * 16 ≤ 140737488355328) (law4_PageBack.k13 s15 (r13.2.2.1, r13.2.2.2.1.1, r13.2.2.2.2.1, r13.2.2.2.2.2, r13.2.2.2.1.2.1, r13.2.2.2.1.2.2.1, r13.2.2.2.1.2.2.2.1, r13.2.2.2.1.2.2.2.2.1, r13.2.2.2.1.2.2.2.2.2.1, r13.2.2.2.1.2.2.2.2.2.2, (s15.2.2.2.2.2.2.2.2.2.2.1 ++ (([r13.1] : List Int))), (s15.2.2.2.2.2.2.2.2.2.2.2.1 ++ (([(subl (((l0).getD (s15.2.2.2.2.2.2.2.2.2.2.2.2 : Int).toNat default)) 0 (min (((((l0).getD (s15.2.2.2.2.2.2.2.2.2.2.2.2 : Int).toNat default)).length : Int)) 100))] : List (List UInt8))))))))
noncomputable def law4_PageBack.k12 (s15 : (List (Int × Int)) × Int × (List (Int × (List UInt8))) × (List (Int × List UInt8)) × Bool × Int × Int × Int × Int × Int × List Int × List (List UInt8) × Int) (l0 : List (List UInt8)) (r2p0 : (Int × Int × Int × Int) × (List (Int × Int))) (s16 : Bool) : Option (((List (Int × Int)) × Int × (List (Int × (List UInt8))) × (List (Int × List UInt8)) × Bool × Int × Int × Int × Int × Int × List Int × List (List UInt8) × Int) ⊕ (Bool ⊕ ((List (Int × Int)) × Int × (List (Int × (List UInt8))) × (List (Int × List UInt8)) × Bool × Int × Int × Int × Int × Int × List Int × List (List UInt8)))) :=
  (if s16 = true then chk (0 ≤ s15.2.2.2.2.2.2.2.2.2.2.2.2 ∧ s15.2.2.2.2.2.2.2.2.2.2.2.2 < (l0.length : Int)) (chk (0 ≤ s15.2.2.2.2.2.2.2.2.2.2.2.2 ∧ s15.2.2.2.2.2.2.2.2.2.2.2.2 < (l0.length : Int)) (chk (0 ≤ (min (((((l0).getD (s15.2.2.2.2.2.2.2.2.2.2.2.2 : Int).toNat default)).length : Int)) 100) ∧ (min (((((l0).getD (s15.2.2.2.2.2.2.2.2.2.2.2.2 : Int).toNat default)).length : Int)) 100) ≤ ((((l0).getD (s15.2.2.2.2.2.2.2.2.2.2.2.2 : Int).toNat default)).length : Int)) ((page_Store_Put.impl ((r2p0.1.1, r2p0.1.2.1, r2p0.1.2.2.1, r2p0.1.2.2.2)) s15.1 ((s15.2.1, s15.2.2.2.2.1, s15.2.2.2.2.2.1, s15.2.2.2.2.2.2.1, s15.2.2.2.2.2.2.2.1, s15.2.2.2.2.2.2.2.2.1, s15.2.2.2.2.2.2.2.2.2.1)) s15.2.2.1 s15.2.2.2.1 (subl (((l0).getD (s15.2.2.2.2.2.2.2.2.2.2.2.2 : Int).toNat default)) 0 (min (((((l0).getD (s15.2.2.2.2.2.2.2.2.2.2.2.2 : Int).toNat default)).length : Int)) 100))).bind fun r13 => (if ((decide (r13.2.1 = 0))) = true then law4_PageBack.k14 s15 r13 l0 (!(decide (r13.1 = (IntKind.i64.wrap (2 + s15.2.2.2.2.2.2.2.2.2.2.2.2))))) else law4_PageBack.k14 s15 r13 l0 true)))) else some (.inr (.inr (s15.1, s15.2.1, s15.2.2.1, s15.2.2.2.1, s15.2.2.2.2.1, s15.2.2.2.2.2.1, s15.2.2.2.2.2.2.1, s15.2.2.2.2.2.2.2.1, s15.2.2.2.2.2.2.2.2.1, s15.2.2.2.2.2.2.2.2.2.1, s15.2.2.2.2.2.2.2.2.2.2.1, s15.2.2.2.2.2.2.2.2.2.2.2.1))))
noncomputable def law4_PageBack.st4 (l0 : List (List UInt8)) (r2p0 : (Int × Int × Int × Int) × (List (Int × Int))) (a2 : Int) (s15 : (List (Int × Int)) × Int × (List (Int × (List UInt8))) × (List (Int × List UInt8)) × Bool × Int × Int × Int × Int × Int × List Int × List (List UInt8) × Int) : Option (((List (Int × Int)) × Int × (List (Int × (List UInt8))) × (List (Int × List UInt8)) × Bool × Int × Int × Int × Int × Int × List Int × List (List UInt8) × Int) ⊕ (Bool ⊕ ((List (Int × Int)) × Int × (List (Int × (List UInt8))) × (List (Int × List UInt8)) × Bool × Int × Int × Int × Int × Int × List Int × List (List UInt8)))) :=
  (if ((decide (s15.2.2.2.2.2.2.2.2.2.2.2.2 < ((l0.length : Int))))) = true then law4_PageBack.k12 s15 l0 r2p0 (decide (s15.2.2.2.2.2.2.2.2.2.2.2.2 < (IntKind.i64.wrap ((IntKind.i64.wrap ((bitsOf .and .i64 a2 15) + 6)) - 3)))) else law4_PageBack.k12 s15 l0 r2p0 false)
noncomputable def law4_PageBack.k2 (l0 : List (List UInt8)) (r2p0 : (Int × Int × Int × Int) × (List (Int × Int))) (a2 : Int) (r1p0 : (Int × Bool × Int × Int × Int × Int × Int) × (List (Int × (List UInt8))) × (List (Int × (List UInt8)))) (l1 : List Bool) (s2 : Bool) : Option Bool :=
  (if s2 = true then some false else (loop (law4_PageBack.st4 l0 r2p0 a2) (r2p0.2, r1p0.1.1, r1p0.2.1, r1p0.2.2, r1p0.1.2.1, r1p0.1.2.2.1, r1p0.1.2.2.2.1, r1p0.1.2.2.2.2.1, r1p0.1.2.2.2.2.2.1, r1p0.1.2.2.2.2.2.2, ([] : List Int), ([] : List (List UInt8)), 0)).bind (fun e4 => match e4 with | .inl v => some v | .inr v => law4_PageBack.k3 r2p0 l1 a2 v))
noncomputable def law4_PageBack.impl (l0 : List (List UInt8)) (l1 : List Bool) (a2 : Int) : Option Bool :=
  (disk_New.impl (IntKind.i64.wrap ((bitsOf .and .i64 a2 15) + 6))).bind fun r1 => (match r1 with | (none, r1p1) => (some false) | (some r1p0, r1p1) => ((page_Open.impl ((r1p0.1.1, r1p0.1.2.1, r1p0.1.2.2.1, r1p0.1.2.2.2.1, r1p0.1.2.2.2.2.1, r1p0.1.2.2.2.2.2.1, r1p0.1.2.2.2.2.2.2)) r1p0.2.1 r1p0.2.2).bind fun r2 => (match r2 with | (none, r2p1) => ((if ((decide (r2p1 = 0))) = true then law4_PageBack.k1 () else law4_PageBack.k1 ())) | (some r2p0, r2p1) => ((if ((decide (r2p1 = 0))) = true then law4_PageBack.k2 l0 r2p0 a2 r1p0 l1 false else law4_PageBack.k2 l0 r2p0 a2 r1p0 l1 true)))))
set_option maxRecDepth 100000 in
set_option maxHeartbeats 4000000 in
theorem law4_PageBack.c {B : World} {hs : List MP} {w : World} {i0 c0 : Nat} {A0 : Option Addr} {l0 : List (List UInt8)} {i1 c1 : Nat} {A1 : Option Addr} {l1 : List Bool} {a2 : Int} (hS : St B (hs) w) (h0 : (hs)[i0]? = some (Ro (Elt.slice E8) A0 c0 l0)) (h1 : (hs)[i1]? = some (Ro EBool A1 c1 l1)) {r : Bool} (hr : law4_PageBack.impl l0 l1 a2 = some r) :
    Calls Try.prog 3 #[.slice A0 l0.length c0, .slice A1 l1.length c1, .int .i64 a2] w fun e w' => ∃ x : Unit, e = .returned (.bool r) ∧ St B (hs) w' := by
 unfold law4_PageBack.impl at hr
 refine calls_T Try.func3 rfl rfl rfl hS ?_
 refine T.front i0 h0 ?_
 refine T.front (i1 + 1) h1 ?_
 refine T.seq ?_
 refine T.region ?_
 refine T.assign .list rfl (wants0 rfl) rfl rfl ?_
 refine T.nil ?_
 refine T.then_normal ?_
 refine T.seq ?_
 refine T.region ?_
 refine T.move .list rfl (wants0 rfl) rfl rfl ?_
 refine T.bin .list rfl (wants0 rfl) rfl rfl rfl rfl ?_
 refine T.bin .list rfl (wants0 rfl) rfl rfl rfl rfl ?_
 refine T.assign .list rfl (wants0 rfl) rfl rfl ?_
 refine T.nil ?_
 refine T.then_normal ?_
 refine T.seq ?_
 refine T.region ?_
 refine T.move .list rfl (wants0 rfl) rfl rfl ?_
 obtain ⟨r1, hg1, hr⟩ := inv_bind hr
 rcases r1 with ⟨_ | r1p0, r1p1⟩
 ·dsimp only at hr
  refine T.call (v := fun (x1 : (Nat) × (Nat) × (Option Addr × Nat) × (Ads)) => .tuple #[.pointer none, .int .i64 r1p1]) (hs' := fun x1 => Ro EBool A1 c1 l1 :: Ro (Elt.slice E8) A0 c0 l0 :: hs) .list (wants0 rfl) rfl (run_callF (vs := [_]) rfl Try.func7 rfl (by decide) rfl) (fun w hS => disk_New.c hS  hg1) (fun x1 => ?_)
  refine T.move .list rfl (wants0 rfl) rfl rfl ?_
  refine T.extract .list rfl (wants0 rfl) rfl rfl rfl ?_
  refine T.extract .list rfl (wants0 rfl) rfl rfl rfl ?_
  refine T.assign .list rfl (wants0 rfl) rfl rfl ?_
  refine T.assign .list rfl (wants0 rfl) rfl rfl ?_
  refine T.nil ?_
  refine T.then_normal ?_
  refine T.seq ?_
  refine T.seq ?_
  refine T.region ?_
  refine T.move .list rfl (wants0 rfl) rfl rfl ?_
  refine T.ptrEq (pt := 68) .list rfl (wants0 rfl) rfl rfl rfl (by kernel_rfl) (.inr rfl) rfl ?_
  refine T.nil ?_
  refine T.then_normal ?_
  refine T.condT rfl rfl ?_
  refine T.seq ?_
  refine T.region ?_
  refine T.assign .list rfl (wants0 rfl) rfl rfl ?_
  refine T.nil ?_
  refine T.then_normal ?_
  refine T.ret ?_
  refine T.then_ret ?_
  obtain rfl := inv_some hr
  refine T.pick [] 2 rfl rfl (Nat.le_add_left _ _) rfl ?_
  refine T.ret1 rfl rfl (fun w hS => ⟨(), rfl, hS⟩)
 ·dsimp only at hr
  refine T.call (v := fun (x2 : (Nat) × (Nat) × (Option Addr × Nat) × (Ads)) => .tuple #[.pointer (some ⟨x2.1, 0, none⟩), .int .i64 r1p1]) (hs' := fun x2 => Cl x2.1 68 [.int .i64 r1p0.1.1, .map (some x2.2.1), .slice x2.2.2.1.1 r1p0.2.2.length x2.2.2.1.2, .bool r1p0.1.2.1, .int .i64 r1p0.1.2.2.1, .int .i64 r1p0.1.2.2.2.1, .int .u64 r1p0.1.2.2.2.2.1, .int .i64 r1p0.1.2.2.2.2.2.1, .int .i64 r1p0.1.2.2.2.2.2.2] :: Mp (Elt.slice E8) x2.2.1 r1p0.2.1 :: Hb 82 x2.2.2.1.1 x2.2.2.1.2 x2.2.2.2 r1p0.2.2 :: Bb 5 x2.2.2.2 r1p0.2.2 :: Ro EBool A1 c1 l1 :: Ro (Elt.slice E8) A0 c0 l0 :: hs) .list (wants0 rfl) rfl (run_callF (vs := [_]) rfl Try.func7 rfl (by decide) rfl) (fun w hS => disk_New.c hS  hg1) (fun x2 => ?_)
  refine T.move .list rfl (wants0 rfl) rfl rfl ?_
  refine T.extract .list rfl (wants0 rfl) rfl rfl rfl ?_
  refine T.extract .list rfl (wants0 rfl) rfl rfl rfl ?_
  refine T.assign .list rfl (wants0 rfl) rfl rfl ?_
  refine T.assign .list rfl (wants0 rfl) rfl rfl ?_
  refine T.nil ?_
  refine T.then_normal ?_
  refine T.seq ?_
  refine T.seq ?_
  refine T.region ?_
  refine T.move .list rfl (wants0 rfl) rfl rfl ?_
  refine T.ptrEq (pt := 68) .list rfl (wants0 rfl) rfl rfl rfl (by kernel_rfl) (.inr rfl) rfl ?_
  refine T.nil ?_
  refine T.then_normal ?_
  refine T.condF rfl rfl ?_
  refine T.skip ?_
  refine T.then_normal ?_
  refine T.seq ?_
  refine T.region ?_
  refine T.move .list rfl (wants0 rfl) rfl rfl ?_
  obtain ⟨r2, hg2, hr⟩ := inv_bind hr
  rcases r2 with ⟨_ | r2p0, r2p1⟩
  ·dsimp only at hr
   refine T.pick [0, 1, 2, 3, 4, 5] 6 rfl rfl (Nat.le_add_left _ _) (hs' := Cl x2.1 68 [.int .i64 r1p0.1.1, .map (some x2.2.1), .slice x2.2.2.1.1 r1p0.2.2.length x2.2.2.1.2, .bool r1p0.1.2.1, .int .i64 r1p0.1.2.2.1, .int .i64 r1p0.1.2.2.2.1, .int .u64 r1p0.1.2.2.2.2.1, .int .i64 r1p0.1.2.2.2.2.2.1, .int .i64 r1p0.1.2.2.2.2.2.2] :: Mp (Elt.slice E8) x2.2.1 r1p0.2.1 :: Hb 82 x2.2.2.1.1 x2.2.2.1.2 x2.2.2.2 r1p0.2.2 :: Bb 5 x2.2.2.2 r1p0.2.2 :: Ro EBool A1 c1 l1 :: Ro (Elt.slice E8) A0 c0 l0 :: hs) rfl ?_
   refine T.call (v := fun (x3 : (Nat) × (Nat)) => .tuple #[.pointer none, .int .i64 r2p1]) (hs' := fun x3 => Cl x2.1 68 [.int .i64 r1p0.1.1, .map (some x2.2.1), .slice x2.2.2.1.1 r1p0.2.2.length x2.2.2.1.2, .bool r1p0.1.2.1, .int .i64 r1p0.1.2.2.1, .int .i64 r1p0.1.2.2.2.1, .int .u64 r1p0.1.2.2.2.2.1, .int .i64 r1p0.1.2.2.2.2.2.1, .int .i64 r1p0.1.2.2.2.2.2.2] :: Mp (Elt.slice E8) x2.2.1 r1p0.2.1 :: Hb 82 x2.2.2.1.1 x2.2.2.1.2 x2.2.2.2 r1p0.2.2 :: Bb 5 x2.2.2.2 r1p0.2.2 :: Ro EBool A1 c1 l1 :: Ro (Elt.slice E8) A0 c0 l0 :: hs) .list (wants0 rfl) rfl (run_callF (vs := [_]) rfl Try.func8 rfl (by decide) rfl) (fun w hS => page_Open.c hS (o0 := (r1p0.1.1, r1p0.1.2.1, r1p0.1.2.2.1, r1p0.1.2.2.2.1, r1p0.1.2.2.2.2.1, r1p0.1.2.2.2.2.2.1, r1p0.1.2.2.2.2.2.2)) (q0b := r1p0.2.1) (q0c := r1p0.2.2)  hg2) (fun x3 => ?_)
   refine T.move .list rfl (wants0 rfl) rfl rfl ?_
   refine T.extract .list rfl (wants0 rfl) rfl rfl rfl ?_
   refine T.extract .list rfl (wants0 rfl) rfl rfl rfl ?_
   refine T.assign .list rfl (wants0 rfl) rfl rfl ?_
   refine T.assign .list rfl (wants0 rfl) rfl rfl ?_
   refine T.nil ?_
   refine T.then_normal ?_
   refine T.seq ?_
   refine T.seqJ (fun (s1 : Unit) (x4 : Unit) => [(0, .slice A0 l0.length c0), (1, .slice A1 l1.length c1), (2, .int .i64 (IntKind.i64.wrap ((bitsOf .and .i64 a2 15) + 6))), (9, .pointer none), (45, .bool true)]) (fun s1 x4 => Ro (Elt.slice E8) A0 c0 l0 :: Ro EBool A1 c1 l1 :: hs) (fun s1 => law4_PageBack.k1 s1 = some r) (fun s1 x4 hk1 => ?_) (fun J1 => ?_)
   ·unfold law4_PageBack.k1 at hk1
    refine T.condT rfl rfl ?_
    refine T.seq ?_
    refine T.region ?_
    refine T.assign .list rfl (wants0 rfl) rfl rfl ?_
    refine T.nil ?_
    refine T.then_normal ?_
    refine T.ret ?_
    refine T.then_ret ?_
    obtain rfl := inv_some hk1
    refine T.pick [] 2 rfl rfl (Nat.le_add_left _ _) rfl ?_
    refine T.ret1 rfl rfl (fun w hS => ⟨(), rfl, hS⟩)
   ·refine T.region ?_
    refine T.move .list rfl (wants0 rfl) rfl rfl ?_
    refine T.bin .list rfl (wants0 rfl) rfl rfl rfl rfl ?_
    refine T.move .list rfl (wants0 rfl) rfl rfl ?_
    refine T.bool (b := (decide (r2p1 = 0))) (fun hb1 => ?_) (fun hb1 => ?_)
    ·replace hr := inv_posB hb1 hr
     refine T.move .list rfl (wants1 rfl rfl rfl (not_t hb1)) rfl rfl ?_
     refine T.ptrEq (pt := 45) .list rfl (wants1 rfl rfl rfl (not_t hb1)) rfl rfl rfl (by kernel_rfl) (.inr rfl) rfl ?_
     refine T.pickF .list rfl (wants0 rfl) rfl rfl (not_t hb1) rfl ?_
     refine T.nil ?_
     refine T.then_normal ?_
     exact T.le (EnvLe.cons rfl (EnvLe.cons rfl (EnvLe.cons rfl (EnvLe.cons rfl (EnvLe.cons rfl EnvLe.nil))))) (T.pick [5, 4] 6 rfl rfl (Nat.le_add_left _ _) rfl (J1 () () hr))
    ·replace hr := inv_negB hb1 hr
     refine T.leave .list (wantsNot rfl rfl rfl (not_f hb1)) rfl ?_
     refine T.leave .list (wantsNot rfl rfl rfl (not_f hb1)) rfl ?_
     refine T.pickT .list rfl (wants0 rfl) rfl rfl (not_f hb1) rfl ?_
     refine T.nil ?_
     refine T.then_normal ?_
     exact T.le (EnvLe.cons rfl (EnvLe.cons rfl (EnvLe.cons rfl (EnvLe.cons rfl (EnvLe.cons rfl EnvLe.nil))))) (T.pick [5, 4] 6 rfl rfl (Nat.le_add_left _ _) rfl (J1 () () hr))
  ·dsimp only at hr
   refine T.pick [0, 1, 2, 3, 4, 5] 6 rfl rfl (Nat.le_add_left _ _) (hs' := Cl x2.1 68 [.int .i64 r1p0.1.1, .map (some x2.2.1), .slice x2.2.2.1.1 r1p0.2.2.length x2.2.2.1.2, .bool r1p0.1.2.1, .int .i64 r1p0.1.2.2.1, .int .i64 r1p0.1.2.2.2.1, .int .u64 r1p0.1.2.2.2.2.1, .int .i64 r1p0.1.2.2.2.2.2.1, .int .i64 r1p0.1.2.2.2.2.2.2] :: Mp (Elt.slice E8) x2.2.1 r1p0.2.1 :: Hb 82 x2.2.2.1.1 x2.2.2.1.2 x2.2.2.2 r1p0.2.2 :: Bb 5 x2.2.2.2 r1p0.2.2 :: Ro EBool A1 c1 l1 :: Ro (Elt.slice E8) A0 c0 l0 :: hs) rfl ?_
   refine T.call (v := fun (x5 : (Nat) × (Nat)) => .tuple #[.pointer (some ⟨x5.1, 0, none⟩), .int .i64 r2p1]) (hs' := fun x5 => Cl x2.1 68 [.int .i64 r1p0.1.1, .map (some x2.2.1), .slice x2.2.2.1.1 r1p0.2.2.length x2.2.2.1.2, .bool r1p0.1.2.1, .int .i64 r1p0.1.2.2.1, .int .i64 r1p0.1.2.2.2.1, .int .u64 r1p0.1.2.2.2.2.1, .int .i64 r1p0.1.2.2.2.2.2.1, .int .i64 r1p0.1.2.2.2.2.2.2] :: Mp (Elt.slice E8) x2.2.1 r1p0.2.1 :: Hb 82 x2.2.2.1.1 x2.2.2.1.2 x2.2.2.2 r1p0.2.2 :: Bb 5 x2.2.2.2 r1p0.2.2 :: Cl x5.1 45 [.int .i64 r2p0.1.1, .map (some x5.2), .pointer (some ⟨x2.1, 0, none⟩), .int .i64 r2p0.1.2.1, .int .u64 r2p0.1.2.2.1, .int .i64 r2p0.1.2.2.2] :: Mp E64 x5.2 r2p0.2 :: Ro EBool A1 c1 l1 :: Ro (Elt.slice E8) A0 c0 l0 :: hs) .list (wants0 rfl) rfl (run_callF (vs := [_]) rfl Try.func8 rfl (by decide) rfl) (fun w hS => page_Open.c hS (o0 := (r1p0.1.1, r1p0.1.2.1, r1p0.1.2.2.1, r1p0.1.2.2.2.1, r1p0.1.2.2.2.2.1, r1p0.1.2.2.2.2.2.1, r1p0.1.2.2.2.2.2.2)) (q0b := r1p0.2.1) (q0c := r1p0.2.2)  hg2) (fun x5 => ?_)
   refine T.move .list rfl (wants0 rfl) rfl rfl ?_
   refine T.extract .list rfl (wants0 rfl) rfl rfl rfl ?_
   refine T.extract .list rfl (wants0 rfl) rfl rfl rfl ?_
   refine T.assign .list rfl (wants0 rfl) rfl rfl ?_
   refine T.assign .list rfl (wants0 rfl) rfl rfl ?_
   refine T.nil ?_
   refine T.then_normal ?_
   refine T.seq ?_
   refine T.seqJ (fun (s2 : Bool) (x6 : Unit) => [(0, .slice A0 l0.length c0), (1, .slice A1 l1.length c1), (2, .int .i64 (IntKind.i64.wrap ((bitsOf .and .i64 a2 15) + 6))), (9, .pointer (some ⟨x5.1, 0, none⟩)), (45, .bool s2)]) (fun s2 x6 => Ro (Elt.slice E8) A0 c0 l0 :: Ro EBool A1 c1 l1 :: Cl x5.1 45 [.int .i64 r2p0.1.1, .map (some x5.2), .pointer (some ⟨x2.1, 0, none⟩), .int .i64 r2p0.1.2.1, .int .u64 r2p0.1.2.2.1, .int .i64 r2p0.1.2.2.2] :: Mp E64 x5.2 r2p0.2 :: Cl x2.1 68 [.int .i64 r1p0.1.1, .map (some x2.2.1), .slice x2.2.2.1.1 r1p0.2.2.length x2.2.2.1.2, .bool r1p0.1.2.1, .int .i64 r1p0.1.2.2.1, .int .i64 r1p0.1.2.2.2.1, .int .u64 r1p0.1.2.2.2.2.1, .int .i64 r1p0.1.2.2.2.2.2.1, .int .i64 r1p0.1.2.2.2.2.2.2] :: Mp (Elt.slice E8) x2.2.1 r1p0.2.1 :: Hb 82 x2.2.2.1.1 x2.2.2.1.2 x2.2.2.2 r1p0.2.2 :: Bb 5 x2.2.2.2 r1p0.2.2 :: hs) (fun s2 => law4_PageBack.k2 l0 r2p0 a2 r1p0 l1 s2 = some r) (fun s2 x6 hk2 => ?_) (fun J2 => ?_)
   ·unfold law4_PageBack.k2 at hk2
    refine T.cond rfl (fun hb2 => ?_) (fun hb2 => ?_)
    ·replace hk2 := inv_posB hb2 hk2
     refine T.seq ?_
     refine T.region ?_
     refine T.assign .list rfl (wants0 rfl) rfl rfl ?_
     refine T.nil ?_
     refine T.then_normal ?_
     refine T.ret ?_
     refine T.then_ret ?_
     obtain rfl := inv_some hk2
     refine T.pick [] 8 rfl rfl (Nat.le_add_left _ _) rfl ?_
     refine T.ret1 rfl rfl (fun w hS => ⟨(), rfl, hS⟩)
    ·replace hk2 := inv_negB hb2 hk2
     refine T.skip ?_
     refine T.then_normal ?_
     refine T.seq ?_
     refine T.region ?_
     refine T.assign .list rfl (wants0 rfl) rfl rfl ?_
     refine T.nil ?_
     refine T.then_normal ?_
     refine T.seq ?_
     refine T.region ?_
     refine T.assign .list rfl (wants0 rfl) rfl rfl ?_
     refine T.nil ?_
     refine T.then_normal ?_
     refine T.seqJ (fun (s3 : (List (Int × Int)) × Int × (List (Int × (List UInt8))) × (List (Int × List UInt8)) × Bool × Int × Int × Int × Int × Int × List Int × List (List UInt8)) (x7 : (Option Addr × Nat) × (Ads) × (Option Addr × Nat) × (Option Addr × Nat)) => [(1, .slice A1 l1.length c1), (2, .int .i64 (IntKind.i64.wrap ((bitsOf .and .i64 a2 15) + 6))), (9, .pointer (some ⟨x5.1, 0, none⟩)), (11, .slice x7.2.2.1.1 s3.2.2.2.2.2.2.2.2.2.2.1.length x7.2.2.1.2), (12, .slice x7.2.2.2.1 s3.2.2.2.2.2.2.2.2.2.2.2.length x7.2.2.2.2)]) (fun s3 x7 => Ro EBool A1 c1 l1 :: Cl x5.1 45 [.int .i64 r2p0.1.1, .map (some x5.2), .pointer (some ⟨x2.1, 0, none⟩), .int .i64 r2p0.1.2.1, .int .u64 r2p0.1.2.2.1, .int .i64 r2p0.1.2.2.2] :: Mp E64 x5.2 s3.1 :: Cl x2.1 68 [.int .i64 s3.2.1, .map (some x2.2.1), .slice x7.1.1 s3.2.2.2.1.length x7.1.2, .bool s3.2.2.2.2.1, .int .i64 s3.2.2.2.2.2.1, .int .i64 s3.2.2.2.2.2.2.1, .int .u64 s3.2.2.2.2.2.2.2.1, .int .i64 s3.2.2.2.2.2.2.2.2.1, .int .i64 s3.2.2.2.2.2.2.2.2.2.1] :: Mp (Elt.slice E8) x2.2.1 s3.2.2.1 :: Hb 82 x7.1.1 x7.1.2 x7.2.1 s3.2.2.2.1 :: Bb 5 x7.2.1 s3.2.2.2.1 :: Bf E64 3 x7.2.2.1.1 x7.2.2.1.2 s3.2.2.2.2.2.2.2.2.2.2.1 :: Bf EStr 9 x7.2.2.2.1 x7.2.2.2.2 s3.2.2.2.2.2.2.2.2.2.2.2 :: hs) (fun s3 => law4_PageBack.k3 r2p0 l1 a2 s3 = some r) (fun s3 x7 hk3 => ?_) (fun J3 => ?_)
     ·unfold law4_PageBack.k3 at hk3
      refine T.seq ?_
      refine T.seq ?_
      refine T.region ?_
      refine T.move .list rfl (wants0 rfl) rfl rfl ?_
      refine T.pick [1, 2, 3, 4, 5, 6, 0, 7, 8] 9 rfl rfl (Nat.le_add_left _ _) (hs' := Cl x5.1 45 [.int .i64 r2p0.1.1, .map (some x5.2), .pointer (some ⟨x2.1, 0, none⟩), .int .i64 r2p0.1.2.1, .int .u64 r2p0.1.2.2.1, .int .i64 r2p0.1.2.2.2] :: Mp E64 x5.2 s3.1 :: Cl x2.1 68 [.int .i64 s3.2.1, .map (some x2.2.1), .slice x7.1.1 s3.2.2.2.1.length x7.1.2, .bool s3.2.2.2.2.1, .int .i64 s3.2.2.2.2.2.1, .int .i64 s3.2.2.2.2.2.2.1, .int .u64 s3.2.2.2.2.2.2.2.1, .int .i64 s3.2.2.2.2.2.2.2.2.1, .int .i64 s3.2.2.2.2.2.2.2.2.2.1] :: Mp (Elt.slice E8) x2.2.1 s3.2.2.1 :: Hb 82 x7.1.1 x7.1.2 x7.2.1 s3.2.2.2.1 :: Bb 5 x7.2.1 s3.2.2.2.1 :: Ro EBool A1 c1 l1 :: Bf E64 3 x7.2.2.1.1 x7.2.2.1.2 s3.2.2.2.2.2.2.2.2.2.2.1 :: Bf EStr 9 x7.2.2.2.1 x7.2.2.2.2 s3.2.2.2.2.2.2.2.2.2.2.2 :: hs) rfl ?_
      obtain ⟨r3, hg3, hk3⟩ := inv_bind hk3
      refine T.call .list (wants0 rfl) rfl (run_callF (vs := [_, _]) rfl Try.func10 rfl (by decide) rfl) (fun w hS => page_Store_Commit.c hS (o0 := (r2p0.1.1, r2p0.1.2.1, r2p0.1.2.2.1, r2p0.1.2.2.2)) (q0b := s3.1) (o0c := (s3.2.1, s3.2.2.2.2.1, s3.2.2.2.2.2.1, s3.2.2.2.2.2.2.1, s3.2.2.2.2.2.2.2.1, s3.2.2.2.2.2.2.2.2.1, s3.2.2.2.2.2.2.2.2.2.1)) (q0cb := s3.2.2.1) (q0cc := s3.2.2.2.1)  hg3) (fun x8 => ?_)
      refine T.bin .list rfl (wants0 rfl) rfl rfl rfl rfl ?_
      refine T.nil ?_
      refine T.then_normal ?_
      refine T.cond rfl (fun hb3 => ?_) (fun hb3 => ?_)
      ·replace hk3 := inv_posB hb3 hk3
       refine T.seq ?_
       refine T.region ?_
       refine T.assign .list rfl (wants0 rfl) rfl rfl ?_
       refine T.nil ?_
       refine T.then_normal ?_
       refine T.ret ?_
       refine T.then_ret ?_
       obtain rfl := inv_some hk3
       refine T.pick [] 9 rfl rfl (Nat.le_add_left _ _) rfl ?_
       refine T.ret1 rfl rfl (fun w hS => ⟨(), rfl, hS⟩)
      ·replace hk3 := inv_negB hb3 hk3
       refine T.skip ?_
       refine T.then_normal ?_
       refine T.seq ?_
       refine T.region ?_
       refine T.assign .list rfl (wants0 rfl) rfl rfl ?_
       refine T.nil ?_
       refine T.then_normal ?_
       refine T.seqJ (fun (s4 : (List (Int × Int)) × Int) (x9 : Unit) => [(2, .int .i64 (IntKind.i64.wrap ((bitsOf .and .i64 a2 15) + 6))), (9, .pointer (some ⟨x5.1, 0, none⟩)), (11, .slice x7.2.2.1.1 s3.2.2.2.2.2.2.2.2.2.2.1.length x7.2.2.1.2), (12, .slice x7.2.2.2.1 s3.2.2.2.2.2.2.2.2.2.2.2.length x7.2.2.2.2), (17, .int .i64 s4.2)]) (fun s4 x9 => Cl x5.1 45 [.int .i64 r3.2.1.1, .map (some x5.2), .pointer (some ⟨x2.1, 0, none⟩), .int .i64 r3.2.1.2.1, .int .u64 r3.2.1.2.2.1, .int .i64 r3.2.1.2.2.2] :: Mp E64 x5.2 s4.1 :: Cl x2.1 68 [.int .i64 r3.2.2.2.1.1, .map (some x2.2.1), .slice x8.1.1 r3.2.2.2.2.2.length x8.1.2, .bool r3.2.2.2.1.2.1, .int .i64 r3.2.2.2.1.2.2.1, .int .i64 r3.2.2.2.1.2.2.2.1, .int .u64 r3.2.2.2.1.2.2.2.2.1, .int .i64 r3.2.2.2.1.2.2.2.2.2.1, .int .i64 r3.2.2.2.1.2.2.2.2.2.2] :: Mp (Elt.slice E8) x2.2.1 r3.2.2.2.2.1 :: Hb 82 x8.1.1 x8.1.2 x8.2 r3.2.2.2.2.2 :: Bb 5 x8.2 r3.2.2.2.2.2 :: Bf E64 3 x7.2.2.1.1 x7.2.2.1.2 s3.2.2.2.2.2.2.2.2.2.2.1 :: Bf EStr 9 x7.2.2.2.1 x7.2.2.2.2 s3.2.2.2.2.2.2.2.2.2.2.2 :: hs) (fun s4 => law4_PageBack.k4 r3 a2 s3 s4 = some r) (fun s4 x9 hk4 => ?_) (fun J4 => ?_)
       ·unfold law4_PageBack.k4 at hk4
        refine T.seq ?_
        refine T.region ?_
        refine T.assign .list rfl (wants0 rfl) rfl rfl ?_
        refine T.nil ?_
        refine T.then_normal ?_
        refine T.seqJ (fun (s5 : (List (Int × Int)) × Int × (List (Int × (List UInt8))) × (List (Int × List UInt8)) × Bool × Int × Int × Int × Int × Int × Int) (x10 : (Option Addr × Nat) × (Ads)) => [(2, .int .i64 (IntKind.i64.wrap ((bitsOf .and .i64 a2 15) + 6))), (9, .pointer (some ⟨x5.1, 0, none⟩)), (11, .slice x7.2.2.1.1 s3.2.2.2.2.2.2.2.2.2.2.1.length x7.2.2.1.2), (12, .slice x7.2.2.2.1 s3.2.2.2.2.2.2.2.2.2.2.2.length x7.2.2.2.2), (17, .int .i64 s4.2), (19, .int .i64 s5.2.2.2.2.2.2.2.2.2.2)]) (fun s5 x10 => Cl x5.1 45 [.int .i64 r3.2.1.1, .map (some x5.2), .pointer (some ⟨x2.1, 0, none⟩), .int .i64 r3.2.1.2.1, .int .u64 r3.2.1.2.2.1, .int .i64 r3.2.1.2.2.2] :: Mp E64 x5.2 s5.1 :: Cl x2.1 68 [.int .i64 s5.2.1, .map (some x2.2.1), .slice x10.1.1 s5.2.2.2.1.length x10.1.2, .bool s5.2.2.2.2.1, .int .i64 s5.2.2.2.2.2.1, .int .i64 s5.2.2.2.2.2.2.1, .int .u64 s5.2.2.2.2.2.2.2.1, .int .i64 s5.2.2.2.2.2.2.2.2.1, .int .i64 s5.2.2.2.2.2.2.2.2.2.1] :: Mp (Elt.slice E8) x2.2.1 s5.2.2.1 :: Hb 82 x10.1.1 x10.1.2 x10.2 s5.2.2.2.1 :: Bb 5 x10.2 s5.2.2.2.1 :: Bf E64 3 x7.2.2.1.1 x7.2.2.1.2 s3.2.2.2.2.2.2.2.2.2.2.1 :: Bf EStr 9 x7.2.2.2.1 x7.2.2.2.2 s3.2.2.2.2.2.2.2.2.2.2.2 :: hs) (fun s5 => law4_PageBack.k5 a2 s3 r3 s4 s5 = some r) (fun s5 x10 hk5 => ?_) (fun J5 => ?_)
        ·unfold law4_PageBack.k5 at hk5
         refine T.seq ?_
         refine T.seqJ (fun (s6 : Bool) (x11 : Unit) => [(9, .pointer (some ⟨x5.1, 0, none⟩)), (11, .slice x7.2.2.1.1 s3.2.2.2.2.2.2.2.2.2.2.1.length x7.2.2.1.2), (12, .slice x7.2.2.2.1 s3.2.2.2.2.2.2.2.2.2.2.2.length x7.2.2.2.2), (17, .int .i64 s4.2), (156, .bool s6)]) (fun s6 x11 => Cl x5.1 45 [.int .i64 r3.2.1.1, .map (some x5.2), .pointer (some ⟨x2.1, 0, none⟩), .int .i64 r3.2.1.2.1, .int .u64 r3.2.1.2.2.1, .int .i64 r3.2.1.2.2.2] :: Mp E64 x5.2 s5.1 :: Cl x2.1 68 [.int .i64 s5.2.1, .map (some x2.2.1), .slice x10.1.1 s5.2.2.2.1.length x10.1.2, .bool s5.2.2.2.2.1, .int .i64 s5.2.2.2.2.2.1, .int .i64 s5.2.2.2.2.2.2.1, .int .u64 s5.2.2.2.2.2.2.2.1, .int .i64 s5.2.2.2.2.2.2.2.2.1, .int .i64 s5.2.2.2.2.2.2.2.2.2.1] :: Mp (Elt.slice E8) x2.2.1 s5.2.2.1 :: Hb 82 x10.1.1 x10.1.2 x10.2 s5.2.2.2.1 :: Bb 5 x10.2 s5.2.2.2.1 :: Bf E64 3 x7.2.2.1.1 x7.2.2.1.2 s3.2.2.2.2.2.2.2.2.2.2.1 :: Bf EStr 9 x7.2.2.2.1 x7.2.2.2.2 s3.2.2.2.2.2.2.2.2.2.2.2 :: hs) (fun s6 => law4_PageBack.k6 s3 r3 s5 s4 s6 = some r) (fun s6 x11 hk6 => ?_) (fun J6 => ?_)
         ·unfold law4_PageBack.k6 at hk6
          refine T.cond rfl (fun hb4 => ?_) (fun hb4 => ?_)
          ·replace hk6 := inv_posB hb4 hk6
           refine T.seq ?_
           refine T.region ?_
           refine T.assign .list rfl (wants0 rfl) rfl rfl ?_
           refine T.nil ?_
           refine T.then_normal ?_
           refine T.ret ?_
           refine T.then_ret ?_
           obtain rfl := inv_some hk6
           refine T.pick [] 8 rfl rfl (Nat.le_add_left _ _) rfl ?_
           refine T.ret1 rfl rfl (fun w hS => ⟨(), rfl, hS⟩)
          ·replace hk6 := inv_negB hb4 hk6
           refine T.skip ?_
           refine T.then_normal ?_
           refine T.seqJ (fun (s7 : Unit) (x12 : Unit) => [(9, .pointer (some ⟨x5.1, 0, none⟩)), (17, .int .i64 s4.2)]) (fun s7 x12 => Cl x5.1 45 [.int .i64 r3.2.1.1, .map (some x5.2), .pointer (some ⟨x2.1, 0, none⟩), .int .i64 r3.2.1.2.1, .int .u64 r3.2.1.2.2.1, .int .i64 r3.2.1.2.2.2] :: Mp E64 x5.2 s5.1 :: Cl x2.1 68 [.int .i64 s5.2.1, .map (some x2.2.1), .slice x10.1.1 s5.2.2.2.1.length x10.1.2, .bool s5.2.2.2.2.1, .int .i64 s5.2.2.2.2.2.1, .int .i64 s5.2.2.2.2.2.2.1, .int .u64 s5.2.2.2.2.2.2.2.1, .int .i64 s5.2.2.2.2.2.2.2.2.1, .int .i64 s5.2.2.2.2.2.2.2.2.2.1] :: Mp (Elt.slice E8) x2.2.1 s5.2.2.1 :: Hb 82 x10.1.1 x10.1.2 x10.2 s5.2.2.2.1 :: Bb 5 x10.2 s5.2.2.2.1 :: hs) (fun s7 => law4_PageBack.k7 r3 s5 s4 s7 = some r) (fun s7 x12 hk7 => ?_) (fun J7 => ?_)
           ·unfold law4_PageBack.k7 at hk7
            refine T.seq ?_
            refine T.region ?_
            obtain ⟨r4, hg4, hk7⟩ := inv_bind hk7
            refine T.call .list (wants0 rfl) rfl (run_callF (vs := []) rfl Try.func14 rfl (by decide) rfl) (fun w hS => law4_told.c hS  hg4) (fun x13 => ?_)
            refine T.move .list rfl (wants0 rfl) rfl rfl ?_
            refine T.bool (b := r4) (fun hb5 => ?_) (fun hb5 => ?_)
            ·replace hk7 := inv_posB hb5 hk7
             refine T.move .list rfl (wants1 rfl rfl rfl hb5) rfl rfl ?_
             refine T.pick [0, 1, 2, 3, 4, 5] 6 rfl rfl (Nat.le_add_left _ _) (hs' := Cl x5.1 45 [.int .i64 r3.2.1.1, .map (some x5.2), .pointer (some ⟨x2.1, 0, none⟩), .int .i64 r3.2.1.2.1, .int .u64 r3.2.1.2.2.1, .int .i64 r3.2.1.2.2.2] :: Mp E64 x5.2 s5.1 :: Cl x2.1 68 [.int .i64 s5.2.1, .map (some x2.2.1), .slice x10.1.1 s5.2.2.2.1.length x10.1.2, .bool s5.2.2.2.2.1, .int .i64 s5.2.2.2.2.2.1, .int .i64 s5.2.2.2.2.2.2.1, .int .u64 s5.2.2.2.2.2.2.2.1, .int .i64 s5.2.2.2.2.2.2.2.2.1, .int .i64 s5.2.2.2.2.2.2.2.2.2.1] :: Mp (Elt.slice E8) x2.2.1 s5.2.2.1 :: Hb 82 x10.1.1 x10.1.2 x10.2 s5.2.2.2.1 :: Bb 5 x10.2 s5.2.2.2.1 :: hs) rfl ?_
             obtain ⟨r5, hg5, hk7⟩ := inv_bind hk7
             refine T.call .list (wants1 rfl rfl rfl hb5) rfl (run_callF (vs := [_, _]) rfl Try.func10 rfl (by decide) rfl) (fun w hS => page_Store_Commit.c hS (o0 := (r3.2.1.1, r3.2.1.2.1, r3.2.1.2.2.1, r3.2.1.2.2.2)) (q0b := s5.1) (o0c := (s5.2.1, s5.2.2.2.2.1, s5.2.2.2.2.2.1, s5.2.2.2.2.2.2.1, s5.2.2.2.2.2.2.2.1, s5.2.2.2.2.2.2.2.2.1, s5.2.2.2.2.2.2.2.2.2.1)) (q0cb := s5.2.2.1) (q0cc := s5.2.2.2.1)  hg5) (fun x14 => ?_)
             refine T.bin .list rfl (wants1 rfl rfl rfl hb5) rfl rfl rfl rfl ?_
             refine T.pickT .list rfl (wants0 rfl) rfl rfl hb5 rfl ?_
             refine T.move .list rfl (wants0 rfl) rfl rfl ?_
             refine T.bool (b := (decide (r5.1 = 0))) (fun hb6 => ?_) (fun hb6 => ?_)
             ·replace hk7 := inv_posB hb6 hk7
              refine T.move .list rfl (wants1 rfl rfl rfl hb6) rfl rfl ?_
              refine T.nilCheck .list rfl (wants1 rfl rfl rfl hb6) rfl rfl ?_
              refine T.field .list rfl (wants1 rfl rfl rfl hb6) rfl rfl ?_
              refine T.pick [0, 1, 2, 3, 4, 5] 6 rfl rfl (Nat.le_add_left _ _) (hs' := Cl x5.1 45 [.int .i64 r5.2.1.1, .map (some x5.2), .pointer (some ⟨x2.1, 0, none⟩), .int .i64 r5.2.1.2.1, .int .u64 r5.2.1.2.2.1, .int .i64 r5.2.1.2.2.2] :: Mp E64 x5.2 r5.2.2.1 :: Cl x2.1 68 [.int .i64 r5.2.2.2.1.1, .map (some x2.2.1), .slice x14.1.1 r5.2.2.2.2.2.length x14.1.2, .bool r5.2.2.2.1.2.1, .int .i64 r5.2.2.2.1.2.2.1, .int .i64 r5.2.2.2.1.2.2.2.1, .int .u64 r5.2.2.2.1.2.2.2.2.1, .int .i64 r5.2.2.2.1.2.2.2.2.2.1, .int .i64 r5.2.2.2.1.2.2.2.2.2.2] :: Mp (Elt.slice E8) x2.2.1 r5.2.2.2.2.1 :: Hb 82 x14.1.1 x14.1.2 x14.2 r5.2.2.2.2.2 :: Bb 5 x14.2 r5.2.2.2.2.2 :: hs) rfl ?_
              obtain ⟨r6, hg6, hk7⟩ := inv_bind hk7
              refine T.call .list (wants1 rfl rfl rfl hb6) rfl (run_callF (vs := [_]) rfl Try.func12 rfl (by decide) rfl) (fun w hS => page_counts_Left.c hS (T0 := 45) (rest0 := [.pointer (some ⟨x2.1, 0, none⟩), .int .i64 r5.2.1.2.1, .int .u64 r5.2.1.2.2.1, .int .i64 r5.2.1.2.2.2]) (o0 := r5.2.1.1) (q0b := r5.2.2.1)  hg6) (fun x15 => ?_)
              refine T.move .list rfl (wants1 rfl rfl rfl hb6) rfl rfl ?_
              refine T.bin .list rfl (wants1 rfl rfl rfl hb6) rfl rfl rfl rfl ?_
              refine T.pickT .list rfl (wants0 rfl) rfl rfl hb6 rfl ?_
              refine T.move .list rfl (wants0 rfl) rfl rfl ?_
              refine T.bool (b := (decide (r6 = s4.2))) (fun hb7 => ?_) (fun hb7 => ?_)
              ·replace hk7 := inv_posB hb7 hk7
               refine T.move .list rfl (wants1 rfl rfl rfl hb7) rfl rfl ?_
               refine T.pick [0, 1, 2, 3, 4, 5] 6 rfl rfl (Nat.le_add_left _ _) (hs' := Cl x5.1 45 [.int .i64 r5.2.1.1, .map (some x5.2), .pointer (some ⟨x2.1, 0, none⟩), .int .i64 r5.2.1.2.1, .int .u64 r5.2.1.2.2.1, .int .i64 r5.2.1.2.2.2] :: Mp E64 x5.2 r5.2.2.1 :: Cl x2.1 68 [.int .i64 r5.2.2.2.1.1, .map (some x2.2.1), .slice x14.1.1 r5.2.2.2.2.2.length x14.1.2, .bool r5.2.2.2.1.2.1, .int .i64 r5.2.2.2.1.2.2.1, .int .i64 r5.2.2.2.1.2.2.2.1, .int .u64 r5.2.2.2.1.2.2.2.2.1, .int .i64 r5.2.2.2.1.2.2.2.2.2.1, .int .i64 r5.2.2.2.1.2.2.2.2.2.2] :: Mp (Elt.slice E8) x2.2.1 r5.2.2.2.2.1 :: Hb 82 x14.1.1 x14.1.2 x14.2 r5.2.2.2.2.2 :: Bb 5 x14.2 r5.2.2.2.2.2 :: hs) rfl ?_
               obtain ⟨r7, hg7, hk7⟩ := inv_bind hk7
               refine T.call .list (wants1 rfl rfl rfl hb7) rfl (run_callF (vs := [_]) rfl Try.func15 rfl (by decide) rfl) (fun w hS => page_Store_Number.c hS (o0 := (r5.2.1.1, r5.2.1.2.1, r5.2.1.2.2.1, r5.2.1.2.2.2)) (q0b := r5.2.2.1) (o0c := (r5.2.2.2.1.1, r5.2.2.2.1.2.1, r5.2.2.2.1.2.2.1, r5.2.2.2.1.2.2.2.1, r5.2.2.2.1.2.2.2.2.1, r5.2.2.2.1.2.2.2.2.2.1, r5.2.2.2.1.2.2.2.2.2.2)) (q0cb := r5.2.2.2.2.1) (q0cc := r5.2.2.2.2.2)  hg7) (fun x16 => ?_)
               refine T.bin .list rfl (wants1 rfl rfl rfl hb7) rfl rfl rfl rfl ?_
               refine T.pickT .list rfl (wants0 rfl) rfl rfl hb7 rfl ?_
               refine T.assign .list rfl (wants0 rfl) rfl rfl ?_
               refine T.nil ?_
               refine T.then_normal ?_
               refine T.ret ?_
               obtain rfl := inv_some hk7
               refine T.pick [] 6 rfl rfl (Nat.le_add_left _ _) rfl ?_
               refine T.ret1 rfl rfl (fun w hS => ⟨(), rfl, hS⟩)
              ·replace hk7 := inv_negB hb7 hk7
               refine T.leave .list (wantsNot rfl rfl rfl hb7) rfl ?_
               refine T.leave .list (wantsNot rfl rfl rfl hb7) rfl ?_
               refine T.leave .list (wantsNot rfl rfl rfl hb7) rfl ?_
               refine T.pickF .list rfl (wants0 rfl) rfl rfl hb7 rfl ?_
               refine T.assign .list rfl (wants0 rfl) rfl rfl ?_
               refine T.nil ?_
               refine T.then_normal ?_
               refine T.ret ?_
               obtain rfl := inv_some hk7
               refine T.pick [] 6 rfl rfl (Nat.le_add_left _ _) rfl ?_
               refine T.ret1 rfl rfl (fun w hS => ⟨(), rfl, hS⟩)
             ·replace hk7 := inv_negB hb6 hk7
              refine T.leave .list (wantsNot rfl rfl rfl hb6) rfl ?_
              refine T.leave .list (wantsNot rfl rfl rfl hb6) rfl ?_
              refine T.leave .list (wantsNot rfl rfl rfl hb6) rfl ?_
              refine T.leave .list (wantsNot rfl rfl rfl hb6) rfl ?_
              refine T.leave .list (wantsNot rfl rfl rfl hb6) rfl ?_
              refine T.leave .list (wantsNot rfl rfl rfl hb6) rfl ?_
              refine T.pickF .list rfl (wants0 rfl) rfl rfl hb6 rfl ?_
              refine T.move .list rfl (wants0 rfl) rfl rfl ?_
              refine T.leave .list (wantsNot rfl rfl rfl rfl) rfl ?_
              refine T.leave .list (wantsNot rfl rfl rfl rfl) rfl ?_
              refine T.leave .list (wantsNot rfl rfl rfl rfl) rfl ?_
              refine T.pickF .list rfl (wants0 rfl) rfl rfl rfl rfl ?_
              refine T.assign .list rfl (wants0 rfl) rfl rfl ?_
              refine T.nil ?_
              refine T.then_normal ?_
              refine T.ret ?_
              obtain rfl := inv_some hk7
              refine T.pick [] 6 rfl rfl (Nat.le_add_left _ _) rfl ?_
              refine T.ret1 rfl rfl (fun w hS => ⟨(), rfl, hS⟩)
            ·replace hk7 := inv_negB hb5 hk7
             refine T.leave .list (wantsNot rfl rfl rfl hb5) rfl ?_
             refine T.leave .list (wantsNot rfl rfl rfl hb5) rfl ?_
             refine T.leave .list (wantsNot rfl rfl rfl hb5) rfl ?_
             refine T.pickF .list rfl (wants0 rfl) rfl rfl hb5 rfl ?_
             refine T.move .list rfl (wants0 rfl) rfl rfl ?_
             refine T.leave .list (wantsNot rfl rfl rfl rfl) rfl ?_
             refine T.leave .list (wantsNot rfl rfl rfl rfl) rfl ?_
             refine T.leave .list (wantsNot rfl rfl rfl rfl) rfl ?_
             refine T.leave .list (wantsNot rfl rfl rfl rfl) rfl ?_
             refine T.leave .list (wantsNot rfl rfl rfl rfl) rfl ?_
             refine T.leave .list (wantsNot rfl rfl rfl rfl) rfl ?_
             refine T.pickF .list rfl (wants0 rfl) rfl rfl rfl rfl ?_
             refine T.move .list rfl (wants0 rfl) rfl rfl ?_
             refine T.leave .list (wantsNot rfl rfl rfl rfl) rfl ?_
             refine T.leave .list (wantsNot rfl rfl rfl rfl) rfl ?_
             refine T.leave .list (wantsNot rfl rfl rfl rfl) rfl ?_
             refine T.pickF .list rfl (wants0 rfl) rfl rfl rfl rfl ?_
             refine T.assign .list rfl (wants0 rfl) rfl rfl ?_
             refine T.nil ?_
             refine T.then_normal ?_
             refine T.ret ?_
             obtain rfl := inv_some hk7
             refine T.pick [] 6 rfl rfl (Nat.le_add_left _ _) rfl ?_
             refine T.ret1 rfl rfl (fun w hS => ⟨(), rfl, hS⟩)
           ·refine T.seq ?_
            refine T.region ?_
            refine T.assign .list rfl (wants0 rfl) rfl rfl ?_
            refine T.nil ?_
            refine T.then_normal ?_
            refine T.block ?_
            obtain ⟨e1, hl1, hk6⟩ := inv_bind hk6
            refine T.le (EnvLe.cons rfl (EnvLe.cons rfl (EnvLe.cons rfl (EnvLe.cons rfl (EnvLe.cons rfl EnvLe.nil))))) (T.pick [0, 1, 2, 3, 4, 5, 6, 7] 8 rfl rfl (Nat.le_add_left _ _) rfl (T.loop (s0 := 0) (env := fun s8 x17 => [(9, .pointer (some ⟨x5.1, 0, none⟩)), (11, .slice x7.2.2.1.1 s3.2.2.2.2.2.2.2.2.2.2.1.length x7.2.2.1.2), (12, .slice x7.2.2.2.1 s3.2.2.2.2.2.2.2.2.2.2.2.length x7.2.2.2.2), (17, .int .i64 s4.2), (22, .int .i64 s8)]) (hs := fun (s8 : Int) (x17 : Unit) => Cl x5.1 45 [.int .i64 r3.2.1.1, .map (some x5.2), .pointer (some ⟨x2.1, 0, none⟩), .int .i64 r3.2.1.2.1, .int .u64 r3.2.1.2.2.1, .int .i64 r3.2.1.2.2.2] :: Mp E64 x5.2 s5.1 :: Cl x2.1 68 [.int .i64 s5.2.1, .map (some x2.2.1), .slice x10.1.1 s5.2.2.2.1.length x10.1.2, .bool s5.2.2.2.2.1, .int .i64 s5.2.2.2.2.2.1, .int .i64 s5.2.2.2.2.2.2.1, .int .u64 s5.2.2.2.2.2.2.2.1, .int .i64 s5.2.2.2.2.2.2.2.2.1, .int .i64 s5.2.2.2.2.2.2.2.2.2.1] :: Mp (Elt.slice E8) x2.2.1 s5.2.2.1 :: Hb 82 x10.1.1 x10.1.2 x10.2 s5.2.2.2.1 :: Bb 5 x10.2 s5.2.2.2.1 :: Bf E64 3 x7.2.2.1.1 x7.2.2.1.2 s3.2.2.2.2.2.2.2.2.2.2.1 :: Bf EStr 9 x7.2.2.2.1 x7.2.2.2.2 s3.2.2.2.2.2.2.2.2.2.2.2 :: hs) hl1 () (fun K1 s8 x17 o1 he1 hm1 hx1 => ?_)))
            unfold law4_PageBack.st1 at he1
            refine T.seq ?_
            refine T.seq ?_
            refine T.region ?_
            refine T.move .list rfl (wants0 rfl) rfl rfl ?_
            refine T.move .list rfl (wants0 rfl) rfl rfl ?_
            refine T.lenSlice .list rfl (wants0 rfl) rfl rfl ?_
            refine T.bin .list rfl (wants0 rfl) rfl rfl rfl rfl ?_
            refine T.nil ?_
            refine T.then_normal ?_
            refine T.cond rfl (fun hb8 => ?_) (fun hb8 => ?_)
            ·replace he1 := inv_posB hb8 he1
             refine T.skip ?_
             refine T.then_normal ?_
             refine T.seq ?_
             refine T.block ?_
             refine T.seq ?_
             refine T.region ?_
             refine T.move .list rfl (wants0 rfl) rfl rfl ?_
             refine T.move .list rfl (wants0 rfl) rfl rfl ?_
             refine T.move .list rfl (wants0 rfl) rfl rfl ?_
             obtain ⟨hc1, he1⟩ := inv_chk he1
             refine T.idxBf .list 6 rfl rfl (wants0 rfl) rfl rfl rfl hc1.1 hc1.2 (Nat.le_refl _) ?_
             refine T.ldBf1 .list 6 rfl rfl (wants0 rfl) rfl rfl hc1.1 hc1.2 ?_
             refine T.pick [0, 1, 2, 3, 4, 5, 6, 7] 8 rfl rfl (Nat.le_add_left _ _) (hs' := Cl x5.1 45 [.int .i64 r3.2.1.1, .map (some x5.2), .pointer (some ⟨x2.1, 0, none⟩), .int .i64 r3.2.1.2.1, .int .u64 r3.2.1.2.2.1, .int .i64 r3.2.1.2.2.2] :: Mp E64 x5.2 s5.1 :: Cl x2.1 68 [.int .i64 s5.2.1, .map (some x2.2.1), .slice x10.1.1 s5.2.2.2.1.length x10.1.2, .bool s5.2.2.2.2.1, .int .i64 s5.2.2.2.2.2.1, .int .i64 s5.2.2.2.2.2.2.1, .int .u64 s5.2.2.2.2.2.2.2.1, .int .i64 s5.2.2.2.2.2.2.2.2.1, .int .i64 s5.2.2.2.2.2.2.2.2.2.1] :: Mp (Elt.slice E8) x2.2.1 s5.2.2.1 :: Hb 82 x10.1.1 x10.1.2 x10.2 s5.2.2.2.1 :: Bb 5 x10.2 s5.2.2.2.1 :: Bf E64 3 x7.2.2.1.1 x7.2.2.1.2 s3.2.2.2.2.2.2.2.2.2.2.1 :: Bf EStr 9 x7.2.2.2.1 x7.2.2.2.2 s3.2.2.2.2.2.2.2.2.2.2.2 :: hs) rfl ?_
             obtain ⟨r8, hg8, he1⟩ := inv_bind he1
             refine T.call .list (wants0 rfl) rfl (run_callF (vs := [_, _]) rfl Try.func13 rfl (by decide) rfl) (fun w hS => page_Store_Get.c hS (o0 := (r3.2.1.1, r3.2.1.2.1, r3.2.1.2.2.1, r3.2.1.2.2.2)) (q0b := s5.1) (o0c := (s5.2.1, s5.2.2.2.2.1, s5.2.2.2.2.2.1, s5.2.2.2.2.2.2.1, s5.2.2.2.2.2.2.2.1, s5.2.2.2.2.2.2.2.2.1, s5.2.2.2.2.2.2.2.2.2.1)) (q0cb := s5.2.2.1) (q0cc := s5.2.2.2.1)  hg8) (fun x18 => ?_)
             refine T.move .list rfl (wants0 rfl) rfl rfl ?_
             refine T.extract .list rfl (wants0 rfl) rfl rfl rfl ?_
             refine T.extract .list rfl (wants0 rfl) rfl rfl rfl ?_
             refine T.assign .list rfl (wants0 rfl) rfl rfl ?_
             refine T.assign .list rfl (wants0 rfl) rfl rfl ?_
             refine T.nil ?_
             refine T.then_normal ?_
             refine T.seqJ (fun (s9 : Bool) (x19 : Unit) => [(9, .pointer (some ⟨x5.1, 0, none⟩)), (11, .slice x7.2.2.1.1 s3.2.2.2.2.2.2.2.2.2.2.1.length x7.2.2.1.2), (12, .slice x7.2.2.2.1 s3.2.2.2.2.2.2.2.2.2.2.2.length x7.2.2.2.2), (17, .int .i64 s4.2), (22, .int .i64 s8), (182, .bool s9)]) (fun s9 x19 => Cl x5.1 45 [.int .i64 r3.2.1.1, .map (some x5.2), .pointer (some ⟨x2.1, 0, none⟩), .int .i64 r3.2.1.2.1, .int .u64 r3.2.1.2.2.1, .int .i64 r3.2.1.2.2.2] :: Mp E64 x5.2 s5.1 :: Cl x2.1 68 [.int .i64 s5.2.1, .map (some x2.2.1), .slice x10.1.1 s5.2.2.2.1.length x10.1.2, .bool s5.2.2.2.2.1, .int .i64 s5.2.2.2.2.2.1, .int .i64 s5.2.2.2.2.2.2.1, .int .u64 s5.2.2.2.2.2.2.2.1, .int .i64 s5.2.2.2.2.2.2.2.2.1, .int .i64 s5.2.2.2.2.2.2.2.2.2.1] :: Mp (Elt.slice E8) x2.2.1 s5.2.2.1 :: Hb 82 x10.1.1 x10.1.2 x10.2 s5.2.2.2.1 :: Bb 5 x10.2 s5.2.2.2.1 :: Bf E64 3 x7.2.2.1.1 x7.2.2.1.2 s3.2.2.2.2.2.2.2.2.2.2.1 :: Bf EStr 9 x7.2.2.2.1 x7.2.2.2.2 s3.2.2.2.2.2.2.2.2.2.2.2 :: hs) (fun s9 => law4_PageBack.k8 s8 s9 = some o1) (fun s9 x19 hk8 => ?_) (fun J8 => ?_)
             ·unfold law4_PageBack.k8 at hk8
              refine T.cond rfl (fun hb9 => ?_) (fun hb9 => ?_)
              ·replace hk8 := inv_posB hb9 hk8
               refine T.seq ?_
               refine T.region ?_
               refine T.assign .list rfl (wants0 rfl) rfl rfl ?_
               refine T.nil ?_
               refine T.then_normal ?_
               refine T.ret ?_
               refine T.in_ret ?_
               refine T.then_ret ?_
               refine T.then_ret ?_
               obtain rfl := inv_some hk8
               obtain rfl := hx1 _ rfl
               refine T.in_ret ?_
               refine T.then_ret ?_
               obtain rfl := inv_some hk6
               refine T.pick [] 8 rfl rfl (Nat.le_add_left _ _) rfl ?_
               refine T.ret1 rfl rfl (fun w hS => ⟨(), rfl, hS⟩)
              ·replace hk8 := inv_negB hb9 hk8
               refine T.skip ?_
               refine T.in_normal ?_
               refine T.then_normal ?_
               refine T.region ?_
               refine T.move .list rfl (wants0 rfl) rfl rfl ?_
               refine T.bin .list rfl (wants0 rfl) rfl rfl rfl rfl ?_
               refine T.assign .list rfl (wants0 rfl) rfl rfl ?_
               refine T.nil ?_
               refine T.then_normal ?_
               obtain rfl := inv_some hk8
               exact T.le (EnvLe.cons rfl (EnvLe.cons rfl (EnvLe.cons rfl (EnvLe.cons rfl (EnvLe.cons rfl EnvLe.nil))))) (T.pick [0, 1, 2, 3, 4, 5, 6, 7] 8 rfl rfl (Nat.le_add_left _ _) rfl (hm1 (IntKind.i64.wrap (s8 + 1)) rfl ()))
             ·refine T.plan [(0, 0), (1, 0), (2, 0), (3, 0), (5, 0), (6, 0), (7, 0), (4, 1), (8, 1), (9, 0), (10, 0)] mixed (by kernel_rfl) (by kernel_rfl) rfl (fun d _ _ _ _ h => by cases d <;> exact h) ?_
              refine T.move (.plan rfl) rfl (wants0 rfl) rfl rfl ?_
              refine T.bin (.plan rfl) rfl (wants0 rfl) rfl rfl rfl rfl ?_
              refine T.move (.plan rfl) rfl (wants0 rfl) rfl rfl ?_
              refine T.bool (b := (decide (r8.2 = 0))) (fun hb10 => ?_) (fun hb10 => ?_)
              ·replace he1 := inv_posB hb10 he1
               refine T.move (.plan rfl) rfl (wants1 rfl rfl rfl (not_t hb10)) rfl rfl ?_
               refine T.move (.plan rfl) rfl (wants1 rfl rfl rfl (not_t hb10)) rfl rfl ?_
               refine T.move (.plan rfl) rfl (wants1 rfl rfl rfl (not_t hb10)) rfl rfl ?_
               obtain ⟨hc2, he1⟩ := inv_chk he1
               refine T.idxBf (.plan rfl) 8 rfl rfl (wants1 rfl rfl rfl (not_t hb10)) rfl rfl rfl hc2.1 hc2.2 (Nat.le_refl _) ?_
               refine T.strRo (.plan rfl) 0 rfl rfl (wants1 rfl rfl rfl (not_t hb10)) rfl rfl rfl ?_
               refine T.ldBf1 (.plan rfl) 8 rfl rfl (wants1 rfl rfl rfl (not_t hb10)) rfl rfl hc2.1 hc2.2 ?_
               refine T.strNe (.plan rfl) rfl (wants1 rfl rfl rfl (not_t hb10)) rfl (l := r8.1) (l' := (((s3.2.2.2.2.2.2.2.2.2.2.2).getD (s8 : Int).toNat default))) rfl rfl ?_
               refine T.pickF (.plan rfl) rfl (wants0 rfl) rfl rfl (not_t hb10) rfl ?_
               refine T.planEnd ?_
               refine T.then_normal ?_
               exact T.le (EnvLe.cons rfl (EnvLe.cons rfl (EnvLe.cons rfl (EnvLe.cons rfl (EnvLe.cons rfl (EnvLe.cons rfl EnvLe.nil)))))) (T.pick [1, 2, 3, 4, 5, 6, 7, 8] 9 rfl rfl (Nat.le_add_left _ _) rfl (J8 (!(decide (r8.1 = (((s3.2.2.2.2.2.2.2.2.2.2.2).getD (s8 : Int).toNat default))))) () he1))
              ·replace he1 := inv_negB hb10 he1
               refine T.leave (.plan rfl) (wantsNot rfl rfl rfl (not_f hb10)) rfl ?_
               refine T.leave (.plan rfl) (wantsNot rfl rfl rfl (not_f hb10)) rfl ?_
               refine T.leave (.plan rfl) (wantsNot rfl rfl rfl (not_f hb10)) rfl ?_
               refine T.leave (.plan rfl) (wantsNot rfl rfl rfl (not_f hb10)) rfl ?_
               refine T.leave (.plan rfl) (wantsNot rfl rfl rfl (not_f hb10)) rfl ?_
               refine T.leave (.plan rfl) (wantsNot rfl rfl rfl (not_f hb10)) rfl ?_
               refine T.leave (.plan rfl) (wantsNot rfl rfl rfl (not_f hb10)) rfl ?_
               refine T.pickT (.plan rfl) rfl (wants0 rfl) rfl rfl (not_f hb10) rfl ?_
               refine T.planEnd ?_
               refine T.then_normal ?_
               exact T.le (EnvLe.cons rfl (EnvLe.cons rfl (EnvLe.cons rfl (EnvLe.cons rfl (EnvLe.cons rfl (EnvLe.cons rfl EnvLe.nil)))))) (T.pick [1, 2, 3, 4, 5, 6, 7, 8] 9 rfl rfl (Nat.le_add_left _ _) rfl (J8 true () he1))
            ·replace he1 := inv_negB hb8 he1
             refine T.exit ?_
             refine T.then_exit ?_
             refine T.then_exit ?_
             obtain rfl := inv_some he1
             obtain rfl := hx1 _ rfl
             refine T.in_hit ?_
             refine T.then_normal ?_
             exact T.le (EnvLe.cons rfl (EnvLe.cons rfl EnvLe.nil)) (T.pick [0, 1, 2, 3, 4, 5] 8 rfl rfl (Nat.le_add_left _ _) rfl (J7 () () hk6))
         ·refine T.region ?_
          refine T.move .list rfl (wants0 rfl) rfl rfl ?_
          refine T.move .list rfl (wants0 rfl) rfl rfl ?_
          refine T.bin .list rfl (wants0 rfl) rfl rfl rfl rfl ?_
          refine T.move .list rfl (wants0 rfl) rfl rfl ?_
          refine T.lenSlice .list rfl (wants0 rfl) rfl rfl ?_
          refine T.bin .list rfl (wants0 rfl) rfl rfl rfl rfl ?_
          refine T.bin .list rfl (wants0 rfl) rfl rfl rfl rfl ?_
          refine T.move .list rfl (wants0 rfl) rfl rfl ?_
          refine T.bool (b := (decide (s5.2.2.2.2.2.2.2.2.2.2 = (IntKind.i64.wrap ((IntKind.i64.wrap ((IntKind.i64.wrap ((bitsOf .and .i64 a2 15) + 6)) - 2)) - ((s3.2.2.2.2.2.2.2.2.2.2.1.length : Int))))))) (fun hb11 => ?_) (fun hb11 => ?_)
          ·replace hk5 := inv_posB hb11 hk5
           refine T.move .list rfl (wants1 rfl rfl rfl (not_t hb11)) rfl rfl ?_
           refine T.nilCheck .list rfl (wants1 rfl rfl rfl (not_t hb11)) rfl rfl ?_
           refine T.field .list rfl (wants1 rfl rfl rfl (not_t hb11)) rfl rfl ?_
           refine T.pick [0, 1, 2, 3, 4, 5, 6, 7] 8 rfl rfl (Nat.le_add_left _ _) (hs' := Cl x5.1 45 [.int .i64 r3.2.1.1, .map (some x5.2), .pointer (some ⟨x2.1, 0, none⟩), .int .i64 r3.2.1.2.1, .int .u64 r3.2.1.2.2.1, .int .i64 r3.2.1.2.2.2] :: Mp E64 x5.2 s5.1 :: Cl x2.1 68 [.int .i64 s5.2.1, .map (some x2.2.1), .slice x10.1.1 s5.2.2.2.1.length x10.1.2, .bool s5.2.2.2.2.1, .int .i64 s5.2.2.2.2.2.1, .int .i64 s5.2.2.2.2.2.2.1, .int .u64 s5.2.2.2.2.2.2.2.1, .int .i64 s5.2.2.2.2.2.2.2.2.1, .int .i64 s5.2.2.2.2.2.2.2.2.2.1] :: Mp (Elt.slice E8) x2.2.1 s5.2.2.1 :: Hb 82 x10.1.1 x10.1.2 x10.2 s5.2.2.2.1 :: Bb 5 x10.2 s5.2.2.2.1 :: Bf E64 3 x7.2.2.1.1 x7.2.2.1.2 s3.2.2.2.2.2.2.2.2.2.2.1 :: Bf EStr 9 x7.2.2.2.1 x7.2.2.2.2 s3.2.2.2.2.2.2.2.2.2.2.2 :: hs) rfl ?_
           obtain ⟨r9, hg9, hk5⟩ := inv_bind hk5
           refine T.call .list (wants1 rfl rfl rfl (not_t hb11)) rfl (run_callF (vs := [_]) rfl Try.func12 rfl (by decide) rfl) (fun w hS => page_counts_Left.c hS (T0 := 45) (rest0 := [.pointer (some ⟨x2.1, 0, none⟩), .int .i64 r3.2.1.2.1, .int .u64 r3.2.1.2.2.1, .int .i64 r3.2.1.2.2.2]) (o0 := r3.2.1.1) (q0b := s5.1)  hg9) (fun x20 => ?_)
           refine T.bin .list rfl (wants1 rfl rfl rfl (not_t hb11)) rfl rfl rfl rfl ?_
           refine T.pickF .list rfl (wants0 rfl) rfl rfl (not_t hb11) rfl ?_
           refine T.nil ?_
           refine T.then_normal ?_
           exact T.le (EnvLe.cons rfl (EnvLe.cons rfl (EnvLe.cons rfl (EnvLe.cons rfl (EnvLe.cons rfl EnvLe.nil))))) (T.pick [0, 1, 2, 3, 4, 5, 6, 7] 8 rfl rfl (Nat.le_add_left _ _) rfl (J6 (!(decide (r9 = 0))) () hk5))
          ·replace hk5 := inv_negB hb11 hk5
           refine T.leave .list (wantsNot rfl rfl rfl (not_f hb11)) rfl ?_
           refine T.leave .list (wantsNot rfl rfl rfl (not_f hb11)) rfl ?_
           refine T.leave .list (wantsNot rfl rfl rfl (not_f hb11)) rfl ?_
           refine T.leave .list (wantsNot rfl rfl rfl (not_f hb11)) rfl ?_
           refine T.leave .list (wantsNot rfl rfl rfl (not_f hb11)) rfl ?_
           refine T.pickT .list rfl (wants0 rfl) rfl rfl (not_f hb11) rfl ?_
           refine T.nil ?_
           refine T.then_normal ?_
           exact T.le (EnvLe.cons rfl (EnvLe.cons rfl (EnvLe.cons rfl (EnvLe.cons rfl (EnvLe.cons rfl EnvLe.nil))))) (T.pick [0, 1, 2, 3, 4, 5, 6, 7] 8 rfl rfl (Nat.le_add_left _ _) rfl (J6 true () hk5))
        ·refine T.block ?_
         obtain ⟨e2, hl2, hk4⟩ := inv_bind hk4
         refine T.le (EnvLe.cons rfl (EnvLe.cons rfl (EnvLe.cons rfl (EnvLe.cons rfl (EnvLe.cons rfl (EnvLe.cons rfl EnvLe.nil)))))) (T.pick [0, 1, 2, 3, 4, 5, 6, 7] 8 rfl rfl (Nat.le_add_left _ _) rfl (T.loop (s0 := (s4.1, r3.2.2.2.1.1, r3.2.2.2.2.1, r3.2.2.2.2.2, r3.2.2.2.1.2.1, r3.2.2.2.1.2.2.1, r3.2.2.2.1.2.2.2.1, r3.2.2.2.1.2.2.2.2.1, r3.2.2.2.1.2.2.2.2.2.1, r3.2.2.2.1.2.2.2.2.2.2, 0)) (env := fun s10 x21 => [(2, .int .i64 (IntKind.i64.wrap ((bitsOf .and .i64 a2 15) + 6))), (9, .pointer (some ⟨x5.1, 0, none⟩)), (11, .slice x7.2.2.1.1 s3.2.2.2.2.2.2.2.2.2.2.1.length x7.2.2.1.2), (12, .slice x7.2.2.2.1 s3.2.2.2.2.2.2.2.2.2.2.2.length x7.2.2.2.2), (17, .int .i64 s4.2), (19, .int .i64 s10.2.2.2.2.2.2.2.2.2.2)]) (hs := fun (s10 : (List (Int × Int)) × Int × (List (Int × (List UInt8))) × (List (Int × List UInt8)) × Bool × Int × Int × Int × Int × Int × Int) (x21 : (Option Addr × Nat) × (Ads)) => Cl x5.1 45 [.int .i64 r3.2.1.1, .map (some x5.2), .pointer (some ⟨x2.1, 0, none⟩), .int .i64 r3.2.1.2.1, .int .u64 r3.2.1.2.2.1, .int .i64 r3.2.1.2.2.2] :: Mp E64 x5.2 s10.1 :: Cl x2.1 68 [.int .i64 s10.2.1, .map (some x2.2.1), .slice x21.1.1 s10.2.2.2.1.length x21.1.2, .bool s10.2.2.2.2.1, .int .i64 s10.2.2.2.2.2.1, .int .i64 s10.2.2.2.2.2.2.1, .int .u64 s10.2.2.2.2.2.2.2.1, .int .i64 s10.2.2.2.2.2.2.2.2.1, .int .i64 s10.2.2.2.2.2.2.2.2.2.1] :: Mp (Elt.slice E8) x2.2.1 s10.2.2.1 :: Hb 82 x21.1.1 x21.1.2 x21.2 s10.2.2.2.1 :: Bb 5 x21.2 s10.2.2.2.1 :: Bf E64 3 x7.2.2.1.1 x7.2.2.1.2 s3.2.2.2.2.2.2.2.2.2.2.1 :: Bf EStr 9 x7.2.2.2.1 x7.2.2.2.2 s3.2.2.2.2.2.2.2.2.2.2.2 :: hs) hl2 ((x8.1.1, x8.1.2), x8.2) (fun K2 s10 x21 o2 he2 hm2 hx2 => ?_)))
         unfold law4_PageBack.st2 at he2
         refine T.block ?_
         refine T.seq ?_
         refine T.region ?_
         refine T.move .list rfl (wants0 rfl) rfl rfl ?_
         refine T.move .list rfl (wants0 rfl) rfl rfl ?_
         refine T.conv .list rfl (wants0 rfl) rfl rfl rfl ?_
         refine T.lit (E := E8) .list (vals := [(0, .int .u8 (IntKind.u8.wrap s10.2.2.2.2.2.2.2.2.2.2))]) (cells := #[.int .u8 (IntKind.u8.wrap s10.2.2.2.2.2.2.2.2.2.2)]) rfl (wants0 rfl) rfl rfl rfl rfl rfl (by kernel_rfl) ([(u8 (IntKind.u8.wrap s10.2.2.2.2.2.2.2.2.2.2))] : List UInt8) rfl (fun _ _ _ _ _ => (Encs.c1 (enc := b8) (h1 := fun _ => rfl) (b8_wrap _) rfl)) (fun b1 => ?_)
         refine T.freeze 0 rfl rfl rfl ?_
         refine T.pick [1, 2, 3, 4, 5, 6, 0, 7, 8] 9 rfl rfl (Nat.le_add_left _ _) (hs' := Cl x5.1 45 [.int .i64 r3.2.1.1, .map (some x5.2), .pointer (some ⟨x2.1, 0, none⟩), .int .i64 r3.2.1.2.1, .int .u64 r3.2.1.2.2.1, .int .i64 r3.2.1.2.2.2] :: Mp E64 x5.2 s10.1 :: Cl x2.1 68 [.int .i64 s10.2.1, .map (some x2.2.1), .slice x21.1.1 s10.2.2.2.1.length x21.1.2, .bool s10.2.2.2.2.1, .int .i64 s10.2.2.2.2.2.1, .int .i64 s10.2.2.2.2.2.2.1, .int .u64 s10.2.2.2.2.2.2.2.1, .int .i64 s10.2.2.2.2.2.2.2.2.1, .int .i64 s10.2.2.2.2.2.2.2.2.2.1] :: Mp (Elt.slice E8) x2.2.1 s10.2.2.1 :: Hb 82 x21.1.1 x21.1.2 x21.2 s10.2.2.2.1 :: Bb 5 x21.2 s10.2.2.2.1 :: Ro E8 (some ⟨b1, 0, none⟩) 1 (([(u8 (IntKind.u8.wrap s10.2.2.2.2.2.2.2.2.2.2))] : List UInt8)) :: Bf E64 3 x7.2.2.1.1 x7.2.2.1.2 s3.2.2.2.2.2.2.2.2.2.2.1 :: Bf EStr 9 x7.2.2.2.1 x7.2.2.2.2 s3.2.2.2.2.2.2.2.2.2.2.2 :: hs) rfl ?_
         obtain ⟨r10, hg10, he2⟩ := inv_bind he2
         refine T.call .list (wants0 rfl) rfl (run_callF (vs := [_, _]) rfl Try.func9 rfl (by decide) rfl) (fun w hS => page_Store_Put.c hS (i1 := 6) (o0 := (r3.2.1.1, r3.2.1.2.1, r3.2.1.2.2.1, r3.2.1.2.2.2)) (q0b := s10.1) (o0c := (s10.2.1, s10.2.2.2.2.1, s10.2.2.2.2.2.1, s10.2.2.2.2.2.2.1, s10.2.2.2.2.2.2.2.1, s10.2.2.2.2.2.2.2.2.1, s10.2.2.2.2.2.2.2.2.2.1)) (q0cb := s10.2.2.1) (q0cc := s10.2.2.2.1) rfl hg10) (fun x22 => ?_)
         refine T.move .list rfl (wants0 rfl) rfl rfl ?_
         refine T.extract .list rfl (wants0 rfl) rfl rfl rfl ?_
         refine T.extract .list rfl (wants0 rfl) rfl rfl rfl ?_
         refine T.assign .list rfl (wants0 rfl) rfl rfl ?_
         refine T.assign .list rfl (wants0 rfl) rfl rfl ?_
         refine T.nil ?_
         refine T.then_normal ?_
         refine T.seq ?_
         refine T.seq ?_
         refine T.region ?_
         refine T.move .list rfl (wants0 rfl) rfl rfl ?_
         refine T.bin .list rfl (wants0 rfl) rfl rfl rfl rfl ?_
         refine T.nil ?_
         refine T.then_normal ?_
         refine T.cond rfl (fun hb12 => ?_) (fun hb12 => ?_)
         ·replace he2 := inv_posB hb12 he2
          refine T.seq ?_
          refine T.seq ?_
          refine T.region ?_
          refine T.move .list rfl (wants0 rfl) rfl rfl ?_
          refine T.bin .list rfl (wants0 rfl) rfl rfl rfl rfl ?_
          refine T.nil ?_
          refine T.then_normal ?_
          refine T.cond rfl (fun hb13 => ?_) (fun hb13 => ?_)
          ·replace he2 := inv_posB hb13 he2
           refine T.seq ?_
           refine T.region ?_
           refine T.assign .list rfl (wants0 rfl) rfl rfl ?_
           refine T.nil ?_
           refine T.then_normal ?_
           refine T.ret ?_
           refine T.then_ret ?_
           refine T.then_ret ?_
           refine T.in_ret ?_
           refine T.then_ret ?_
           obtain rfl := inv_some he2
           obtain rfl := hx2 _ rfl
           refine T.in_ret ?_
           refine T.then_ret ?_
           obtain rfl := inv_some hk4
           refine T.pick [] 9 rfl rfl (Nat.le_add_left _ _) rfl ?_
           refine T.ret1 rfl rfl (fun w hS => ⟨(), rfl, hS⟩)
          ·replace he2 := inv_negB hb13 he2
           refine T.skip ?_
           refine T.then_normal ?_
           refine T.exit ?_
           refine T.then_exit ?_
           refine T.in_miss rfl ?_
           refine T.then_exit ?_
           obtain rfl := inv_some he2
           obtain rfl := hx2 _ rfl
           refine T.in_hit ?_
           refine T.then_normal ?_
           exact T.le (EnvLe.cons rfl (EnvLe.cons rfl (EnvLe.cons rfl (EnvLe.cons rfl (EnvLe.cons rfl (EnvLe.cons rfl EnvLe.nil)))))) (T.pick [0, 1, 2, 3, 4, 5, 7, 8] 9 rfl rfl (Nat.le_add_left _ _) rfl (J5 (r10.2.2.1, r10.2.2.2.1.1, r10.2.2.2.2.1, r10.2.2.2.2.2, r10.2.2.2.1.2.1, r10.2.2.2.1.2.2.1, r10.2.2.2.1.2.2.2.1, r10.2.2.2.1.2.2.2.2.1, r10.2.2.2.1.2.2.2.2.2.1, r10.2.2.2.1.2.2.2.2.2.2, s10.2.2.2.2.2.2.2.2.2.2) ((x22.1.1, x22.1.2), x22.2) hk4))
         ·replace he2 := inv_negB hb12 he2
          refine T.skip ?_
          refine T.then_normal ?_
          refine T.region ?_
          refine T.move .list rfl (wants0 rfl) rfl rfl ?_
          refine T.bin .list rfl (wants0 rfl) rfl rfl rfl rfl ?_
          refine T.assign .list rfl (wants0 rfl) rfl rfl ?_
          refine T.nil ?_
          refine T.in_normal ?_
          refine T.then_normal ?_
          obtain rfl := inv_some he2
          exact T.le (EnvLe.cons rfl (EnvLe.cons rfl (EnvLe.cons rfl (EnvLe.cons rfl (EnvLe.cons rfl (EnvLe.cons rfl EnvLe.nil)))))) (T.pick [0, 1, 2, 3, 4, 5, 7, 8] 9 rfl rfl (Nat.le_add_left _ _) rfl (hm2 (r10.2.2.1, r10.2.2.2.1.1, r10.2.2.2.2.1, r10.2.2.2.2.2, r10.2.2.2.1.2.1, r10.2.2.2.1.2.2.1, r10.2.2.2.1.2.2.2.1, r10.2.2.2.1.2.2.2.2.1, r10.2.2.2.1.2.2.2.2.2.1, r10.2.2.2.1.2.2.2.2.2.2, IntKind.i64.wrap (s10.2.2.2.2.2.2.2.2.2.2 + 1)) rfl ((x22.1.1, x22.1.2), x22.2)))
       ·refine T.seq ?_
        refine T.region ?_
        refine T.assign .list rfl (wants0 rfl) rfl rfl ?_
        refine T.nil ?_
        refine T.then_normal ?_
        refine T.block ?_
        obtain ⟨e3, hl3, hk3⟩ := inv_bind hk3
        refine T.le (EnvLe.cons rfl (EnvLe.cons rfl (EnvLe.cons rfl (EnvLe.cons rfl (EnvLe.cons rfl (EnvLe.cons rfl (EnvLe.cons rfl EnvLe.nil))))))) (T.pick [6, 0, 1, 2, 3, 4, 5, 7, 8] 9 rfl rfl (Nat.le_add_left _ _) rfl (T.loop (s0 := (r3.2.2.1, 0, 0)) (env := fun s11 x23 => [(1, .slice A1 l1.length c1), (2, .int .i64 (IntKind.i64.wrap ((bitsOf .and .i64 a2 15) + 6))), (9, .pointer (some ⟨x5.1, 0, none⟩)), (11, .slice x7.2.2.1.1 s3.2.2.2.2.2.2.2.2.2.2.1.length x7.2.2.1.2), (12, .slice x7.2.2.2.1 s3.2.2.2.2.2.2.2.2.2.2.2.length x7.2.2.2.2), (17, .int .i64 s11.2.1), (18, .int .i64 s11.2.2)]) (hs := fun (s11 : (List (Int × Int)) × Int × Int) (x23 : Unit) => Ro EBool A1 c1 l1 :: Cl x5.1 45 [.int .i64 r3.2.1.1, .map (some x5.2), .pointer (some ⟨x2.1, 0, none⟩), .int .i64 r3.2.1.2.1, .int .u64 r3.2.1.2.2.1, .int .i64 r3.2.1.2.2.2] :: Mp E64 x5.2 s11.1 :: Cl x2.1 68 [.int .i64 r3.2.2.2.1.1, .map (some x2.2.1), .slice x8.1.1 r3.2.2.2.2.2.length x8.1.2, .bool r3.2.2.2.1.2.1, .int .i64 r3.2.2.2.1.2.2.1, .int .i64 r3.2.2.2.1.2.2.2.1, .int .u64 r3.2.2.2.1.2.2.2.2.1, .int .i64 r3.2.2.2.1.2.2.2.2.2.1, .int .i64 r3.2.2.2.1.2.2.2.2.2.2] :: Mp (Elt.slice E8) x2.2.1 r3.2.2.2.2.1 :: Hb 82 x8.1.1 x8.1.2 x8.2 r3.2.2.2.2.2 :: Bb 5 x8.2 r3.2.2.2.2.2 :: Bf E64 3 x7.2.2.1.1 x7.2.2.1.2 s3.2.2.2.2.2.2.2.2.2.2.1 :: Bf EStr 9 x7.2.2.2.1 x7.2.2.2.2 s3.2.2.2.2.2.2.2.2.2.2.2 :: hs) hl3 () (fun K3 s11 x23 o3 he3 hm3 hx3 => ?_)))
        unfold law4_PageBack.st3 at he3
        refine T.seq ?_
        refine T.seqJ (fun (s12 : Bool) (x24 : Unit) => [(1, .slice A1 l1.length c1), (2, .int .i64 (IntKind.i64.wrap ((bitsOf .and .i64 a2 15) + 6))), (9, .pointer (some ⟨x5.1, 0, none⟩)), (11, .slice x7.2.2.1.1 s3.2.2.2.2.2.2.2.2.2.2.1.length x7.2.2.1.2), (12, .slice x7.2.2.2.1 s3.2.2.2.2.2.2.2.2.2.2.2.length x7.2.2.2.2), (17, .int .i64 s11.2.1), (18, .int .i64 s11.2.2), (104, .bool s12)]) (fun s12 x24 => Ro EBool A1 c1 l1 :: Cl x5.1 45 [.int .i64 r3.2.1.1, .map (some x5.2), .pointer (some ⟨x2.1, 0, none⟩), .int .i64 r3.2.1.2.1, .int .u64 r3.2.1.2.2.1, .int .i64 r3.2.1.2.2.2] :: Mp E64 x5.2 s11.1 :: Cl x2.1 68 [.int .i64 r3.2.2.2.1.1, .map (some x2.2.1), .slice x8.1.1 r3.2.2.2.2.2.length x8.1.2, .bool r3.2.2.2.1.2.1, .int .i64 r3.2.2.2.1.2.2.1, .int .i64 r3.2.2.2.1.2.2.2.1, .int .u64 r3.2.2.2.1.2.2.2.2.1, .int .i64 r3.2.2.2.1.2.2.2.2.2.1, .int .i64 r3.2.2.2.1.2.2.2.2.2.2] :: Mp (Elt.slice E8) x2.2.1 r3.2.2.2.2.1 :: Hb 82 x8.1.1 x8.1.2 x8.2 r3.2.2.2.2.2 :: Bb 5 x8.2 r3.2.2.2.2.2 :: Bf E64 3 x7.2.2.1.1 x7.2.2.1.2 s3.2.2.2.2.2.2.2.2.2.2.1 :: Bf EStr 9 x7.2.2.2.1 x7.2.2.2.2 s3.2.2.2.2.2.2.2.2.2.2.2 :: hs) (fun s12 => law4_PageBack.k9 s11 l1 s3 r3 s12 = some o3) (fun s12 x24 hk9 => ?_) (fun J9 => ?_)
        ·unfold law4_PageBack.k9 at hk9
         refine T.cond rfl (fun hb14 => ?_) (fun hb14 => ?_)
         ·replace hk9 := inv_posB hb14 hk9
          refine T.skip ?_
          refine T.then_normal ?_
          refine T.seqJ (fun (s13 : (List (Int × Int)) × Int) (x25 : Unit) => [(1, .slice A1 l1.length c1), (2, .int .i64 (IntKind.i64.wrap ((bitsOf .and .i64 a2 15) + 6))), (9, .pointer (some ⟨x5.1, 0, none⟩)), (11, .slice x7.2.2.1.1 s3.2.2.2.2.2.2.2.2.2.2.1.length x7.2.2.1.2), (12, .slice x7.2.2.2.1 s3.2.2.2.2.2.2.2.2.2.2.2.length x7.2.2.2.2), (17, .int .i64 s13.2), (18, .int .i64 s11.2.2)]) (fun s13 x25 => Ro EBool A1 c1 l1 :: Cl x5.1 45 [.int .i64 r3.2.1.1, .map (some x5.2), .pointer (some ⟨x2.1, 0, none⟩), .int .i64 r3.2.1.2.1, .int .u64 r3.2.1.2.2.1, .int .i64 r3.2.1.2.2.2] :: Mp E64 x5.2 s13.1 :: Cl x2.1 68 [.int .i64 r3.2.2.2.1.1, .map (some x2.2.1), .slice x8.1.1 r3.2.2.2.2.2.length x8.1.2, .bool r3.2.2.2.1.2.1, .int .i64 r3.2.2.2.1.2.2.1, .int .i64 r3.2.2.2.1.2.2.2.1, .int .u64 r3.2.2.2.1.2.2.2.2.1, .int .i64 r3.2.2.2.1.2.2.2.2.2.1, .int .i64 r3.2.2.2.1.2.2.2.2.2.2] :: Mp (Elt.slice E8) x2.2.1 r3.2.2.2.2.1 :: Hb 82 x8.1.1 x8.1.2 x8.2 r3.2.2.2.2.2 :: Bb 5 x8.2 r3.2.2.2.2.2 :: Bf E64 3 x7.2.2.1.1 x7.2.2.1.2 s3.2.2.2.2.2.2.2.2.2.2.1 :: Bf EStr 9 x7.2.2.2.1 x7.2.2.2.2 s3.2.2.2.2.2.2.2.2.2.2.2 :: hs) (fun s13 => law4_PageBack.k10 s11 s13 = some o3) (fun s13 x25 hk10 => ?_) (fun J10 => ?_)
          ·unfold law4_PageBack.k10 at hk10
           refine T.region ?_
           refine T.move .list rfl (wants0 rfl) rfl rfl ?_
           refine T.bin .list rfl (wants0 rfl) rfl rfl rfl rfl ?_
           refine T.assign .list rfl (wants0 rfl) rfl rfl ?_
           refine T.nil ?_
           refine T.then_normal ?_
           obtain rfl := inv_some hk10
           exact T.le (EnvLe.cons rfl (EnvLe.cons rfl (EnvLe.cons rfl (EnvLe.cons rfl (EnvLe.cons rfl (EnvLe.cons rfl (EnvLe.cons rfl EnvLe.nil))))))) (T.pick [0, 1, 2, 3, 4, 5, 6, 7, 8] 9 rfl rfl (Nat.le_add_left _ _) rfl (hm3 (s13.1, s13.2, IntKind.i64.wrap (s11.2.2 + 1)) rfl ()))
          ·refine T.block ?_
           refine T.seq ?_
           refine T.region ?_
           refine T.move .list rfl (wants0 rfl) rfl rfl ?_
           refine T.move .list rfl (wants0 rfl) rfl rfl ?_
           obtain ⟨hc3, hk9⟩ := inv_chk hk9
           refine T.idxRo .list 0 rfl rfl (wants0 rfl) rfl rfl rfl hc3.1 hc3.2 (Nat.le_refl _) ?_
           refine T.ldRo1 .list 0 rfl rfl (wants0 rfl) rfl rfl hc3.1 hc3.2 ?_
           refine T.nil ?_
           refine T.then_normal ?_
           refine T.cond rfl (fun hb15 => ?_) (fun hb15 => ?_)
           ·replace hk9 := inv_posB hb15 hk9
            refine T.seq ?_
            refine T.seqJ (fun (s14 : (List (Int × Int)) × Bool) (x26 : Unit) => [(1, .slice A1 l1.length c1), (2, .int .i64 (IntKind.i64.wrap ((bitsOf .and .i64 a2 15) + 6))), (9, .pointer (some ⟨x5.1, 0, none⟩)), (11, .slice x7.2.2.1.1 s3.2.2.2.2.2.2.2.2.2.2.1.length x7.2.2.1.2), (12, .slice x7.2.2.2.1 s3.2.2.2.2.2.2.2.2.2.2.2.length x7.2.2.2.2), (17, .int .i64 s11.2.1), (18, .int .i64 s11.2.2), (126, .bool s14.2)]) (fun s14 x26 => Ro EBool A1 c1 l1 :: Cl x5.1 45 [.int .i64 r3.2.1.1, .map (some x5.2), .pointer (some ⟨x2.1, 0, none⟩), .int .i64 r3.2.1.2.1, .int .u64 r3.2.1.2.2.1, .int .i64 r3.2.1.2.2.2] :: Mp E64 x5.2 s14.1 :: Cl x2.1 68 [.int .i64 r3.2.2.2.1.1, .map (some x2.2.1), .slice x8.1.1 r3.2.2.2.2.2.length x8.1.2, .bool r3.2.2.2.1.2.1, .int .i64 r3.2.2.2.1.2.2.1, .int .i64 r3.2.2.2.1.2.2.2.1, .int .u64 r3.2.2.2.1.2.2.2.2.1, .int .i64 r3.2.2.2.1.2.2.2.2.2.1, .int .i64 r3.2.2.2.1.2.2.2.2.2.2] :: Mp (Elt.slice E8) x2.2.1 r3.2.2.2.2.1 :: Hb 82 x8.1.1 x8.1.2 x8.2 r3.2.2.2.2.2 :: Bb 5 x8.2 r3.2.2.2.2.2 :: Bf E64 3 x7.2.2.1.1 x7.2.2.1.2 s3.2.2.2.2.2.2.2.2.2.2.1 :: Bf EStr 9 x7.2.2.2.1 x7.2.2.2.2 s3.2.2.2.2.2.2.2.2.2.2.2 :: hs) (fun s14 => law4_PageBack.k11 s11 s14 = some o3) (fun s14 x26 hk11 => ?_) (fun J11 => ?_)
            ·unfold law4_PageBack.k11 at hk11
             refine T.cond rfl (fun hb16 => ?_) (fun hb16 => ?_)
             ·replace hk11 := inv_posB hb16 hk11
              refine T.seq ?_
              refine T.region ?_
              refine T.assign .list rfl (wants0 rfl) rfl rfl ?_
              refine T.nil ?_
              refine T.then_normal ?_
              refine T.ret ?_
              refine T.then_ret ?_
              refine T.in_ret ?_
              refine T.then_ret ?_
              refine T.then_ret ?_
              obtain rfl := inv_some hk11
              obtain rfl := hx3 _ rfl
              refine T.in_ret ?_
              refine T.then_ret ?_
              obtain rfl := inv_some hk3
              refine T.pick [] 9 rfl rfl (Nat.le_add_left _ _) rfl ?_
              refine T.ret1 rfl rfl (fun w hS => ⟨(), rfl, hS⟩)
             ·replace hk11 := inv_negB hb16 hk11
              refine T.skip ?_
              refine T.then_normal ?_
              refine T.region ?_
              refine T.move .list rfl (wants0 rfl) rfl rfl ?_
              refine T.bin .list rfl (wants0 rfl) rfl rfl rfl rfl ?_
              refine T.assign .list rfl (wants0 rfl) rfl rfl ?_
              refine T.nil ?_
              refine T.in_normal ?_
              refine T.then_normal ?_
              exact T.le (EnvLe.cons rfl (EnvLe.cons rfl (EnvLe.cons rfl (EnvLe.cons rfl (EnvLe.cons rfl (EnvLe.cons rfl (EnvLe.cons rfl EnvLe.nil))))))) (T.pick [0, 1, 2, 3, 4, 5, 6, 7, 8] 9 rfl rfl (Nat.le_add_left _ _) rfl (J10 (s14.1, IntKind.i64.wrap (s11.2.1 + 1)) () hk11))
            ·refine T.region ?_
             refine T.move .list rfl (wants0 rfl) rfl rfl ?_
             refine T.move .list rfl (wants0 rfl) rfl rfl ?_
             refine T.move .list rfl (wants0 rfl) rfl rfl ?_
             obtain ⟨hc4, hk9⟩ := inv_chk hk9
             refine T.idxBf .list 7 rfl rfl (wants0 rfl) rfl rfl rfl hc4.1 hc4.2 (Nat.le_refl _) ?_
             refine T.ldBf1 .list 7 rfl rfl (wants0 rfl) rfl rfl hc4.1 hc4.2 ?_
             refine T.pick [1, 2, 3, 4, 5, 6, 0, 7, 8] 9 rfl rfl (Nat.le_add_left _ _) (hs' := Cl x5.1 45 [.int .i64 r3.2.1.1, .map (some x5.2), .pointer (some ⟨x2.1, 0, none⟩), .int .i64 r3.2.1.2.1, .int .u64 r3.2.1.2.2.1, .int .i64 r3.2.1.2.2.2] :: Mp E64 x5.2 s11.1 :: Cl x2.1 68 [.int .i64 r3.2.2.2.1.1, .map (some x2.2.1), .slice x8.1.1 r3.2.2.2.2.2.length x8.1.2, .bool r3.2.2.2.1.2.1, .int .i64 r3.2.2.2.1.2.2.1, .int .i64 r3.2.2.2.1.2.2.2.1, .int .u64 r3.2.2.2.1.2.2.2.2.1, .int .i64 r3.2.2.2.1.2.2.2.2.2.1, .int .i64 r3.2.2.2.1.2.2.2.2.2.2] :: Mp (Elt.slice E8) x2.2.1 r3.2.2.2.2.1 :: Hb 82 x8.1.1 x8.1.2 x8.2 r3.2.2.2.2.2 :: Bb 5 x8.2 r3.2.2.2.2.2 :: Ro EBool A1 c1 l1 :: Bf E64 3 x7.2.2.1.1 x7.2.2.1.2 s3.2.2.2.2.2.2.2.2.2.2.1 :: Bf EStr 9 x7.2.2.2.1 x7.2.2.2.2 s3.2.2.2.2.2.2.2.2.2.2.2 :: hs) rfl ?_
             obtain ⟨r11, hg11, hk9⟩ := inv_bind hk9
             refine T.call .list (wants0 rfl) rfl (run_callF (vs := [_, _]) rfl Try.func11 rfl (by decide) rfl) (fun w hS => page_Store_Free.c hS (o0 := (r3.2.1.1, r3.2.1.2.1, r3.2.1.2.2.1, r3.2.1.2.2.2)) (q0b := s11.1) (o0c := (r3.2.2.2.1.1, r3.2.2.2.1.2.1, r3.2.2.2.1.2.2.1, r3.2.2.2.1.2.2.2.1, r3.2.2.2.1.2.2.2.2.1, r3.2.2.2.1.2.2.2.2.2.1, r3.2.2.2.1.2.2.2.2.2.2)) (q0cb := r3.2.2.2.2.1) (q0cc := r3.2.2.2.2.2)  hg11) (fun x27 => ?_)
             refine T.bin .list rfl (wants0 rfl) rfl rfl rfl rfl ?_
             refine T.move .list rfl (wants0 rfl) rfl rfl ?_
             refine T.bool (b := (decide (r11.1 = 0))) (fun hb17 => ?_) (fun hb17 => ?_)
             ·replace hk9 := inv_posB hb17 hk9
              refine T.move .list rfl (wants1 rfl rfl rfl (not_t hb17)) rfl rfl ?_
              refine T.move .list rfl (wants1 rfl rfl rfl (not_t hb17)) rfl rfl ?_
              refine T.move .list rfl (wants1 rfl rfl rfl (not_t hb17)) rfl rfl ?_
              obtain ⟨hc5, hk9⟩ := inv_chk hk9
              refine T.idxBf .list 7 rfl rfl (wants1 rfl rfl rfl (not_t hb17)) rfl rfl rfl hc5.1 hc5.2 (Nat.le_refl _) ?_
              refine T.ldBf1 .list 7 rfl rfl (wants1 rfl rfl rfl (not_t hb17)) rfl rfl hc5.1 hc5.2 ?_
              refine T.pick [0, 1, 2, 3, 4, 5, 6, 7, 8] 9 rfl rfl (Nat.le_add_left _ _) (hs' := Cl x5.1 45 [.int .i64 r3.2.1.1, .map (some x5.2), .pointer (some ⟨x2.1, 0, none⟩), .int .i64 r3.2.1.2.1, .int .u64 r3.2.1.2.2.1, .int .i64 r3.2.1.2.2.2] :: Mp E64 x5.2 r11.2 :: Cl x2.1 68 [.int .i64 r3.2.2.2.1.1, .map (some x2.2.1), .slice x8.1.1 r3.2.2.2.2.2.length x8.1.2, .bool r3.2.2.2.1.2.1, .int .i64 r3.2.2.2.1.2.2.1, .int .i64 r3.2.2.2.1.2.2.2.1, .int .u64 r3.2.2.2.1.2.2.2.2.1, .int .i64 r3.2.2.2.1.2.2.2.2.2.1, .int .i64 r3.2.2.2.1.2.2.2.2.2.2] :: Mp (Elt.slice E8) x2.2.1 r3.2.2.2.2.1 :: Hb 82 x8.1.1 x8.1.2 x8.2 r3.2.2.2.2.2 :: Bb 5 x8.2 r3.2.2.2.2.2 :: Ro EBool A1 c1 l1 :: Bf E64 3 x7.2.2.1.1 x7.2.2.1.2 s3.2.2.2.2.2.2.2.2.2.2.1 :: Bf EStr 9 x7.2.2.2.1 x7.2.2.2.2 s3.2.2.2.2.2.2.2.2.2.2.2 :: hs) rfl ?_
              obtain ⟨r12, hg12, hk9⟩ := inv_bind hk9
              refine T.call .list (wants1 rfl rfl rfl (not_t hb17)) rfl (run_callF (vs := [_, _]) rfl Try.func11 rfl (by decide) rfl) (fun w hS => page_Store_Free.c hS (o0 := (r3.2.1.1, r3.2.1.2.1, r3.2.1.2.2.1, r3.2.1.2.2.2)) (q0b := r11.2) (o0c := (r3.2.2.2.1.1, r3.2.2.2.1.2.1, r3.2.2.2.1.2.2.1, r3.2.2.2.1.2.2.2.1, r3.2.2.2.1.2.2.2.2.1, r3.2.2.2.1.2.2.2.2.2.1, r3.2.2.2.1.2.2.2.2.2.2)) (q0cb := r3.2.2.2.2.1) (q0cc := r3.2.2.2.2.2)  hg12) (fun x28 => ?_)
              refine T.bin .list rfl (wants1 rfl rfl rfl (not_t hb17)) rfl rfl rfl rfl ?_
              refine T.pickF .list rfl (wants0 rfl) rfl rfl (not_t hb17) rfl ?_
              refine T.nil ?_
              refine T.then_normal ?_
              exact T.le (EnvLe.cons rfl (EnvLe.cons rfl (EnvLe.cons rfl (EnvLe.cons rfl (EnvLe.cons rfl (EnvLe.cons rfl (EnvLe.cons rfl (EnvLe.cons rfl EnvLe.nil)))))))) (T.pick [6, 0, 1, 2, 3, 4, 5, 7, 8] 9 rfl rfl (Nat.le_add_left _ _) rfl (J11 (r12.2, (!(decide (r12.1 = 1)))) () hk9))
             ·replace hk9 := inv_negB hb17 hk9
              refine T.leave .list (wantsNot rfl rfl rfl (not_f hb17)) rfl ?_
              refine T.leave .list (wantsNot rfl rfl rfl (not_f hb17)) rfl ?_
              refine T.leave .list (wantsNot rfl rfl rfl (not_f hb17)) rfl ?_
              refine T.leave .list (wantsNot rfl rfl rfl (not_f hb17)) rfl ?_
              refine T.leave .list (wantsNot rfl rfl rfl (not_f hb17)) rfl ?_
              refine T.leave .list (wantsNot rfl rfl rfl (not_f hb17)) rfl ?_
              refine T.leave .list (wantsNot rfl rfl rfl (not_f hb17)) rfl ?_
              refine T.pickT .list rfl (wants0 rfl) rfl rfl (not_f hb17) rfl ?_
              refine T.nil ?_
              refine T.then_normal ?_
              exact T.le (EnvLe.cons rfl (EnvLe.cons rfl (EnvLe.cons rfl (EnvLe.cons rfl (EnvLe.cons rfl (EnvLe.cons rfl (EnvLe.cons rfl (EnvLe.cons rfl EnvLe.nil)))))))) (T.pick [6, 0, 1, 2, 3, 4, 5, 7, 8] 9 rfl rfl (Nat.le_add_left _ _) rfl (J11 (r11.2, true) () hk9))
           ·replace hk9 := inv_negB hb15 hk9
            refine T.skip ?_
            refine T.in_normal ?_
            refine T.then_normal ?_
            exact T.le (EnvLe.cons rfl (EnvLe.cons rfl (EnvLe.cons rfl (EnvLe.cons rfl (EnvLe.cons rfl (EnvLe.cons rfl (EnvLe.cons rfl EnvLe.nil))))))) (T.pick [0, 1, 2, 3, 4, 5, 6, 7, 8] 9 rfl rfl (Nat.le_add_left _ _) rfl (J10 (s11.1, s11.2.1) () hk9))
         ·replace hk9 := inv_negB hb14 hk9
          refine T.exit ?_
          refine T.then_exit ?_
          refine T.then_exit ?_
          obtain rfl := inv_some hk9
          obtain rfl := hx3 _ rfl
          refine T.in_hit ?_
          refine T.then_normal ?_
          exact T.le (EnvLe.cons rfl (EnvLe.cons rfl (EnvLe.cons rfl (EnvLe.cons rfl (EnvLe.cons rfl EnvLe.nil))))) (T.pick [1, 2, 3, 4, 5, 6, 7, 8] 9 rfl rfl (Nat.le_add_left _ _) rfl (J4 (s11.1, s11.2.1) () hk3))
        ·refine T.region ?_
         refine T.move .list rfl (wants0 rfl) rfl rfl ?_
         refine T.move .list rfl (wants0 rfl) rfl rfl ?_
         refine T.lenSlice .list rfl (wants0 rfl) rfl rfl ?_
         refine T.bin .list rfl (wants0 rfl) rfl rfl rfl rfl ?_
         refine T.move .list rfl (wants0 rfl) rfl rfl ?_
         refine T.bool (b := (decide (s11.2.2 < ((s3.2.2.2.2.2.2.2.2.2.2.1.length : Int))))) (fun hb18 => ?_) (fun hb18 => ?_)
         ·replace he3 := inv_posB hb18 he3
          refine T.move .list rfl (wants1 rfl rfl rfl hb18) rfl rfl ?_
          refine T.move .list rfl (wants1 rfl rfl rfl hb18) rfl rfl ?_
          refine T.lenSlice .list rfl (wants1 rfl rfl rfl hb18) rfl rfl ?_
          refine T.bin .list rfl (wants1 rfl rfl rfl hb18) rfl rfl rfl rfl ?_
          refine T.pickT .list rfl (wants0 rfl) rfl rfl hb18 rfl ?_
          refine T.nil ?_
          refine T.then_normal ?_
          exact T.le (EnvLe.cons rfl (EnvLe.cons rfl (EnvLe.cons rfl (EnvLe.cons rfl (EnvLe.cons rfl (EnvLe.cons rfl (EnvLe.cons rfl (EnvLe.cons rfl EnvLe.nil)))))))) (T.pick [0, 1, 2, 3, 4, 5, 6, 7, 8] 9 rfl rfl (Nat.le_add_left _ _) rfl (J9 (decide (s11.2.2 < ((l1.length : Int)))) () he3))
         ·replace he3 := inv_negB hb18 he3
          refine T.leave .list (wantsNot rfl rfl rfl hb18) rfl ?_
          refine T.leave .list (wantsNot rfl rfl rfl hb18) rfl ?_
          refine T.leave .list (wantsNot rfl rfl rfl hb18) rfl ?_
          refine T.leave .list (wantsNot rfl rfl rfl hb18) rfl ?_
          refine T.pickF .list rfl (wants0 rfl) rfl rfl hb18 rfl ?_
          refine T.nil ?_
          refine T.then_normal ?_
          exact T.le (EnvLe.cons rfl (EnvLe.cons rfl (EnvLe.cons rfl (EnvLe.cons rfl (EnvLe.cons rfl (EnvLe.cons rfl (EnvLe.cons rfl (EnvLe.cons rfl EnvLe.nil)))))))) (T.pick [0, 1, 2, 3, 4, 5, 6, 7, 8] 9 rfl rfl (Nat.le_add_left _ _) rfl (J9 false () he3))
     ·refine T.seq ?_
      refine T.region ?_
      refine T.assign .list rfl (wants0 rfl) rfl rfl ?_
      refine T.nil ?_
      refine T.then_normal ?_
      refine T.block ?_
      obtain ⟨e4, hl4, hk2⟩ := inv_bind hk2
      refine T.nilBf E64 3 ?_
      refine T.nilBf EStr 9 ?_
      refine T.le (EnvLe.cons rfl (EnvLe.cons rfl (EnvLe.cons rfl (EnvLe.cons rfl (EnvLe.cons rfl (EnvLe.cons rfl (EnvLe.cons rfl EnvLe.nil))))))) (T.pick [2, 3, 4, 5, 6, 7, 8, 9, 1, 0] 10 rfl rfl (Nat.le_add_left _ _) rfl (T.loop (s0 := (r2p0.2, r1p0.1.1, r1p0.2.1, r1p0.2.2, r1p0.1.2.1, r1p0.1.2.2.1, r1p0.1.2.2.2.1, r1p0.1.2.2.2.2.1, r1p0.1.2.2.2.2.2.1, r1p0.1.2.2.2.2.2.2, ([] : List Int), ([] : List (List UInt8)), 0)) (env := fun s15 x29 => [(0, .slice A0 l0.length c0), (1, .slice A1 l1.length c1), (2, .int .i64 (IntKind.i64.wrap ((bitsOf .and .i64 a2 15) + 6))), (9, .pointer (some ⟨x5.1, 0, none⟩)), (11, .slice x29.2.2.1.1 s15.2.2.2.2.2.2.2.2.2.2.1.length x29.2.2.1.2), (12, .slice x29.2.2.2.1 s15.2.2.2.2.2.2.2.2.2.2.2.1.length x29.2.2.2.2), (13, .int .i64 s15.2.2.2.2.2.2.2.2.2.2.2.2)]) (hs := fun (s15 : (List (Int × Int)) × Int × (List (Int × (List UInt8))) × (List (Int × List UInt8)) × Bool × Int × Int × Int × Int × Int × List Int × List (List UInt8) × Int) (x29 : (Option Addr × Nat) × (Ads) × (Option Addr × Nat) × (Option Addr × Nat)) => Ro (Elt.slice E8) A0 c0 l0 :: Ro EBool A1 c1 l1 :: Cl x5.1 45 [.int .i64 r2p0.1.1, .map (some x5.2), .pointer (some ⟨x2.1, 0, none⟩), .int .i64 r2p0.1.2.1, .int .u64 r2p0.1.2.2.1, .int .i64 r2p0.1.2.2.2] :: Mp E64 x5.2 s15.1 :: Cl x2.1 68 [.int .i64 s15.2.1, .map (some x2.2.1), .slice x29.1.1 s15.2.2.2.1.length x29.1.2, .bool s15.2.2.2.2.1, .int .i64 s15.2.2.2.2.2.1, .int .i64 s15.2.2.2.2.2.2.1, .int .u64 s15.2.2.2.2.2.2.2.1, .int .i64 s15.2.2.2.2.2.2.2.2.1, .int .i64 s15.2.2.2.2.2.2.2.2.2.1] :: Mp (Elt.slice E8) x2.2.1 s15.2.2.1 :: Hb 82 x29.1.1 x29.1.2 x29.2.1 s15.2.2.2.1 :: Bb 5 x29.2.1 s15.2.2.2.1 :: Bf E64 3 x29.2.2.1.1 x29.2.2.1.2 s15.2.2.2.2.2.2.2.2.2.2.1 :: Bf EStr 9 x29.2.2.2.1 x29.2.2.2.2 s15.2.2.2.2.2.2.2.2.2.2.2.1 :: hs) hl4 ((x2.2.2.1.1, x2.2.2.1.2), x2.2.2.2, (none, 0), (none, 0)) (fun K4 s15 x29 o4 he4 hm4 hx4 => ?_)))
      unfold law4_PageBack.st4 at he4
      refine T.seq ?_
      refine T.seqJ (fun (s16 : Bool) (x30 : Unit) => [(0, .slice A0 l0.length c0), (1, .slice A1 l1.length c1), (2, .int .i64 (IntKind.i64.wrap ((bitsOf .and .i64 a2 15) + 6))), (9, .pointer (some ⟨x5.1, 0, none⟩)), (11, .slice x29.2.2.1.1 s15.2.2.2.2.2.2.2.2.2.2.1.length x29.2.2.1.2), (12, .slice x29.2.2.2.1 s15.2.2.2.2.2.2.2.2.2.2.2.1.length x29.2.2.2.2), (13, .int .i64 s15.2.2.2.2.2.2.2.2.2.2.2.2), (55, .bool s16)]) (fun s16 x30 => Ro (Elt.slice E8) A0 c0 l0 :: Ro EBool A1 c1 l1 :: Cl x5.1 45 [.int .i64 r2p0.1.1, .map (some x5.2), .pointer (some ⟨x2.1, 0, none⟩), .int .i64 r2p0.1.2.1, .int .u64 r2p0.1.2.2.1, .int .i64 r2p0.1.2.2.2] :: Mp E64 x5.2 s15.1 :: Cl x2.1 68 [.int .i64 s15.2.1, .map (some x2.2.1), .slice x29.1.1 s15.2.2.2.1.length x29.1.2, .bool s15.2.2.2.2.1, .int .i64 s15.2.2.2.2.2.1, .int .i64 s15.2.2.2.2.2.2.1, .int .u64 s15.2.2.2.2.2.2.2.1, .int .i64 s15.2.2.2.2.2.2.2.2.1, .int .i64 s15.2.2.2.2.2.2.2.2.2.1] :: Mp (Elt.slice E8) x2.2.1 s15.2.2.1 :: Hb 82 x29.1.1 x29.1.2 x29.2.1 s15.2.2.2.1 :: Bb 5 x29.2.1 s15.2.2.2.1 :: Bf E64 3 x29.2.2.1.1 x29.2.2.1.2 s15.2.2.2.2.2.2.2.2.2.2.1 :: Bf EStr 9 x29.2.2.2.1 x29.2.2.2.2 s15.2.2.2.2.2.2.2.2.2.2.2.1 :: hs) (fun s16 => law4_PageBack.k12 s15 l0 r2p0 s16 = some o4) (fun s16 x30 hk12 => ?_) (fun J12 => ?_)
      ·unfold law4_PageBack.k12 at hk12
       refine T.cond rfl (fun hb19 => ?_) (fun hb19 => ?_)
       ·replace hk12 := inv_posB hb19 hk12
        refine T.skip ?_
        refine T.then_normal ?_
        refine T.seqJ (fun (s17 : (List (Int × Int)) × Int × (List (Int × (List UInt8))) × (List (Int × List UInt8)) × Bool × Int × Int × Int × Int × Int × List Int × List (List UInt8)) (x31 : (Option Addr × Nat) × (Ads) × (Option Addr × Nat) × (Option Addr × Nat)) => [(0, .slice A0 l0.length c0), (1, .slice A1 l1.length c1), (2, .int .i64 (IntKind.i64.wrap ((bitsOf .and .i64 a2 15) + 6))), (9, .pointer (some ⟨x5.1, 0, none⟩)), (11, .slice x31.2.2.1.1 s17.2.2.2.2.2.2.2.2.2.2.1.length x31.2.2.1.2), (12, .slice x31.2.2.2.1 s17.2.2.2.2.2.2.2.2.2.2.2.length x31.2.2.2.2), (13, .int .i64 s15.2.2.2.2.2.2.2.2.2.2.2.2)]) (fun s17 x31 => Ro (Elt.slice E8) A0 c0 l0 :: Ro EBool A1 c1 l1 :: Cl x5.1 45 [.int .i64 r2p0.1.1, .map (some x5.2), .pointer (some ⟨x2.1, 0, none⟩), .int .i64 r2p0.1.2.1, .int .u64 r2p0.1.2.2.1, .int .i64 r2p0.1.2.2.2] :: Mp E64 x5.2 s17.1 :: Cl x2.1 68 [.int .i64 s17.2.1, .map (some x2.2.1), .slice x31.1.1 s17.2.2.2.1.length x31.1.2, .bool s17.2.2.2.2.1, .int .i64 s17.2.2.2.2.2.1, .int .i64 s17.2.2.2.2.2.2.1, .int .u64 s17.2.2.2.2.2.2.2.1, .int .i64 s17.2.2.2.2.2.2.2.2.1, .int .i64 s17.2.2.2.2.2.2.2.2.2.1] :: Mp (Elt.slice E8) x2.2.1 s17.2.2.1 :: Hb 82 x31.1.1 x31.1.2 x31.2.1 s17.2.2.2.1 :: Bb 5 x31.2.1 s17.2.2.2.1 :: Bf E64 3 x31.2.2.1.1 x31.2.2.1.2 s17.2.2.2.2.2.2.2.2.2.2.1 :: Bf EStr 9 x31.2.2.2.1 x31.2.2.2.2 s17.2.2.2.2.2.2.2.2.2.2.2 :: hs) (fun s17 => law4_PageBack.k13 s15 s17 = some o4) (fun s17 x31 hk13 => ?_) (fun J13 => ?_)
        ·unfold law4_PageBack.k13 at hk13
         refine T.region ?_
         refine T.move .list rfl (wants0 rfl) rfl rfl ?_
         refine T.bin .list rfl (wants0 rfl) rfl rfl rfl rfl ?_
         refine T.assign .list rfl (wants0 rfl) rfl rfl ?_
         refine T.nil ?_
         refine T.then_normal ?_
         obtain rfl := inv_some hk13
         exact T.le (EnvLe.cons rfl (EnvLe.cons rfl (EnvLe.cons rfl (EnvLe.cons rfl (EnvLe.cons rfl (EnvLe.cons rfl (EnvLe.cons rfl EnvLe.nil))))))) (T.pick [0, 1, 2, 3, 4, 5, 6, 7, 8, 9] 10 rfl rfl (Nat.le_add_left _ _) rfl (hm4 (s17.1, s17.2.1, s17.2.2.1, s17.2.2.2.1, s17.2.2.2.2.1, s17.2.2.2.2.2.1, s17.2.2.2.2.2.2.1, s17.2.2.2.2.2.2.2.1, s17.2.2.2.2.2.2.2.2.1, s17.2.2.2.2.2.2.2.2.2.1, s17.2.2.2.2.2.2.2.2.2.2.1, s17.2.2.2.2.2.2.2.2.2.2.2, IntKind.i64.wrap (s15.2.2.2.2.2.2.2.2.2.2.2.2 + 1)) rfl ((x31.1.1, x31.1.2), x31.2.1, (x31.2.2.1.1, x31.2.2.1.2), (x31.2.2.2.1, x31.2.2.2.2))))
        ·refine T.block ?_
         refine T.seq ?_
         refine T.plan [(0, 0), (1, 0), (2, 0), (4, 0), (5, 0), (6, 0), (3, 1), (7, 1), (8, 0), (9, 0), (10, 0), (11, 0)] mixed (by kernel_rfl) (by kernel_rfl) rfl (fun d _ _ _ _ h => by cases d <;> exact h) ?_
         refine T.move (.plan rfl) rfl (wants0 rfl) rfl rfl ?_
         refine T.move (.plan rfl) rfl (wants0 rfl) rfl rfl ?_
         obtain ⟨hc6, hk12⟩ := inv_chk hk12
         refine T.idxRo (.plan rfl) 0 rfl rfl (wants0 rfl) rfl rfl rfl hc6.1 hc6.2 (Nat.le_refl _) ?_
         refine T.move (.plan rfl) rfl (wants0 rfl) rfl rfl ?_
         refine T.move (.plan rfl) rfl (wants0 rfl) rfl rfl ?_
         obtain ⟨hc7, hk12⟩ := inv_chk hk12
         refine T.idxRo (.plan rfl) 0 rfl rfl (wants0 rfl) rfl rfl rfl hc7.1 hc7.2 (Nat.le_refl _) ?_
         refine T.ldSlice (.plan rfl) 0 rfl rfl (wants0 rfl) rfl rfl hc6.1 hc6.2 (fun x32 => ?_)
         refine T.ldSlice (.plan rfl) 1 rfl rfl (wants0 rfl) rfl rfl hc7.1 hc7.2 (fun x33 => ?_)
         refine T.lenSlice (.plan rfl) rfl (wants0 rfl) rfl rfl ?_
         refine T.min2 (.plan rfl) rfl (wants0 rfl) rfl rfl rfl ?_
         obtain ⟨hc8, hk12⟩ := inv_chk hk12
         refine T.cut0 (.plan rfl) 1 rfl rfl rfl (wants0 rfl) rfl rfl (.inl rfl) (.inr ⟨_, _, rfl, rfl⟩) hc8.1 hc8.2 ?_
         refine T.assign (.plan rfl) rfl (wants0 rfl) rfl rfl ?_
         refine T.planEnd ?_
         refine T.then_normal ?_
         refine T.seq ?_
         refine T.region ?_
         refine T.move .list rfl (wants0 rfl) rfl rfl ?_
         refine T.move .list rfl (wants0 rfl) rfl rfl ?_
         refine T.pick [5, 6, 7, 8, 9, 10, 0, 1, 2, 3, 4, 11, 12] 13 rfl rfl (Nat.le_add_left _ _) (hs' := Cl x5.1 45 [.int .i64 r2p0.1.1, .map (some x5.2), .pointer (some ⟨x2.1, 0, none⟩), .int .i64 r2p0.1.2.1, .int .u64 r2p0.1.2.2.1, .int .i64 r2p0.1.2.2.2] :: Mp E64 x5.2 s15.1 :: Cl x2.1 68 [.int .i64 s15.2.1, .map (some x2.2.1), .slice x29.1.1 s15.2.2.2.1.length x29.1.2, .bool s15.2.2.2.2.1, .int .i64 s15.2.2.2.2.2.1, .int .i64 s15.2.2.2.2.2.2.1, .int .u64 s15.2.2.2.2.2.2.2.1, .int .i64 s15.2.2.2.2.2.2.2.2.1, .int .i64 s15.2.2.2.2.2.2.2.2.2.1] :: Mp (Elt.slice E8) x2.2.1 s15.2.2.1 :: Hb 82 x29.1.1 x29.1.2 x29.2.1 s15.2.2.2.1 :: Bb 5 x29.2.1 s15.2.2.2.1 :: Ro E8 x32.1 x32.2 (subl (((l0).getD (s15.2.2.2.2.2.2.2.2.2.2.2.2 : Int).toNat default)) 0 (min (((((l0).getD (s15.2.2.2.2.2.2.2.2.2.2.2.2 : Int).toNat default)).length : Int)) 100)) :: Ro E8 x33.1 x33.2 (((l0).getD (s15.2.2.2.2.2.2.2.2.2.2.2.2 : Int).toNat default)) :: Ro E8 x32.1 x32.2 (((l0).getD (s15.2.2.2.2.2.2.2.2.2.2.2.2 : Int).toNat default)) :: Ro (Elt.slice E8) A0 c0 l0 :: Ro EBool A1 c1 l1 :: Bf E64 3 x29.2.2.1.1 x29.2.2.1.2 s15.2.2.2.2.2.2.2.2.2.2.1 :: Bf EStr 9 x29.2.2.2.1 x29.2.2.2.2 s15.2.2.2.2.2.2.2.2.2.2.2.1 :: hs) rfl ?_
         obtain ⟨r13, hg13, hk12⟩ := inv_bind hk12
         refine T.call .list (wants0 rfl) rfl (run_callF (vs := [_, _]) rfl Try.func9 rfl (by decide) rfl) (fun w hS => page_Store_Put.c hS (i1 := 6) (o0 := (r2p0.1.1, r2p0.1.2.1, r2p0.1.2.2.1, r2p0.1.2.2.2)) (q0b := s15.1) (o0c := (s15.2.1, s15.2.2.2.2.1, s15.2.2.2.2.2.1, s15.2.2.2.2.2.2.1, s15.2.2.2.2.2.2.2.1, s15.2.2.2.2.2.2.2.2.1, s15.2.2.2.2.2.2.2.2.2.1)) (q0cb := s15.2.2.1) (q0cc := s15.2.2.2.1) rfl hg13) (fun x34 => ?_)
         refine T.move .list rfl (wants0 rfl) rfl rfl ?_
         refine T.extract .list rfl (wants0 rfl) rfl rfl rfl ?_
         refine T.extract .list rfl (wants0 rfl) rfl rfl rfl ?_
         refine T.assign .list rfl (wants0 rfl) rfl rfl ?_
         refine T.assign .list rfl (wants0 rfl) rfl rfl ?_
         refine T.nil ?_
         refine T.then_normal ?_
         refine T.seq ?_
         refine T.seqJ (fun (s18 : Bool) (x35 : Unit) => [(0, .slice A0 l0.length c0), (1, .slice A1 l1.length c1), (2, .int .i64 (IntKind.i64.wrap ((bitsOf .and .i64 a2 15) + 6))), (9, .pointer (some ⟨x5.1, 0, none⟩)), (11, .slice x29.2.2.1.1 s15.2.2.2.2.2.2.2.2.2.2.1.length x29.2.2.1.2), (12, .slice x29.2.2.2.1 s15.2.2.2.2.2.2.2.2.2.2.2.1.length x29.2.2.2.2), (13, .int .i64 s15.2.2.2.2.2.2.2.2.2.2.2.2), (14, .slice x32.1 ((subl (((l0).getD (s15.2.2.2.2.2.2.2.2.2.2.2.2 : Int).toNat default)) 0 (min (((((l0).getD (s15.2.2.2.2.2.2.2.2.2.2.2.2 : Int).toNat default)).length : Int)) 100)).length) x32.2), (15, .int .i64 r13.1), (82, .bool s18)]) (fun s18 x35 => Ro (Elt.slice E8) A0 c0 l0 :: Ro EBool A1 c1 l1 :: Cl x5.1 45 [.int .i64 r2p0.1.1, .map (some x5.2), .pointer (some ⟨x2.1, 0, none⟩), .int .i64 r2p0.1.2.1, .int .u64 r2p0.1.2.2.1, .int .i64 r2p0.1.2.2.2] :: Mp E64 x5.2 r13.2.2.1 :: Cl x2.1 68 [.int .i64 r13.2.2.2.1.1, .map (some x2.2.1), .slice x34.1.1 r13.2.2.2.2.2.length x34.1.2, .bool r13.2.2.2.1.2.1, .int .i64 r13.2.2.2.1.2.2.1, .int .i64 r13.2.2.2.1.2.2.2.1, .int .u64 r13.2.2.2.1.2.2.2.2.1, .int .i64 r13.2.2.2.1.2.2.2.2.2.1, .int .i64 r13.2.2.2.1.2.2.2.2.2.2] :: Mp (Elt.slice E8) x2.2.1 r13.2.2.2.2.1 :: Hb 82 x34.1.1 x34.1.2 x34.2 r13.2.2.2.2.2 :: Bb 5 x34.2 r13.2.2.2.2.2 :: Bf E64 3 x29.2.2.1.1 x29.2.2.1.2 s15.2.2.2.2.2.2.2.2.2.2.1 :: Bf EStr 9 x29.2.2.2.1 x29.2.2.2.2 s15.2.2.2.2.2.2.2.2.2.2.2.1 :: Ro E8 x32.1 x32.2 (subl (((l0).getD (s15.2.2.2.2.2.2.2.2.2.2.2.2 : Int).toNat default)) 0 (min (((((l0).getD (s15.2.2.2.2.2.2.2.2.2.2.2.2 : Int).toNat default)).length : Int)) 100)) :: hs) (fun s18 => law4_PageBack.k14 s15 r13 l0 s18 = some o4) (fun s18 x35 hk14 => ?_) (fun J14 => ?_)
         ·unfold law4_PageBack.k14 at hk14
          refine T.cond rfl (fun hb20 => ?_) (fun hb20 => ?_)
          ·replace hk14 := inv_posB hb20 hk14
           refine T.seq ?_
           refine T.region ?_
           refine T.assign .list rfl (wants0 rfl) rfl rfl ?_
           refine T.nil ?_
           refine T.then_normal ?_
           refine T.ret ?_
           refine T.then_ret ?_
           refine T.in_ret ?_
           refine T.then_ret ?_
           refine T.then_ret ?_
           obtain rfl := inv_some hk14
           obtain rfl := hx4 _ rfl
           refine T.in_ret ?_
           refine T.then_ret ?_
           obtain rfl := inv_some hk2
           refine T.pick [] 11 rfl rfl (Nat.le_add_left _ _) rfl ?_
           refine T.ret1 rfl rfl (fun w hS => ⟨(), rfl, hS⟩)
          ·replace hk14 := inv_negB hb20 hk14
           refine T.skip ?_
           refine T.then_normal ?_
           refine T.dStart mixed ?_
           refine T.move (.dPure (i := 0) rfl (by kernel_rfl) (fun d _ _ _ _ h => by cases d <;> exact h)) rfl (wants0 rfl) rfl rfl ?_
           refine T.move (.dPure (i := 1) rfl (by kernel_rfl) (fun d _ _ _ _ h => by cases d <;> exact h)) rfl (wants0 rfl) rfl rfl ?_
           refine T.move (.dPure (i := 4) rfl (by kernel_rfl) (fun d _ _ _ _ h => by cases d <;> exact h)) rfl (wants0 rfl) rfl rfl ?_
           refine T.move (.dPure (i := 5) rfl (by kernel_rfl) (fun d _ _ _ _ h => by cases d <;> exact h)) rfl (wants0 rfl) rfl rfl ?_
           refine T.keep (fun z1 hk15 => ?_)
           refine T.dAdd 11 (fun w => PH.le z1 (PH.of w)) (Kp.le 0 rfl) ?_
           refine T.valS 0 (i := 6) (str (subl (((l0).getD (s15.2.2.2.2.2.2.2.2.2.2.2.2 : Int).toNat default)) 0 (min (((((l0).getD (s15.2.2.2.2.2.2.2.2.2.2.2.2 : Int).toNat default)).length : Int)) 100))) rfl rfl (by kernel_rfl) (by kernel_rfl) (fun d _ _ _ _ h => by cases d <;> exact h) (wants0 rfl) rfl (run_strRo (hk15 10 rfl).1 rfl rfl rfl) ?_
           obtain ⟨hc9, hk14⟩ := inv_chk hk14
           obtain ⟨hc10, hk14⟩ := inv_chk hk14
           refine T.d2 (i := 2) (j := 7) (by kernel_rfl) ?_ ?_ 
           ·refine T.lit (E := E64) (.dOne rfl (by kernel_rfl)) (vals := [(0, .int .i64 r13.1)]) (cells := #[.int .i64 r13.1]) rfl (wants0 rfl) rfl rfl rfl rfl rfl (by kernel_rfl) ([r13.1] : List Int) rfl (fun _ _ _ _ _ => (Encs.c1 (enc := (Value.int .i64)) (h1 := fun _ => rfl) rfl rfl)) (fun b2 => ?_)
            refine T.dNext (phi_cons (.inr (Kp.le 1 rfl)) phi_nil) ?_
            refine T.d2 (i := 3) (j := 7) (by kernel_rfl) ?_ ?_ 
            ·refine T.appBf (.dOne rfl (by kernel_rfl)) 10 0 rfl rfl rfl rfl rfl (wants0 rfl) rfl rfl rfl rfl rfl rfl hc9 (fun _ _ => rfl) (fun A4 c4 => ?_)
             refine T.dNext (phi_cons (.inr (Kp.le 1 rfl)) phi_nil) ?_
             refine T.dOnly (i := 7) (by kernel_rfl) ?_
             refine T.lit (E := EStr) (.dOne rfl (by kernel_rfl)) (vals := [(0, str (subl (((l0).getD (s15.2.2.2.2.2.2.2.2.2.2.2.2 : Int).toNat default)) 0 (min (((((l0).getD (s15.2.2.2.2.2.2.2.2.2.2.2.2 : Int).toNat default)).length : Int)) 100)))]) (cells := #[str (subl (((l0).getD (s15.2.2.2.2.2.2.2.2.2.2.2.2 : Int).toNat default)) 0 (min (((((l0).getD (s15.2.2.2.2.2.2.2.2.2.2.2.2 : Int).toNat default)).length : Int)) 100))]) rfl (wants0 rfl) rfl rfl rfl rfl rfl (by kernel_rfl) ([(subl (((l0).getD (s15.2.2.2.2.2.2.2.2.2.2.2.2 : Int).toNat default)) 0 (min (((((l0).getD (s15.2.2.2.2.2.2.2.2.2.2.2.2 : Int).toNat default)).length : Int)) 100))] : List (List UInt8)) rfl (fun _ _ _ _ _ => (Encs.c1 (enc := str) (h1 := fun _ => rfl) rfl rfl)) (fun b3 => ?_)
             refine T.dNext (phi_cons (.inr (Kp.le 2 rfl)) phi_nil) ?_
             refine T.dOnly (i := 8) (by kernel_rfl) ?_
             refine T.appBf (.dOne rfl (by kernel_rfl)) 12 0 rfl rfl rfl rfl rfl (wants0 rfl) rfl rfl rfl rfl rfl rfl hc10 (fun _ _ => rfl) (fun A5 c5 => ?_)
             refine T.dNext (phi_cons (.inr (Kp.le 2 rfl)) phi_nil) ?_
             refine T.assign (.dPure (i := 9) rfl (by kernel_rfl) (fun d _ _ _ _ h => by cases d <;> exact h)) rfl (wants0 rfl) rfl rfl ?_
             refine T.assign (.dPure (i := 10) rfl (by kernel_rfl) (fun d _ _ _ _ h => by cases d <;> exact h)) rfl (wants0 rfl) rfl rfl ?_
             refine T.dDone (by kernel_rfl) ?_
             refine T.in_normal ?_
             refine T.then_normal ?_
             exact T.le (EnvLe.cons rfl (EnvLe.cons rfl (EnvLe.cons rfl (EnvLe.cons rfl (EnvLe.cons rfl (EnvLe.cons rfl (EnvLe.cons rfl EnvLe.nil))))))) (T.pick [3, 4, 5, 6, 7, 8, 9, 10, 11, 12] 14 rfl rfl (Nat.le_add_left _ _) rfl (J13 (r13.2.2.1, r13.2.2.2.1.1, r13.2.2.2.2.1, r13.2.2.2.2.2, r13.2.2.2.1.2.1, r13.2.2.2.1.2.2.1, r13.2.2.2.1.2.2.2.1, r13.2.2.2.1.2.2.2.2.1, r13.2.2.2.1.2.2.2.2.2.1, r13.2.2.2.1.2.2.2.2.2.2, (s15.2.2.2.2.2.2.2.2.2.2.1 ++ (([r13.1] : List Int))), (s15.2.2.2.2.2.2.2.2.2.2.2.1 ++ (([(subl (((l0).getD (s15.2.2.2.2.2.2.2.2.2.2.2.2 : Int).toNat default)) 0 (min (((((l0).getD (s15.2.2.2.2.2.2.2.2.2.2.2.2 : Int).toNat default)).length : Int)) 100))] : List (List UInt8))))) ((x34.1.1, x34.1.2), x34.2, (A4, c4), (A5, c5)) hk14))
            ·refine T.lit (E := EStr) (.dOne rfl (by kernel_rfl)) (vals := [(0, str (subl (((l0).getD (s15.2.2.2.2.2.2.2.2.2.2.2.2 : Int).toNat default)) 0 (min (((((l0).getD (s15.2.2.2.2.2.2.2.2.2.2.2.2 : Int).toNat default)).length : Int)) 100)))]) (cells := #[str (subl (((l0).getD (s15.2.2.2.2.2.2.2.2.2.2.2.2 : Int).toNat default)) 0 (min (((((l0).getD (s15.2.2.2.2.2.2.2.2.2.2.2.2 : Int).toNat default)).length : Int)) 100))]) rfl (wants0 rfl) rfl rfl rfl rfl rfl (by kernel_rfl) ([(subl (((l0).getD (s15.2.2.2.2.2.2.2.2.2.2.2.2 : Int).toNat default)) 0 (min (((((l0).getD (s15.2.2.2.2.2.2.2.2.2.2.2.2 : Int).toNat default)).length : Int)) 100))] : List (List UInt8)) rfl (fun _ _ _ _ _ => (Encs.c1 (enc := str) (h1 := fun _ => rfl) rfl rfl)) (fun b3 => ?_)
             refine T.dNext (phi_cons (.inr (Kp.le 2 rfl)) phi_nil) ?_
             refine T.dOnly (i := 3) (by kernel_rfl) ?_
             refine T.appBf (.dOne rfl (by kernel_rfl)) 11 1 rfl rfl rfl rfl rfl (wants0 rfl) rfl rfl rfl rfl rfl rfl hc9 (fun _ _ => rfl) (fun A4 c4 => ?_)
             refine T.dNext (phi_cons (.inr (Kp.le 2 rfl)) phi_nil) ?_
             refine T.dOnly (i := 8) (by kernel_rfl) ?_
             refine T.appBf (.dOne rfl (by kernel_rfl)) 12 0 rfl rfl rfl rfl rfl (wants0 rfl) rfl rfl rfl rfl rfl rfl hc10 (fun _ _ => rfl) (fun A5 c5 => ?_)
             refine T.dNext (phi_cons (.inr (Kp.le 2 rfl)) phi_nil) ?_
             refine T.assign (.dPure (i := 9) rfl (by kernel_rfl) (fun d _ _ _ _ h => by cases d <;> exact h)) rfl (wants0 rfl) rfl rfl ?_
             refine T.assign (.dPure (i := 10) rfl (by kernel_rfl) (fun d _ _ _ _ h => by cases d <;> exact h)) rfl (wants0 rfl) rfl rfl ?_
             refine T.dDone (by kernel_rfl) ?_
             refine T.in_normal ?_
             refine T.then_normal ?_
             exact T.le (EnvLe.cons rfl (EnvLe.cons rfl (EnvLe.cons rfl (EnvLe.cons rfl (EnvLe.cons rfl (EnvLe.cons rfl (EnvLe.cons rfl EnvLe.nil))))))) (T.pick [3, 4, 5, 6, 7, 8, 9, 10, 11, 12] 14 rfl rfl (Nat.le_add_left _ _) rfl (J13 (r13.2.2.1, r13.2.2.2.1.1, r13.2.2.2.2.1, r13.2.2.2.2.2, r13.2.2.2.1.2.1, r13.2.2.2.1.2.2.1, r13.2.2.2.1.2.2.2.1, r13.2.2.2.1.2.2.2.2.1, r13.2.2.2.1.2.2.2.2.2.1, r13.2.2.2.1.2.2.2.2.2.2, (s15.2.2.2.2.2.2.2.2.2.2.1 ++ (([r13.1] : List Int))), (s15.2.2.2.2.2.2.2.2.2.2.2.1 ++ (([(subl (((l0).getD (s15.2.2.2.2.2.2.2.2.2.2.2.2 : Int).toNat default)) 0 (min (((((l0).getD (s15.2.2.2.2.2.2.2.2.2.2.2.2 : Int).toNat default)).length : Int)) 100))] : List (List UInt8))))) ((x34.1.1, x34.1.2), x34.2, (A4, c4), (A5, c5)) hk14))
           ·refine T.lit (E := EStr) (.dOne rfl (by kernel_rfl)) (vals := [(0, str (subl (((l0).getD (s15.2.2.2.2.2.2.2.2.2.2.2.2 : Int).toNat default)) 0 (min (((((l0).getD (s15.2.2.2.2.2.2.2.2.2.2.2.2 : Int).toNat default)).length : Int)) 100)))]) (cells := #[str (subl (((l0).getD (s15.2.2.2.2.2.2.2.2.2.2.2.2 : Int).toNat default)) 0 (min (((((l0).getD (s15.2.2.2.2.2.2.2.2.2.2.2.2 : Int).toNat default)).length : Int)) 100))]) rfl (wants0 rfl) rfl rfl rfl rfl rfl (by kernel_rfl) ([(subl (((l0).getD (s15.2.2.2.2.2.2.2.2.2.2.2.2 : Int).toNat default)) 0 (min (((((l0).getD (s15.2.2.2.2.2.2.2.2.2.2.2.2 : Int).toNat default)).length : Int)) 100))] : List (List UInt8)) rfl (fun _ _ _ _ _ => (Encs.c1 (enc := str) (h1 := fun _ => rfl) rfl rfl)) (fun b3 => ?_)
            refine T.dNext (phi_cons (.inr (Kp.le 1 rfl)) phi_nil) ?_
            refine T.dOnly (i := 2) (by kernel_rfl) ?_
            refine T.lit (E := E64) (.dOne rfl (by kernel_rfl)) (vals := [(0, .int .i64 r13.1)]) (cells := #[.int .i64 r13.1]) rfl (wants0 rfl) rfl rfl rfl rfl rfl (by kernel_rfl) ([r13.1] : List Int) rfl (fun _ _ _ _ _ => (Encs.c1 (enc := (Value.int .i64)) (h1 := fun _ => rfl) rfl rfl)) (fun b2 => ?_)
            refine T.dNext (phi_cons (.inr (Kp.le 2 rfl)) phi_nil) ?_
            refine T.dOnly (i := 3) (by kernel_rfl) ?_
            refine T.appBf (.dOne rfl (by kernel_rfl)) 11 0 rfl rfl rfl rfl rfl (wants0 rfl) rfl rfl rfl rfl rfl rfl hc9 (fun _ _ => rfl) (fun A4 c4 => ?_)
            refine T.dNext (phi_cons (.inr (Kp.le 2 rfl)) phi_nil) ?_
            refine T.dOnly (i := 8) (by kernel_rfl) ?_
            refine T.appBf (.dOne rfl (by kernel_rfl)) 12 1 rfl rfl rfl rfl rfl (wants0 rfl) rfl rfl rfl rfl rfl rfl hc10 (fun _ _ => rfl) (fun A5 c5 => ?_)
            refine T.dNext (phi_cons (.inr (Kp.le 2 rfl)) phi_nil) ?_
            refine T.assign (.dPure (i := 9) rfl (by kernel_rfl) (fun d _ _ _ _ h => by cases d <;> exact h)) rfl (wants0 rfl) rfl rfl ?_
            refine T.assign (.dPure (i := 10) rfl (by kernel_rfl) (fun d _ _ _ _ h => by cases d <;> exact h)) rfl (wants0 rfl) rfl rfl ?_
            refine T.dDone (by kernel_rfl) ?_
            refine T.in_normal ?_
            refine T.then_normal ?_
            exact T.le (EnvLe.cons rfl (EnvLe.cons rfl (EnvLe.cons rfl (EnvLe.cons rfl (EnvLe.cons rfl (EnvLe.cons rfl (EnvLe.cons rfl EnvLe.nil))))))) (T.pick [3, 4, 5, 6, 7, 8, 9, 10, 11, 12] 14 rfl rfl (Nat.le_add_left _ _) rfl (J13 (r13.2.2.1, r13.2.2.2.1.1, r13.2.2.2.2.1, r13.2.2.2.2.2, r13.2.2.2.1.2.1, r13.2.2.2.1.2.2.1, r13.2.2.2.1.2.2.2.1, r13.2.2.2.1.2.2.2.2.1, r13.2.2.2.1.2.2.2.2.2.1, r13.2.2.2.1.2.2.2.2.2.2, (s15.2.2.2.2.2.2.2.2.2.2.1 ++ (([r13.1] : List Int))), (s15.2.2.2.2.2.2.2.2.2.2.2.1 ++ (([(subl (((l0).getD (s15.2.2.2.2.2.2.2.2.2.2.2.2 : Int).toNat default)) 0 (min (((((l0).getD (s15.2.2.2.2.2.2.2.2.2.2.2.2 : Int).toNat default)).length : Int)) 100))] : List (List UInt8))))) ((x34.1.1, x34.1.2), x34.2, (A4, c4), (A5, c5)) hk14))
         ·refine T.region ?_
          refine T.move .list rfl (wants0 rfl) rfl rfl ?_
          refine T.bin .list rfl (wants0 rfl) rfl rfl rfl rfl ?_
          refine T.move .list rfl (wants0 rfl) rfl rfl ?_
          refine T.bool (b := (decide (r13.2.1 = 0))) (fun hb21 => ?_) (fun hb21 => ?_)
          ·replace hk12 := inv_posB hb21 hk12
           refine T.move .list rfl (wants1 rfl rfl rfl (not_t hb21)) rfl rfl ?_
           refine T.move .list rfl (wants1 rfl rfl rfl (not_t hb21)) rfl rfl ?_
           refine T.bin .list rfl (wants1 rfl rfl rfl (not_t hb21)) rfl rfl rfl rfl ?_
           refine T.bin .list rfl (wants1 rfl rfl rfl (not_t hb21)) rfl rfl rfl rfl ?_
           refine T.pickF .list rfl (wants0 rfl) rfl rfl (not_t hb21) rfl ?_
           refine T.nil ?_
           refine T.then_normal ?_
           exact T.le (EnvLe.cons rfl (EnvLe.cons rfl (EnvLe.cons rfl (EnvLe.cons rfl (EnvLe.cons rfl (EnvLe.cons rfl (EnvLe.cons rfl (EnvLe.cons rfl (EnvLe.cons rfl (EnvLe.cons rfl EnvLe.nil)))))))))) (T.pick [9, 10, 0, 1, 2, 3, 4, 5, 11, 12, 6] 13 rfl rfl (Nat.le_add_left _ _) rfl (J14 (!(decide (r13.1 = (IntKind.i64.wrap (2 + s15.2.2.2.2.2.2.2.2.2.2.2.2))))) () hk12))
          ·replace hk12 := inv_negB hb21 hk12
           refine T.leave .list (wantsNot rfl rfl rfl (not_f hb21)) rfl ?_
           refine T.leave .list (wantsNot rfl rfl rfl (not_f hb21)) rfl ?_
           refine T.leave .list (wantsNot rfl rfl rfl (not_f hb21)) rfl ?_
           refine T.leave .list (wantsNot rfl rfl rfl (not_f hb21)) rfl ?_
           refine T.pickT .list rfl (wants0 rfl) rfl rfl (not_f hb21) rfl ?_
           refine T.nil ?_
           refine T.then_normal ?_
           exact T.le (EnvLe.cons rfl (EnvLe.cons rfl (EnvLe.cons rfl (EnvLe.cons rfl (EnvLe.cons rfl (EnvLe.cons rfl (EnvLe.cons rfl (EnvLe.cons rfl (EnvLe.cons rfl (EnvLe.cons rfl EnvLe.nil)))))))))) (T.pick [9, 10, 0, 1, 2, 3, 4, 5, 11, 12, 6] 13 rfl rfl (Nat.le_add_left _ _) rfl (J14 true () hk12))
       ·replace hk12 := inv_negB hb19 hk12
        refine T.exit ?_
        refine T.then_exit ?_
        refine T.then_exit ?_
        obtain rfl := inv_some hk12
        obtain rfl := hx4 _ rfl
        refine T.in_hit ?_
        refine T.then_normal ?_
        exact T.le (EnvLe.cons rfl (EnvLe.cons rfl (EnvLe.cons rfl (EnvLe.cons rfl (EnvLe.cons rfl EnvLe.nil))))) (T.pick [1, 2, 3, 4, 5, 6, 7, 8, 9] 10 rfl rfl (Nat.le_add_left _ _) rfl (J3 (s15.1, s15.2.1, s15.2.2.1, s15.2.2.2.1, s15.2.2.2.2.1, s15.2.2.2.2.2.1, s15.2.2.2.2.2.2.1, s15.2.2.2.2.2.2.2.1, s15.2.2.2.2.2.2.2.2.1, s15.2.2.2.2.2.2.2.2.2.1, s15.2.2.2.2.2.2.2.2.2.2.1, s15.2.2.2.2.2.2.2.2.2.2.2.1) ((x29.1.1, x29.1.2), x29.2.1, (x29.2.2.1.1, x29.2.2.1.2), (x29.2.2.2.1, x29.2.2.2.2)) hk2))
      ·refine T.region ?_
       refine T.move .list rfl (wants0 rfl) rfl rfl ?_
       refine T.move .list rfl (wants0 rfl) rfl rfl ?_
       refine T.lenSlice .list rfl (wants0 rfl) rfl rfl ?_
       refine T.bin .list rfl (wants0 rfl) rfl rfl rfl rfl ?_
       refine T.move .list rfl (wants0 rfl) rfl rfl ?_
       refine T.bool (b := (decide (s15.2.2.2.2.2.2.2.2.2.2.2.2 < ((l0.length : Int))))) (fun hb22 => ?_) (fun hb22 => ?_)
       ·replace he4 := inv_posB hb22 he4
        refine T.move .list rfl (wants1 rfl rfl rfl hb22) rfl rfl ?_
        refine T.move .list rfl (wants1 rfl rfl rfl hb22) rfl rfl ?_
        refine T.bin .list rfl (wants1 rfl rfl rfl hb22) rfl rfl rfl rfl ?_
        refine T.bin .list rfl (wants1 rfl rfl rfl hb22) rfl rfl rfl rfl ?_
        refine T.pickT .list rfl (wants0 rfl) rfl rfl hb22 rfl ?_
        refine T.nil ?_
        refine T.then_normal ?_
        exact T.le (EnvLe.cons rfl (EnvLe.cons rfl (EnvLe.cons rfl (EnvLe.cons rfl (EnvLe.cons rfl (EnvLe.cons rfl (EnvLe.cons rfl (EnvLe.cons rfl EnvLe.nil)))))))) (T.pick [0, 1, 2, 3, 4, 5, 6, 7, 8, 9] 10 rfl rfl (Nat.le_add_left _ _) rfl (J12 (decide (s15.2.2.2.2.2.2.2.2.2.2.2.2 < (IntKind.i64.wrap ((IntKind.i64.wrap ((bitsOf .and .i64 a2 15) + 6)) - 3)))) () he4))
       ·replace he4 := inv_negB hb22 he4
        refine T.leave .list (wantsNot rfl rfl rfl hb22) rfl ?_
        refine T.leave .list (wantsNot rfl rfl rfl hb22) rfl ?_
        refine T.leave .list (wantsNot rfl rfl rfl hb22) rfl ?_
        refine T.leave .list (wantsNot rfl rfl rfl hb22) rfl ?_
        refine T.pickF .list rfl (wants0 rfl) rfl rfl hb22 rfl ?_
        refine T.nil ?_
        refine T.then_normal ?_
        exact T.le (EnvLe.cons rfl (EnvLe.cons rfl (EnvLe.cons rfl (EnvLe.cons rfl (EnvLe.cons rfl (EnvLe.cons rfl (EnvLe.cons rfl (EnvLe.cons rfl EnvLe.nil)))))))) (T.pick [0, 1, 2, 3, 4, 5, 6, 7, 8, 9] 10 rfl rfl (Nat.le_add_left _ _) rfl (J12 false () he4))
   ·refine T.region ?_
    refine T.move .list rfl (wants0 rfl) rfl rfl ?_
    refine T.bin .list rfl (wants0 rfl) rfl rfl rfl rfl ?_
    refine T.move .list rfl (wants0 rfl) rfl rfl ?_
    refine T.bool (b := (decide (r2p1 = 0))) (fun hb23 => ?_) (fun hb23 => ?_)
    ·replace hr := inv_posB hb23 hr
     refine T.move .list rfl (wants1 rfl rfl rfl (not_t hb23)) rfl rfl ?_
     refine T.ptrEq (pt := 45) .list rfl (wants1 rfl rfl rfl (not_t hb23)) rfl rfl rfl (by kernel_rfl) (.inr rfl) rfl ?_
     refine T.pickF .list rfl (wants0 rfl) rfl rfl (not_t hb23) rfl ?_
     refine T.nil ?_
     refine T.then_normal ?_
     exact T.le (EnvLe.cons rfl (EnvLe.cons rfl (EnvLe.cons rfl (EnvLe.cons rfl (EnvLe.cons rfl EnvLe.nil))))) (T.pick [7, 6, 4, 5, 0, 1, 2, 3] 8 rfl rfl (Nat.le_add_left _ _) rfl (J2 false () hr))
    ·replace hr := inv_negB hb23 hr
     refine T.leave .list (wantsNot rfl rfl rfl (not_f hb23)) rfl ?_
     refine T.leave .list (wantsNot rfl rfl rfl (not_f hb23)) rfl ?_
     refine T.pickT .list rfl (wants0 rfl) rfl rfl (not_f hb23) rfl ?_
     refine T.nil ?_
     refine T.then_normal ?_
     exact T.le (EnvLe.cons rfl (EnvLe.cons rfl (EnvLe.cons rfl (EnvLe.cons rfl (EnvLe.cons rfl EnvLe.nil))))) (T.pick [7, 6, 4, 5, 0, 1, 2, 3] 8 rfl rfl (Nat.le_add_left _ _) rfl (J2 true () hr))
end Go.Proofs.Ytccifnjlfhdpiaa
