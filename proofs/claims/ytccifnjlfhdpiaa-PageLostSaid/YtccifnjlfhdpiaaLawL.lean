/- LawL: what the functions compute, and that the program computes it; printed by a program of ours. -/
import Derived.Test.YtccifnjlfhdpiaaLawT
set_option linter.unusedVariables false
set_option linter.unusedSimpArgs false
namespace Go.Proofs.Ytccifnjlfhdpiaa
open Go.RowKit
noncomputable def law4_PageLost.k1 (s1 : Unit) : Option Bool :=
  some false
noncomputable def law4_PageLost.k6 (r7 : (Int × Bool × Int × Int × Int × Int × Int)) (s5 : Int × (List (Int × (List UInt8))) × (List (Int × List UInt8)) × Bool × Int × Int × Int × Int × Int × Int × (List (Int × Int)) × Int × Int × Int × Bool) (s6 : Bool) : Option Bool :=
  (if s6 = true then some false else (page_Open.impl ((r7.1, r7.2.1, r7.2.2.1, r7.2.2.2.1, r7.2.2.2.2.1, r7.2.2.2.2.2.1, r7.2.2.2.2.2.2)) s5.2.1 s5.2.2.1).bind fun r8 => (match r8 with | (none, r8p1) => ((law4_told.impl ).bind fun r9 => (if r9 = true then (if ((decide (r8p1 = 0))) = true then some false else some false) else some false)) | (some r8p0, r8p1) => ((law4_told.impl ).bind fun r10 => (if r10 = true then (if ((decide (r8p1 = 0))) = true then (page_counts_Left.impl r8p0.1.1 r8p0.2).bind fun r11 => (if ((decide (r11 = 18))) = true then (page_Store_Number.impl ((r8p0.1.1, r8p0.1.2.1, r8p0.1.2.2.1, r8p0.1.2.2.2)) r8p0.2 ((r7.1, r7.2.1, r7.2.2.1, r7.2.2.2.1, r7.2.2.2.2.1, r7.2.2.2.2.2.1, r7.2.2.2.2.2.2)) s5.2.1 s5.2.2.1).bind fun r12 => (if ((decide (r12 = 0))) = true then (page_Store_Root.impl ((r8p0.1.1, r8p0.1.2.1, r8p0.1.2.2.1, r8p0.1.2.2.2)) r8p0.2 ((r7.1, r7.2.1, r7.2.2.1, r7.2.2.2.1, r7.2.2.2.2.1, r7.2.2.2.2.2.1, r7.2.2.2.2.2.2)) s5.2.1 s5.2.2.1).bind fun r13 => (if ((decide (r13 = 0))) = true then (page_Store_Dead.impl ((r8p0.1.1, r8p0.1.2.1, r8p0.1.2.2.1, r8p0.1.2.2.2)) r8p0.2 ((r7.1, r7.2.1, r7.2.2.1, r7.2.2.2.1, r7.2.2.2.2.1, r7.2.2.2.2.2.1, r7.2.2.2.2.2.2)) s5.2.1 s5.2.2.1).bind fun r14 => some (!r14) else some false) else some false) else some false) else some false) else some false))))
noncomputable def law4_PageLost.k7 (r16 : (Int × Bool × Int × Int × Int × Int × Int)) (s5 : Int × (List (Int × (List UInt8))) × (List (Int × List UInt8)) × Bool × Int × Int × Int × Int × Int × Int × (List (Int × Int)) × Int × Int × Int × Bool) (s7 : Bool) : Option Bool :=
  (if s7 = true then some false else (page_Open.impl ((r16.1, r16.2.1, r16.2.2.1, r16.2.2.2.1, r16.2.2.2.2.1, r16.2.2.2.2.2.1, r16.2.2.2.2.2.2)) s5.2.1 s5.2.2.1).bind fun r17 => (match r17 with | (none, r17p1) => ((law4_told.impl ).bind fun r18 => (if r18 = true then (if ((decide (r17p1 = 0))) = true then some false else some false) else some false)) | (some r17p0, r17p1) => ((law4_told.impl ).bind fun r19 => (if r19 = true then (if ((decide (r17p1 = 0))) = true then (page_counts_Left.impl r17p0.1.1 r17p0.2).bind fun r20 => (if ((decide (r20 = 18))) = true then (page_Store_Number.impl ((r17p0.1.1, r17p0.1.2.1, r17p0.1.2.2.1, r17p0.1.2.2.2)) r17p0.2 ((r16.1, r16.2.1, r16.2.2.1, r16.2.2.2.1, r16.2.2.2.2.1, r16.2.2.2.2.2.1, r16.2.2.2.2.2.2)) s5.2.1 s5.2.2.1).bind fun r21 => (if ((decide (r21 = 0))) = true then (page_Store_Root.impl ((r17p0.1.1, r17p0.1.2.1, r17p0.1.2.2.1, r17p0.1.2.2.2)) r17p0.2 ((r16.1, r16.2.1, r16.2.2.1, r16.2.2.2.1, r16.2.2.2.2.1, r16.2.2.2.2.2.1, r16.2.2.2.2.2.2)) s5.2.1 s5.2.2.1).bind fun r22 => (if ((decide (r22 = 0))) = true then (page_Store_Dead.impl ((r17p0.1.1, r17p0.1.2.1, r17p0.1.2.2.1, r17p0.1.2.2.2)) r17p0.2 ((r16.1, r16.2.1, r16.2.2.1, r16.2.2.2.1, r16.2.2.2.2.1, r16.2.2.2.2.2.1, r16.2.2.2.2.2.2)) s5.2.1 s5.2.2.1).bind fun r23 => some (!r23) else some false) else some false) else some false) else some false) else some false))))
noncomputable def law4_PageLost.k5 (s5 : Int × (List (Int × (List UInt8))) × (List (Int × List UInt8)) × Bool × Int × Int × Int × Int × Int × Int × (List (Int × Int)) × Int × Int × Int × Bool) : Option Bool :=
  (if s5.2.2.2.2.2.2.2.2.2.2.2.2.2.2 = true then some false else (page_Open.impl ((s5.1, s5.2.2.2.1, s5.2.2.2.2.1, s5.2.2.2.2.2.1, s5.2.2.2.2.2.2.1, s5.2.2.2.2.2.2.2.1, s5.2.2.2.2.2.2.2.2.1)) s5.2.1 s5.2.2.1).bind fun r6 => (match r6 with | (none, r6p1) => ((disk_Disk_Restart.impl ((s5.1, s5.2.2.2.1, s5.2.2.2.2.1, s5.2.2.2.2.2.1, s5.2.2.2.2.2.2.1, s5.2.2.2.2.2.2.2.1, s5.2.2.2.2.2.2.2.2.1)) s5.2.1 s5.2.2.1).bind fun r7 => (page_Store_Dead.impl ((s5.2.2.2.2.2.2.2.2.2.1, s5.2.2.2.2.2.2.2.2.2.2.2.1, s5.2.2.2.2.2.2.2.2.2.2.2.2.1, s5.2.2.2.2.2.2.2.2.2.2.2.2.2.1)) s5.2.2.2.2.2.2.2.2.2.2.1 ((r7.1, r7.2.1, r7.2.2.1, r7.2.2.2.1, r7.2.2.2.2.1, r7.2.2.2.2.2.1, r7.2.2.2.2.2.2)) s5.2.1 s5.2.2.1).bind fun r15 => (if r15 = true then law4_PageLost.k6 r7 s5 (!(decide (r6p1 = 20))) else law4_PageLost.k6 r7 s5 true)) | (some r6p0, r6p1) => ((disk_Disk_Restart.impl ((s5.1, s5.2.2.2.1, s5.2.2.2.2.1, s5.2.2.2.2.2.1, s5.2.2.2.2.2.2.1, s5.2.2.2.2.2.2.2.1, s5.2.2.2.2.2.2.2.2.1)) s5.2.1 s5.2.2.1).bind fun r16 => (page_Store_Dead.impl ((s5.2.2.2.2.2.2.2.2.2.1, s5.2.2.2.2.2.2.2.2.2.2.2.1, s5.2.2.2.2.2.2.2.2.2.2.2.2.1, s5.2.2.2.2.2.2.2.2.2.2.2.2.2.1)) s5.2.2.2.2.2.2.2.2.2.2.1 ((r16.1, r16.2.1, r16.2.2.1, r16.2.2.2.1, r16.2.2.2.2.1, r16.2.2.2.2.2.1, r16.2.2.2.2.2.2)) s5.2.1 s5.2.2.1).bind fun r24 => (if r24 = true then law4_PageLost.k7 r16 s5 (!(decide (r6p1 = 20))) else law4_PageLost.k7 r16 s5 true))))
noncomputable def law4_PageLost.k4 (s3 : Int × (List (Int × (List UInt8))) × (List (Int × List UInt8)) × Bool × Int × Int × Int × Int × Int × (List (Int × Int))) (r2p0 : (Int × Int × Int × Int) × (List (Int × Int))) (s4 : Int × Int × Int × Int) : Option Bool :=
  (disk_Disk_Cut.impl ((s3.1, s3.2.2.2.1, s3.2.2.2.2.1, s3.2.2.2.2.2.1, s3.2.2.2.2.2.2.1, s3.2.2.2.2.2.2.2.1, s3.2.2.2.2.2.2.2.2.1)) s3.2.1 s3.2.2.1 ((s4.1, s4.2.1, s4.2.2.1, s4.2.2.2))).bind fun r3 => (page_Store_Put.impl ((r2p0.1.1, r2p0.1.2.1, r2p0.1.2.2.1, r2p0.1.2.2.2)) s3.2.2.2.2.2.2.2.2.2 ((r3.1.1, r3.1.2.1, r3.1.2.2.1, r3.1.2.2.2.1, r3.1.2.2.2.2.1, r3.1.2.2.2.2.2.1, r3.1.2.2.2.2.2.2)) r3.2.1 r3.2.2 (([] : List UInt8))).bind fun r4 => (page_Store_Get.impl ((r2p0.1.1, r2p0.1.2.1, r2p0.1.2.2.1, r2p0.1.2.2.2)) r4.2.2.1 ((r4.2.2.2.1.1, r4.2.2.2.1.2.1, r4.2.2.2.1.2.2.1, r4.2.2.2.1.2.2.2.1, r4.2.2.2.1.2.2.2.2.1, r4.2.2.2.1.2.2.2.2.2.1, r4.2.2.2.1.2.2.2.2.2.2)) r4.2.2.2.2.1 r4.2.2.2.2.2 2).bind fun r5 => (if ((decide (r4.2.1 = 20))) = true then (if ((decide (r5.2 = 20))) = true then (page_Store_Commit.impl ((r2p0.1.1, r2p0.1.2.1, r2p0.1.2.2.1, r2p0.1.2.2.2)) r4.2.2.1 ((r4.2.2.2.1.1, r4.2.2.2.1.2.1, r4.2.2.2.1.2.2.1, r4.2.2.2.1.2.2.2.1, r4.2.2.2.1.2.2.2.2.1, r4.2.2.2.1.2.2.2.2.2.1, r4.2.2.2.1.2.2.2.2.2.2)) r4.2.2.2.2.1 r4.2.2.2.2.2 0).bind fun r25 => (if ((decide (r25.1 = 20))) = true then (page_Store_Free.impl ((r25.2.1.1, r25.2.1.2.1, r25.2.1.2.2.1, r25.2.1.2.2.2)) r25.2.2.1 ((r25.2.2.2.1.1, r25.2.2.2.1.2.1, r25.2.2.2.1.2.2.1, r25.2.2.2.1.2.2.2.1, r25.2.2.2.1.2.2.2.2.1, r25.2.2.2.1.2.2.2.2.2.1, r25.2.2.2.1.2.2.2.2.2.2)) r25.2.2.2.2.1 r25.2.2.2.2.2 2).bind fun r26 => (if ((decide (r26.1 = 20))) = true then (page_Store_Hold.impl ((r25.2.1.1, r25.2.1.2.1, r25.2.1.2.2.1, r25.2.1.2.2.2)) r26.2 ((r25.2.2.2.1.1, r25.2.2.2.1.2.1, r25.2.2.2.1.2.2.1, r25.2.2.2.1.2.2.2.1, r25.2.2.2.1.2.2.2.2.1, r25.2.2.2.1.2.2.2.2.2.1, r25.2.2.2.1.2.2.2.2.2.2)) r25.2.2.2.2.1 r25.2.2.2.2.2 (([2] : List Int))).bind fun r27 => (if ((decide (r27.1 = 20))) = true then (page_Store_Dead.impl ((r25.2.1.1, r25.2.1.2.1, r25.2.1.2.2.1, r25.2.1.2.2.2)) r27.2 ((r25.2.2.2.1.1, r25.2.2.2.1.2.1, r25.2.2.2.1.2.2.1, r25.2.2.2.1.2.2.2.1, r25.2.2.2.1.2.2.2.2.1, r25.2.2.2.1.2.2.2.2.2.1, r25.2.2.2.1.2.2.2.2.2.2)) r25.2.2.2.2.1 r25.2.2.2.2.2).bind fun r28 => law4_PageLost.k5 (r25.2.2.2.1.1, r25.2.2.2.2.1, r25.2.2.2.2.2, r25.2.2.2.1.2.1, r25.2.2.2.1.2.2.1, r25.2.2.2.1.2.2.2.1, r25.2.2.2.1.2.2.2.2.1, r25.2.2.2.1.2.2.2.2.2.1, r25.2.2.2.1.2.2.2.2.2.2, r25.2.1.1, r27.2, r25.2.1.2.1, r25.2.1.2.2.1, r25.2.1.2.2.2, (!r28)) else law4_PageLost.k5 (r25.2.2.2.1.1, r25.2.2.2.2.1, r25.2.2.2.2.2, r25.2.2.2.1.2.1, r25.2.2.2.1.2.2.1, r25.2.2.2.1.2.2.2.1, r25.2.2.2.1.2.2.2.2.1, r25.2.2.2.1.2.2.2.2.2.1, r25.2.2.2.1.2.2.2.2.2.2, r25.2.1.1, r27.2, r25.2.1.2.1, r25.2.1.2.2.1, r25.2.1.2.2.2, true)) else law4_PageLost.k5 (r25.2.2.2.1.1, r25.2.2.2.2.1, r25.2.2.2.2.2, r25.2.2.2.1.2.1, r25.2.2.2.1.2.2.1, r25.2.2.2.1.2.2.2.1, r25.2.2.2.1.2.2.2.2.1, r25.2.2.2.1.2.2.2.2.2.1, r25.2.2.2.1.2.2.2.2.2.2, r25.2.1.1, r26.2, r25.2.1.2.1, r25.2.1.2.2.1, r25.2.1.2.2.2, true)) else law4_PageLost.k5 (r25.2.2.2.1.1, r25.2.2.2.2.1, r25.2.2.2.2.2, r25.2.2.2.1.2.1, r25.2.2.2.1.2.2.1, r25.2.2.2.1.2.2.2.1, r25.2.2.2.1.2.2.2.2.1, r25.2.2.2.1.2.2.2.2.2.1, r25.2.2.2.1.2.2.2.2.2.2, r25.2.1.1, r25.2.2.1, r25.2.1.2.1, r25.2.1.2.2.1, r25.2.1.2.2.2, true)) else law4_PageLost.k5 (r4.2.2.2.1.1, r4.2.2.2.2.1, r4.2.2.2.2.2, r4.2.2.2.1.2.1, r4.2.2.2.1.2.2.1, r4.2.2.2.1.2.2.2.1, r4.2.2.2.1.2.2.2.2.1, r4.2.2.2.1.2.2.2.2.2.1, r4.2.2.2.1.2.2.2.2.2.2, r2p0.1.1, r4.2.2.1, r2p0.1.2.1, r2p0.1.2.2.1, r2p0.1.2.2.2, true)) else law4_PageLost.k5 (r4.2.2.2.1.1, r4.2.2.2.2.1, r4.2.2.2.2.2, r4.2.2.2.1.2.1, r4.2.2.2.1.2.2.1, r4.2.2.2.1.2.2.2.1, r4.2.2.2.1.2.2.2.2.1, r4.2.2.2.1.2.2.2.2.2.1, r4.2.2.2.1.2.2.2.2.2.2, r2p0.1.1, r4.2.2.1, r2p0.1.2.1, r2p0.1.2.2.1, r2p0.1.2.2.2, true))
noncomputable def law4_PageLost.k3 (l1 : List (Int × Int × (List UInt8) × (Int × Int × Int × Int))) (r2p0 : (Int × Int × Int × Int) × (List (Int × Int))) (s3 : Int × (List (Int × (List UInt8))) × (List (Int × List UInt8)) × Bool × Int × Int × Int × Int × Int × (List (Int × Int))) : Option Bool :=
  (if ((decide ((0 : Int) < ((l1.length : Int))))) = true then chk (0 ≤ (0 : Int) ∧ (0 : Int) < (l1.length : Int)) (law4_PageLost.k4 s3 r2p0 ((((((l1).getD (0 : Int).toNat default)).2.2.2).1), (((((l1).getD (0 : Int).toNat default)).2.2.2).2.1), (((((l1).getD (0 : Int).toNat default)).2.2.2).2.2.1), (((((l1).getD (0 : Int).toNat default)).2.2.2).2.2.2))) else law4_PageLost.k4 s3 r2p0 (0, 0, -1, 0))
noncomputable def law4_PageLost.k8 (s8 : Int × (List (Int × (List UInt8))) × (List (Int × List UInt8)) × Bool × Int × Int × Int × Int × Int × (List (Int × Int)) × Int) (l0 : List (List UInt8)) (r2p0 : (Int × Int × Int × Int) × (List (Int × Int))) (s9 : Bool) : Option ((Int × (List (Int × (List UInt8))) × (List (Int × List UInt8)) × Bool × Int × Int × Int × Int × Int × (List (Int × Int)) × Int) ⊕ (Int × (List (Int × (List UInt8))) × (List (Int × List UInt8)) × Bool × Int × Int × Int × Int × Int × (List (Int × Int)))) :=
  (if s9 = true then chk (0 ≤ s8.2.2.2.2.2.2.2.2.2.2 ∧ s8.2.2.2.2.2.2.2.2.2.2 < (l0.length : Int)) (chk (0 ≤ s8.2.2.2.2.2.2.2.2.2.2 ∧ s8.2.2.2.2.2.2.2.2.2.2 < (l0.length : Int)) (chk (0 ≤ (min (((((l0).getD (s8.2.2.2.2.2.2.2.2.2.2 : Int).toNat default)).length : Int)) 100) ∧ (min (((((l0).getD (s8.2.2.2.2.2.2.2.2.2.2 : Int).toNat default)).length : Int)) 100) ≤ ((((l0).getD (s8.2.2.2.2.2.2.2.2.2.2 : Int).toNat default)).length : Int)) ((page_Store_Put.impl ((r2p0.1.1, r2p0.1.2.1, r2p0.1.2.2.1, r2p0.1.2.2.2)) s8.2.2.2.2.2.2.2.2.2.1 ((s8.1, s8.2.2.2.1, s8.2.2.2.2.1, s8.2.2.2.2.2.1, s8.2.2.2.2.2.2.1, s8.2.2.2.2.2.2.2.1, s8.2.2.2.2.2.2.2.2.1)) s8.2.1 s8.2.2.1 (subl (((l0).getD (s8.2.2.2.2.2.2.2.2.2.2 : Int).toNat default)) 0 (min (((((l0).getD (s8.2.2.2.2.2.2.2.2.2.2 : Int).toNat default)).length : Int)) 100))).bind fun r29 => some (.inl (r29.2.2.2.1.1, r29.2.2.2.2.1, r29.2.2.2.2.2, r29.2.2.2.1.2.1, r29.2.2.2.1.2.2.1, r29.2.2.2.1.2.2.2.1, r29.2.2.2.1.2.2.2.2.1, r29.2.2.2.1.2.2.2.2.2.1, r29.2.2.2.1.2.2.2.2.2.2, r29.2.2.1, IntKind.i64.wrap (s8.2.2.2.2.2.2.2.2.2.2 + 1)))))) else some (.inr (s8.1, s8.2.1, s8.2.2.1, s8.2.2.2.1, s8.2.2.2.2.1, s8.2.2.2.2.2.1, s8.2.2.2.2.2.2.1, s8.2.2.2.2.2.2.2.1, s8.2.2.2.2.2.2.2.2.1, s8.2.2.2.2.2.2.2.2.2.1)))
noncomputable def law4_PageLost.st1 (l0 : List (List UInt8)) (r2p0 : (Int × Int × Int × Int) × (List (Int × Int))) (s8 : Int × (List (Int × (List UInt8))) × (List (Int × List UInt8)) × Bool × Int × Int × Int × Int × Int × (List (Int × Int)) × Int) : Option ((Int × (List (Int × (List UInt8))) × (List (Int × List UInt8)) × Bool × Int × Int × Int × Int × Int × (List (Int × Int)) × Int) ⊕ (Int × (List (Int × (List UInt8))) × (List (Int × List UInt8)) × Bool × Int × Int × Int × Int × Int × (List (Int × Int)))) :=
  (if ((decide (s8.2.2.2.2.2.2.2.2.2.2 < ((l0.length : Int))))) = true then law4_PageLost.k8 s8 l0 r2p0 (decide (s8.2.2.2.2.2.2.2.2.2.2 < 10)) else law4_PageLost.k8 s8 l0 r2p0 false)
noncomputable def law4_PageLost.k2 (l0 : List (List UInt8)) (r2p0 : (Int × Int × Int × Int) × (List (Int × Int))) (r1p0 : (Int × Bool × Int × Int × Int × Int × Int) × (List (Int × (List UInt8))) × (List (Int × (List UInt8)))) (l1 : List (Int × Int × (List UInt8) × (Int × Int × Int × Int))) (s2 : Bool) : Option Bool :=
  (if s2 = true then some false else (loop (law4_PageLost.st1 l0 r2p0) (r1p0.1.1, r1p0.2.1, r1p0.2.2, r1p0.1.2.1, r1p0.1.2.2.1, r1p0.1.2.2.2.1, r1p0.1.2.2.2.2.1, r1p0.1.2.2.2.2.2.1, r1p0.1.2.2.2.2.2.2, r2p0.2, 0)).bind (fun e1 => law4_PageLost.k3 l1 r2p0 e1))
noncomputable def law4_PageLost.impl (l0 : List (List UInt8)) (l1 : List (Int × Int × (List UInt8) × (Int × Int × Int × Int))) : Option Bool :=
  (disk_New.impl 20).bind fun r1 => (match r1 with | (none, r1p1) => (some false) | (some r1p0, r1p1) => ((page_Open.impl ((r1p0.1.1, r1p0.1.2.1, r1p0.1.2.2.1, r1p0.1.2.2.2.1, r1p0.1.2.2.2.2.1, r1p0.1.2.2.2.2.2.1, r1p0.1.2.2.2.2.2.2)) r1p0.2.1 r1p0.2.2).bind fun r2 => (match r2 with | (none, r2p1) => ((if ((decide (r2p1 = 0))) = true then law4_PageLost.k1 () else law4_PageLost.k1 ())) | (some r2p0, r2p1) => ((if ((decide (r2p1 = 0))) = true then law4_PageLost.k2 l0 r2p0 r1p0 l1 false else law4_PageLost.k2 l0 r2p0 r1p0 l1 true)))))
set_option maxRecDepth 100000 in
set_option maxHeartbeats 4000000 in
theorem law4_PageLost.c {B : World} {hs : List MP} {w : World} {i0 c0 : Nat} {A0 : Option Addr} {l0 : List (List UInt8)} {i1 c1 : Nat} {A1 : Option Addr} {l1 : List (Int × Int × (List UInt8) × (Int × Int × Int × Int))} (hS : St B (hs) w) (h0 : (hs)[i0]? = some (Ro (Elt.slice E8) A0 c0 l0)) (h1 : (hs)[i1]? = some (Ro (Elt.pair E64 (Elt.pair E64 (Elt.pair (Elt.slice E8) (Elt.pair E64 (Elt.pair EU64 (Elt.pair E64 E64)))))) A1 c1 l1)) {r : Bool} (hr : law4_PageLost.impl l0 l1 = some r) :
    Calls Try.prog 5 #[.slice A0 l0.length c0, .slice A1 l1.length c1] w fun e w' => ∃ x : Unit, e = .returned (.bool r) ∧ St B (hs) w' := by
 unfold law4_PageLost.impl at hr
 refine calls_T Try.func5 rfl rfl rfl hS ?_
 refine T.front i0 h0 ?_
 refine T.front (i1 + 1) h1 ?_
 refine T.seq ?_
 refine T.region ?_
 refine T.assign .list rfl (wants0 rfl) rfl rfl ?_
 refine T.nil ?_
 refine T.then_normal ?_
 refine T.seq ?_
 refine T.region ?_
 obtain ⟨r1, hg1, hr⟩ := inv_bind hr
 rcases r1 with ⟨_ | r1p0, r1p1⟩
 ·dsimp only at hr
  refine T.call (v := fun (x1 : (Nat) × (Nat) × (Option Addr × Nat) × (Ads)) => .tuple #[.pointer none, .int .i64 r1p1]) (hs' := fun x1 => Ro (Elt.pair E64 (Elt.pair E64 (Elt.pair (Elt.slice E8) (Elt.pair E64 (Elt.pair EU64 (Elt.pair E64 E64)))))) A1 c1 l1 :: Ro (Elt.slice E8) A0 c0 l0 :: hs) .list (wants0 rfl) rfl (run_callF (vs := [_]) rfl Try.func7 rfl (by decide) rfl) (fun w hS => disk_New.c hS  hg1) (fun x1 => ?_)
  refine T.move .list rfl (wants0 rfl) rfl rfl ?_
  refine T.extract .list rfl (wants0 rfl) rfl rfl rfl ?_
  refine T.extract .list rfl (wants0 rfl) rfl rfl rfl ?_
  refine T.assign .list rfl (wants0 rfl) rfl rfl ?_
  refine T.assign .list rfl (wants0 rfl) rfl rfl ?_
  refine T.nil ?_
  refine T.then_normal ?_
  refine T.seq ?_
  refine T.seq ?_
  refine T.region ?_
  refine T.move .list rfl (wants0 rfl) rfl rfl ?_
  refine T.ptrEq (pt := 68) .list rfl (wants0 rfl) rfl rfl rfl (by kernel_rfl) (.inr rfl) rfl ?_
  refine T.nil ?_
  refine T.then_normal ?_
  refine T.condT rfl rfl ?_
  refine T.seq ?_
  refine T.region ?_
  refine T.assign .list rfl (wants0 rfl) rfl rfl ?_
  refine T.nil ?_
  refine T.then_normal ?_
  refine T.ret ?_
  refine T.then_ret ?_
  obtain rfl := inv_some hr
  refine T.pick [] 2 rfl rfl (Nat.le_add_left _ _) rfl ?_
  refine T.ret1 rfl rfl (fun w hS => ⟨(), rfl, hS⟩)
 ·dsimp only at hr
  refine T.call (v := fun (x2 : (Nat) × (Nat) × (Option Addr × Nat) × (Ads)) => .tuple #[.pointer (some ⟨x2.1, 0, none⟩), .int .i64 r1p1]) (hs' := fun x2 => Cl x2.1 68 [.int .i64 r1p0.1.1, .map (some x2.2.1), .slice x2.2.2.1.1 r1p0.2.2.length x2.2.2.1.2, .bool r1p0.1.2.1, .int .i64 r1p0.1.2.2.1, .int .i64 r1p0.1.2.2.2.1, .int .u64 r1p0.1.2.2.2.2.1, .int .i64 r1p0.1.2.2.2.2.2.1, .int .i64 r1p0.1.2.2.2.2.2.2] :: Mp (Elt.slice E8) x2.2.1 r1p0.2.1 :: Hb 82 x2.2.2.1.1 x2.2.2.1.2 x2.2.2.2 r1p0.2.2 :: Bb 5 x2.2.2.2 r1p0.2.2 :: Ro (Elt.pair E64 (Elt.pair E64 (Elt.pair (Elt.slice E8) (Elt.pair E64 (Elt.pair EU64 (Elt.pair E64 E64)))))) A1 c1 l1 :: Ro (Elt.slice E8) A0 c0 l0 :: hs) .list (wants0 rfl) rfl (run_callF (vs := [_]) rfl Try.func7 rfl (by decide) rfl) (fun w hS => disk_New.c hS  hg1) (fun x2 => ?_)
  refine T.move .list rfl (wants0 rfl) rfl rfl ?_
  refine T.extract .list rfl (wants0 rfl) rfl rfl rfl ?_
  refine T.extract .list rfl (wants0 rfl) rfl rfl rfl ?_
  refine T.assign .list rfl (wants0 rfl) rfl rfl ?_
  refine T.assign .list rfl (wants0 rfl) rfl rfl ?_
  refine T.nil ?_
  refine T.then_normal ?_
  refine T.seq ?_
  refine T.seq ?_
  refine T.region ?_
  refine T.move .list rfl (wants0 rfl) rfl rfl ?_
  refine T.ptrEq (pt := 68) .list rfl (wants0 rfl) rfl rfl rfl (by kernel_rfl) (.inr rfl) rfl ?_
  refine T.nil ?_
  refine T.then_normal ?_
  refine T.condF rfl rfl ?_
  refine T.skip ?_
  refine T.then_normal ?_
  refine T.seq ?_
  refine T.region ?_
  refine T.move .list rfl (wants0 rfl) rfl rfl ?_
  obtain ⟨r2, hg2, hr⟩ := inv_bind hr
  rcases r2 with ⟨_ | r2p0, r2p1⟩
  ·dsimp only at hr
   refine T.pick [0, 1, 2, 3, 4, 5] 6 rfl rfl (Nat.le_add_left _ _) (hs' := Cl x2.1 68 [.int .i64 r1p0.1.1, .map (some x2.2.1), .slice x2.2.2.1.1 r1p0.2.2.length x2.2.2.1.2, .bool r1p0.1.2.1, .int .i64 r1p0.1.2.2.1, .int .i64 r1p0.1.2.2.2.1, .int .u64 r1p0.1.2.2.2.2.1, .int .i64 r1p0.1.2.2.2.2.2.1, .int .i64 r1p0.1.2.2.2.2.2.2] :: Mp (Elt.slice E8) x2.2.1 r1p0.2.1 :: Hb 82 x2.2.2.1.1 x2.2.2.1.2 x2.2.2.2 r1p0.2.2 :: Bb 5 x2.2.2.2 r1p0.2.2 :: Ro (Elt.pair E64 (Elt.pair E64 (Elt.pair (Elt.slice E8) (Elt.pair E64 (Elt.pair EU64 (Elt.pair E64 E64)))))) A1 c1 l1 :: Ro (Elt.slice E8) A0 c0 l0 :: hs) rfl ?_
   refine T.call (v := fun (x3 : (Nat) × (Nat)) => .tuple #[.pointer none, .int .i64 r2p1]) (hs' := fun x3 => Cl x2.1 68 [.int .i64 r1p0.1.1, .map (some x2.2.1), .slice x2.2.2.1.1 r1p0.2.2.length x2.2.2.1.2, .bool r1p0.1.2.1, .int .i64 r1p0.1.2.2.1, .int .i64 r1p0.1.2.2.2.1, .int .u64 r1p0.1.2.2.2.2.1, .int .i64 r1p0.1.2.2.2.2.2.1, .int .i64 r1p0.1.2.2.2.2.2.2] :: Mp (Elt.slice E8) x2.2.1 r1p0.2.1 :: Hb 82 x2.2.2.1.1 x2.2.2.1.2 x2.2.2.2 r1p0.2.2 :: Bb 5 x2.2.2.2 r1p0.2.2 :: Ro (Elt.pair E64 (Elt.pair E64 (Elt.pair (Elt.slice E8) (Elt.pair E64 (Elt.pair EU64 (Elt.pair E64 E64)))))) A1 c1 l1 :: Ro (Elt.slice E8) A0 c0 l0 :: hs) .list (wants0 rfl) rfl (run_callF (vs := [_]) rfl Try.func8 rfl (by decide) rfl) (fun w hS => page_Open.c hS (o0 := (r1p0.1.1, r1p0.1.2.1, r1p0.1.2.2.1, r1p0.1.2.2.2.1, r1p0.1.2.2.2.2.1, r1p0.1.2.2.2.2.2.1, r1p0.1.2.2.2.2.2.2)) (q0b := r1p0.2.1) (q0c := r1p0.2.2)  hg2) (fun x3 => ?_)
   refine T.move .list rfl (wants0 rfl) rfl rfl ?_
   refine T.extract .list rfl (wants0 rfl) rfl rfl rfl ?_
   refine T.extract .list rfl (wants0 rfl) rfl rfl rfl ?_
   refine T.assign .list rfl (wants0 rfl) rfl rfl ?_
   refine T.assign .list rfl (wants0 rfl) rfl rfl ?_
   refine T.nil ?_
   refine T.then_normal ?_
   refine T.seq ?_
   refine T.seqJ (fun (s1 : Unit) (x4 : Unit) => [(0, .slice A0 l0.length c0), (1, .slice A1 l1.length c1), (5, .pointer (some ⟨x2.1, 0, none⟩)), (7, .pointer none), (34, .bool true)]) (fun s1 x4 => Ro (Elt.slice E8) A0 c0 l0 :: Ro (Elt.pair E64 (Elt.pair E64 (Elt.pair (Elt.slice E8) (Elt.pair E64 (Elt.pair EU64 (Elt.pair E64 E64)))))) A1 c1 l1 :: Cl x2.1 68 [.int .i64 r1p0.1.1, .map (some x2.2.1), .slice x2.2.2.1.1 r1p0.2.2.length x2.2.2.1.2, .bool r1p0.1.2.1, .int .i64 r1p0.1.2.2.1, .int .i64 r1p0.1.2.2.2.1, .int .u64 r1p0.1.2.2.2.2.1, .int .i64 r1p0.1.2.2.2.2.2.1, .int .i64 r1p0.1.2.2.2.2.2.2] :: Mp (Elt.slice E8) x2.2.1 r1p0.2.1 :: Hb 82 x2.2.2.1.1 x2.2.2.1.2 x2.2.2.2 r1p0.2.2 :: Bb 5 x2.2.2.2 r1p0.2.2 :: hs) (fun s1 => law4_PageLost.k1 s1 = some r) (fun s1 x4 hk1 => ?_) (fun J1 => ?_)
   ·unfold law4_PageLost.k1 at hk1
    refine T.condT rfl rfl ?_
    refine T.seq ?_
    refine T.region ?_
    refine T.assign .list rfl (wants0 rfl) rfl rfl ?_
    refine T.nil ?_
    refine T.then_normal ?_
    refine T.ret ?_
    refine T.then_ret ?_
    obtain rfl := inv_some hk1
    refine T.pick [] 6 rfl rfl (Nat.le_add_left _ _) rfl ?_
    refine T.ret1 rfl rfl (fun w hS => ⟨(), rfl, hS⟩)
   ·refine T.region ?_
    refine T.move .list rfl (wants0 rfl) rfl rfl ?_
    refine T.bin .list rfl (wants0 rfl) rfl rfl rfl rfl ?_
    refine T.move .list rfl (wants0 rfl) rfl rfl ?_
    refine T.bool (b := (decide (r2p1 = 0))) (fun hb1 => ?_) (fun hb1 => ?_)
    ·replace hr := inv_posB hb1 hr
     refine T.move .list rfl (wants1 rfl rfl rfl (not_t hb1)) rfl rfl ?_
     refine T.ptrEq (pt := 45) .list rfl (wants1 rfl rfl rfl (not_t hb1)) rfl rfl rfl (by kernel_rfl) (.inr rfl) rfl ?_
     refine T.pickF .list rfl (wants0 rfl) rfl rfl (not_t hb1) rfl ?_
     refine T.nil ?_
     refine T.then_normal ?_
     exact T.le (EnvLe.cons rfl (EnvLe.cons rfl (EnvLe.cons rfl (EnvLe.cons rfl (EnvLe.cons rfl EnvLe.nil))))) (T.pick [5, 4, 0, 1, 2, 3] 6 rfl rfl (Nat.le_add_left _ _) rfl (J1 () () hr))
    ·replace hr := inv_negB hb1 hr
     refine T.leave .list (wantsNot rfl rfl rfl (not_f hb1)) rfl ?_
     refine T.leave .list (wantsNot rfl rfl rfl (not_f hb1)) rfl ?_
     refine T.pickT .list rfl (wants0 rfl) rfl rfl (not_f hb1) rfl ?_
     refine T.nil ?_
     refine T.then_normal ?_
     exact T.le (EnvLe.cons rfl (EnvLe.cons rfl (EnvLe.cons rfl (EnvLe.cons rfl (EnvLe.cons rfl EnvLe.nil))))) (T.pick [5, 4, 0, 1, 2, 3] 6 rfl rfl (Nat.le_add_left _ _) rfl (J1 () () hr))
  ·dsimp only at hr
   refine T.pick [0, 1, 2, 3, 4, 5] 6 rfl rfl (Nat.le_add_left _ _) (hs' := Cl x2.1 68 [.int .i64 r1p0.1.1, .map (some x2.2.1), .slice x2.2.2.1.1 r1p0.2.2.length x2.2.2.1.2, .bool r1p0.1.2.1, .int .i64 r1p0.1.2.2.1, .int .i64 r1p0.1.2.2.2.1, .int .u64 r1p0.1.2.2.2.2.1, .int .i64 r1p0.1.2.2.2.2.2.1, .int .i64 r1p0.1.2.2.2.2.2.2] :: Mp (Elt.slice E8) x2.2.1 r1p0.2.1 :: Hb 82 x2.2.2.1.1 x2.2.2.1.2 x2.2.2.2 r1p0.2.2 :: Bb 5 x2.2.2.2 r1p0.2.2 :: Ro (Elt.pair E64 (Elt.pair E64 (Elt.pair (Elt.slice E8) (Elt.pair E64 (Elt.pair EU64 (Elt.pair E64 E64)))))) A1 c1 l1 :: Ro (Elt.slice E8) A0 c0 l0 :: hs) rfl ?_
   refine T.call (v := fun (x5 : (Nat) × (Nat)) => .tuple #[.pointer (some ⟨x5.1, 0, none⟩), .int .i64 r2p1]) (hs' := fun x5 => Cl x2.1 68 [.int .i64 r1p0.1.1, .map (some x2.2.1), .slice x2.2.2.1.1 r1p0.2.2.length x2.2.2.1.2, .bool r1p0.1.2.1, .int .i64 r1p0.1.2.2.1, .int .i64 r1p0.1.2.2.2.1, .int .u64 r1p0.1.2.2.2.2.1, .int .i64 r1p0.1.2.2.2.2.2.1, .int .i64 r1p0.1.2.2.2.2.2.2] :: Mp (Elt.slice E8) x2.2.1 r1p0.2.1 :: Hb 82 x2.2.2.1.1 x2.2.2.1.2 x2.2.2.2 r1p0.2.2 :: Bb 5 x2.2.2.2 r1p0.2.2 :: Cl x5.1 45 [.int .i64 r2p0.1.1, .map (some x5.2), .pointer (some ⟨x2.1, 0, none⟩), .int .i64 r2p0.1.2.1, .int .u64 r2p0.1.2.2.1, .int .i64 r2p0.1.2.2.2] :: Mp E64 x5.2 r2p0.2 :: Ro (Elt.pair E64 (Elt.pair E64 (Elt.pair (Elt.slice E8) (Elt.pair E64 (Elt.pair EU64 (Elt.pair E64 E64)))))) A1 c1 l1 :: Ro (Elt.slice E8) A0 c0 l0 :: hs) .list (wants0 rfl) rfl (run_callF (vs := [_]) rfl Try.func8 rfl (by decide) rfl) (fun w hS => page_Open.c hS (o0 := (r1p0.1.1, r1p0.1.2.1, r1p0.1.2.2.1, r1p0.1.2.2.2.1, r1p0.1.2.2.2.2.1, r1p0.1.2.2.2.2.2.1, r1p0.1.2.2.2.2.2.2)) (q0b := r1p0.2.1) (q0c := r1p0.2.2)  hg2) (fun x5 => ?_)
   refine T.move .list rfl (wants0 rfl) rfl rfl ?_
   refine T.extract .list rfl (wants0 rfl) rfl rfl rfl ?_
   refine T.extract .list rfl (wants0 rfl) rfl rfl rfl ?_
   refine T.assign .list rfl (wants0 rfl) rfl rfl ?_
   refine T.assign .list rfl (wants0 rfl) rfl rfl ?_
   refine T.nil ?_
   refine T.then_normal ?_
   refine T.seq ?_
   refine T.seqJ (fun (s2 : Bool) (x6 : Unit) => [(0, .slice A0 l0.length c0), (1, .slice A1 l1.length c1), (5, .pointer (some ⟨x2.1, 0, none⟩)), (7, .pointer (some ⟨x5.1, 0, none⟩)), (34, .bool s2)]) (fun s2 x6 => Ro (Elt.slice E8) A0 c0 l0 :: Ro (Elt.pair E64 (Elt.pair E64 (Elt.pair (Elt.slice E8) (Elt.pair E64 (Elt.pair EU64 (Elt.pair E64 E64)))))) A1 c1 l1 :: Cl x2.1 68 [.int .i64 r1p0.1.1, .map (some x2.2.1), .slice x2.2.2.1.1 r1p0.2.2.length x2.2.2.1.2, .bool r1p0.1.2.1, .int .i64 r1p0.1.2.2.1, .int .i64 r1p0.1.2.2.2.1, .int .u64 r1p0.1.2.2.2.2.1, .int .i64 r1p0.1.2.2.2.2.2.1, .int .i64 r1p0.1.2.2.2.2.2.2] :: Mp (Elt.slice E8) x2.2.1 r1p0.2.1 :: Hb 82 x2.2.2.1.1 x2.2.2.1.2 x2.2.2.2 r1p0.2.2 :: Bb 5 x2.2.2.2 r1p0.2.2 :: Cl x5.1 45 [.int .i64 r2p0.1.1, .map (some x5.2), .pointer (some ⟨x2.1, 0, none⟩), .int .i64 r2p0.1.2.1, .int .u64 r2p0.1.2.2.1, .int .i64 r2p0.1.2.2.2] :: Mp E64 x5.2 r2p0.2 :: hs) (fun s2 => law4_PageLost.k2 l0 r2p0 r1p0 l1 s2 = some r) (fun s2 x6 hk2 => ?_) (fun J2 => ?_)
   ·unfold law4_PageLost.k2 at hk2
    refine T.cond rfl (fun hb2 => ?_) (fun hb2 => ?_)
    ·replace hk2 := inv_posB hb2 hk2
     refine T.seq ?_
     refine T.region ?_
     refine T.assign .list rfl (wants0 rfl) rfl rfl ?_
     refine T.nil ?_
     refine T.then_normal ?_
     refine T.ret ?_
     refine T.then_ret ?_
     obtain rfl := inv_some hk2
     refine T.pick [] 8 rfl rfl (Nat.le_add_left _ _) rfl ?_
     refine T.ret1 rfl rfl (fun w hS => ⟨(), rfl, hS⟩)
    ·replace hk2 := inv_negB hb2 hk2
     refine T.skip ?_
     refine T.then_normal ?_
     refine T.seqJ (fun (s3 : Int × (List (Int × (List UInt8))) × (List (Int × List UInt8)) × Bool × Int × Int × Int × Int × Int × (List (Int × Int))) (x7 : (Option Addr × Nat) × (Ads)) => [(1, .slice A1 l1.length c1), (5, .pointer (some ⟨x2.1, 0, none⟩)), (7, .pointer (some ⟨x5.1, 0, none⟩))]) (fun s3 x7 => Ro (Elt.pair E64 (Elt.pair E64 (Elt.pair (Elt.slice E8) (Elt.pair E64 (Elt.pair EU64 (Elt.pair E64 E64)))))) A1 c1 l1 :: Cl x2.1 68 [.int .i64 s3.1, .map (some x2.2.1), .slice x7.1.1 s3.2.2.1.length x7.1.2, .bool s3.2.2.2.1, .int .i64 s3.2.2.2.2.1, .int .i64 s3.2.2.2.2.2.1, .int .u64 s3.2.2.2.2.2.2.1, .int .i64 s3.2.2.2.2.2.2.2.1, .int .i64 s3.2.2.2.2.2.2.2.2.1] :: Mp (Elt.slice E8) x2.2.1 s3.2.1 :: Hb 82 x7.1.1 x7.1.2 x7.2 s3.2.2.1 :: Bb 5 x7.2 s3.2.2.1 :: Cl x5.1 45 [.int .i64 r2p0.1.1, .map (some x5.2), .pointer (some ⟨x2.1, 0, none⟩), .int .i64 r2p0.1.2.1, .int .u64 r2p0.1.2.2.1, .int .i64 r2p0.1.2.2.2] :: Mp E64 x5.2 s3.2.2.2.2.2.2.2.2.2 :: hs) (fun s3 => law4_PageLost.k3 l1 r2p0 s3 = some r) (fun s3 x7 hk3 => ?_) (fun J3 => ?_)
     ·unfold law4_PageLost.k3 at hk3
      refine T.seq ?_
      refine T.region ?_
      refine T.build .list (vals := [(2, .int .i64 (-1))]) (cells := #[.int .i64 0, .int .u64 0, .int .i64 (-1), .int .i64 0]) rfl (wants0 rfl) rfl rfl (run_buildStruct (sizes := [1, 1, 1, 1]) (by kernel_rfl) (by kernel_rfl)) ?_
      refine T.allocS .list rfl (wants0 rfl) rfl (cs := [.int .i64 0, .int .u64 0, .int .i64 0, .int .i64 0]) rfl (fun b1 => ?_)
      refine T.store .list 0 rfl rfl (wants0 rfl) rfl rfl rfl rfl (Nat.le_of_ble_eq_true rfl) rfl (cs' := [.int .i64 0, .int .u64 0, .int .i64 (-1), .int .i64 0]) rfl rfl ?_
      refine T.nil ?_
      refine T.then_normal ?_
      refine T.seqJ (fun (s4 : Int × Int × Int × Int) (x8 : Unit) => [(5, .pointer (some ⟨x2.1, 0, none⟩)), (7, .pointer (some ⟨x5.1, 0, none⟩)), (10, .pointer (some ⟨b1, 0, none⟩))]) (fun s4 x8 => Cl x2.1 68 [.int .i64 s3.1, .map (some x2.2.1), .slice x7.1.1 s3.2.2.1.length x7.1.2, .bool s3.2.2.2.1, .int .i64 s3.2.2.2.2.1, .int .i64 s3.2.2.2.2.2.1, .int .u64 s3.2.2.2.2.2.2.1, .int .i64 s3.2.2.2.2.2.2.2.1, .int .i64 s3.2.2.2.2.2.2.2.2.1] :: Mp (Elt.slice E8) x2.2.1 s3.2.1 :: Hb 82 x7.1.1 x7.1.2 x7.2 s3.2.2.1 :: Bb 5 x7.2 s3.2.2.1 :: Cl x5.1 45 [.int .i64 r2p0.1.1, .map (some x5.2), .pointer (some ⟨x2.1, 0, none⟩), .int .i64 r2p0.1.2.1, .int .u64 r2p0.1.2.2.1, .int .i64 r2p0.1.2.2.2] :: Mp E64 x5.2 s3.2.2.2.2.2.2.2.2.2 :: Cl b1 57 [.int .i64 s4.1, .int .u64 s4.2.1, .int .i64 s4.2.2.1, .int .i64 s4.2.2.2] :: hs) (fun s4 => law4_PageLost.k4 s3 r2p0 s4 = some r) (fun s4 x8 hk4 => ?_) (fun J4 => ?_)
      ·unfold law4_PageLost.k4 at hk4
       refine T.seq ?_
       refine T.region ?_
       refine T.move .list rfl (wants0 rfl) rfl rfl ?_
       refine T.loadN .list 6 rfl rfl (wants0 rfl) rfl rfl (vs := [.int .i64 s4.1, .int .u64 s4.2.1, .int .i64 s4.2.2.1, .int .i64 s4.2.2.2]) rfl rfl ?_
       refine T.pick [0, 1, 2, 3, 4, 5, 6] 7 rfl rfl (Nat.le_add_left _ _) (hs' := Cl x2.1 68 [.int .i64 s3.1, .map (some x2.2.1), .slice x7.1.1 s3.2.2.1.length x7.1.2, .bool s3.2.2.2.1, .int .i64 s3.2.2.2.2.1, .int .i64 s3.2.2.2.2.2.1, .int .u64 s3.2.2.2.2.2.2.1, .int .i64 s3.2.2.2.2.2.2.2.1, .int .i64 s3.2.2.2.2.2.2.2.2.1] :: Mp (Elt.slice E8) x2.2.1 s3.2.1 :: Hb 82 x7.1.1 x7.1.2 x7.2 s3.2.2.1 :: Bb 5 x7.2 s3.2.2.1 :: Cl x5.1 45 [.int .i64 r2p0.1.1, .map (some x5.2), .pointer (some ⟨x2.1, 0, none⟩), .int .i64 r2p0.1.2.1, .int .u64 r2p0.1.2.2.1, .int .i64 r2p0.1.2.2.2] :: Mp E64 x5.2 s3.2.2.2.2.2.2.2.2.2 :: Cl b1 57 [.int .i64 s4.1, .int .u64 s4.2.1, .int .i64 s4.2.2.1, .int .i64 s4.2.2.2] :: hs) rfl ?_
       obtain ⟨r3, hg3, hk4⟩ := inv_bind hk4
       refine T.call .list (wants0 rfl) rfl (run_callF (vs := [_, _]) rfl Try.func17 rfl (by decide) rfl) (fun w hS => disk_Disk_Cut.c hS (o0 := (s3.1, s3.2.2.2.1, s3.2.2.2.2.1, s3.2.2.2.2.2.1, s3.2.2.2.2.2.2.1, s3.2.2.2.2.2.2.2.1, s3.2.2.2.2.2.2.2.2.1)) (q0b := s3.2.1) (q0c := s3.2.2.1) (a1 := (s4.1, s4.2.1, s4.2.2.1, s4.2.2.2))  hg3) (fun x9 => ?_)
       refine T.nil ?_
       refine T.then_normal ?_
       refine T.seq ?_
       refine T.region ?_
       refine T.move .list rfl (wants0 rfl) rfl rfl ?_
       refine T.nilRo E8 none 0 ?_
       refine T.pick [5, 6, 1, 2, 3, 4, 0, 7] 8 rfl rfl (Nat.le_add_left _ _) (hs' := Cl x5.1 45 [.int .i64 r2p0.1.1, .map (some x5.2), .pointer (some ⟨x2.1, 0, none⟩), .int .i64 r2p0.1.2.1, .int .u64 r2p0.1.2.2.1, .int .i64 r2p0.1.2.2.2] :: Mp E64 x5.2 s3.2.2.2.2.2.2.2.2.2 :: Cl x2.1 68 [.int .i64 r3.1.1, .map (some x2.2.1), .slice x9.1.1 r3.2.2.length x9.1.2, .bool r3.1.2.1, .int .i64 r3.1.2.2.1, .int .i64 r3.1.2.2.2.1, .int .u64 r3.1.2.2.2.2.1, .int .i64 r3.1.2.2.2.2.2.1, .int .i64 r3.1.2.2.2.2.2.2] :: Mp (Elt.slice E8) x2.2.1 r3.2.1 :: Hb 82 x9.1.1 x9.1.2 x9.2 r3.2.2 :: Bb 5 x9.2 r3.2.2 :: Ro E8 none 0 (([] : List UInt8)) :: Cl b1 57 [.int .i64 s4.1, .int .u64 s4.2.1, .int .i64 s4.2.2.1, .int .i64 s4.2.2.2] :: hs) rfl ?_
       obtain ⟨r4, hg4, hk4⟩ := inv_bind hk4
       refine T.call .list (wants0 rfl) rfl (run_callF (vs := [_, _]) rfl Try.func9 rfl (by decide) rfl) (fun w hS => page_Store_Put.c hS (i1 := 6) (o0 := (r2p0.1.1, r2p0.1.2.1, r2p0.1.2.2.1, r2p0.1.2.2.2)) (q0b := s3.2.2.2.2.2.2.2.2.2) (o0c := (r3.1.1, r3.1.2.1, r3.1.2.2.1, r3.1.2.2.2.1, r3.1.2.2.2.2.1, r3.1.2.2.2.2.2.1, r3.1.2.2.2.2.2.2)) (q0cb := r3.2.1) (q0cc := r3.2.2) rfl hg4) (fun x10 => ?_)
       refine T.move .list rfl (wants0 rfl) rfl rfl ?_
       refine T.extract .list rfl (wants0 rfl) rfl rfl rfl ?_
       refine T.extract .list rfl (wants0 rfl) rfl rfl rfl ?_
       refine T.assign .list rfl (wants0 rfl) rfl rfl ?_
       refine T.assign .list rfl (wants0 rfl) rfl rfl ?_
       refine T.nil ?_
       refine T.then_normal ?_
       refine T.seq ?_
       refine T.region ?_
       refine T.move .list rfl (wants0 rfl) rfl rfl ?_
       refine T.pick [0, 1, 2, 3, 4, 5, 6, 7] 8 rfl rfl (Nat.le_add_left _ _) (hs' := Cl x5.1 45 [.int .i64 r2p0.1.1, .map (some x5.2), .pointer (some ⟨x2.1, 0, none⟩), .int .i64 r2p0.1.2.1, .int .u64 r2p0.1.2.2.1, .int .i64 r2p0.1.2.2.2] :: Mp E64 x5.2 r4.2.2.1 :: Cl x2.1 68 [.int .i64 r4.2.2.2.1.1, .map (some x2.2.1), .slice x10.1.1 r4.2.2.2.2.2.length x10.1.2, .bool r4.2.2.2.1.2.1, .int .i64 r4.2.2.2.1.2.2.1, .int .i64 r4.2.2.2.1.2.2.2.1, .int .u64 r4.2.2.2.1.2.2.2.2.1, .int .i64 r4.2.2.2.1.2.2.2.2.2.1, .int .i64 r4.2.2.2.1.2.2.2.2.2.2] :: Mp (Elt.slice E8) x2.2.1 r4.2.2.2.2.1 :: Hb 82 x10.1.1 x10.1.2 x10.2 r4.2.2.2.2.2 :: Bb 5 x10.2 r4.2.2.2.2.2 :: Ro E8 none 0 (([] : List UInt8)) :: Cl b1 57 [.int .i64 s4.1, .int .u64 s4.2.1, .int .i64 s4.2.2.1, .int .i64 s4.2.2.2] :: hs) rfl ?_
       obtain ⟨r5, hg5, hk4⟩ := inv_bind hk4
       refine T.call .list (wants0 rfl) rfl (run_callF (vs := [_, _]) rfl Try.func13 rfl (by decide) rfl) (fun w hS => page_Store_Get.c hS (o0 := (r2p0.1.1, r2p0.1.2.1, r2p0.1.2.2.1, r2p0.1.2.2.2)) (q0b := r4.2.2.1) (o0c := (r4.2.2.2.1.1, r4.2.2.2.1.2.1, r4.2.2.2.1.2.2.1, r4.2.2.2.1.2.2.2.1, r4.2.2.2.1.2.2.2.2.1, r4.2.2.2.1.2.2.2.2.2.1, r4.2.2.2.1.2.2.2.2.2.2)) (q0cb := r4.2.2.2.2.1) (q0cc := r4.2.2.2.2.2)  hg5) (fun x11 => ?_)
       refine T.move .list rfl (wants0 rfl) rfl rfl ?_
       refine T.extract .list rfl (wants0 rfl) rfl rfl rfl ?_
       refine T.extract .list rfl (wants0 rfl) rfl rfl rfl ?_
       refine T.assign .list rfl (wants0 rfl) rfl rfl ?_
       refine T.assign .list rfl (wants0 rfl) rfl rfl ?_
       refine T.nil ?_
       refine T.then_normal ?_
       refine T.seq ?_
       refine T.seqJ (fun (s5 : Int × (List (Int × (List UInt8))) × (List (Int × List UInt8)) × Bool × Int × Int × Int × Int × Int × Int × (List (Int × Int)) × Int × Int × Int × Bool) (x12 : (Option Addr × Nat) × (Ads)) => [(5, .pointer (some ⟨x2.1, 0, none⟩)), (7, .pointer (some ⟨x5.1, 0, none⟩)), (105, .bool s5.2.2.2.2.2.2.2.2.2.2.2.2.2.2)]) (fun s5 x12 => Cl x2.1 68 [.int .i64 s5.1, .map (some x2.2.1), .slice x12.1.1 s5.2.2.1.length x12.1.2, .bool s5.2.2.2.1, .int .i64 s5.2.2.2.2.1, .int .i64 s5.2.2.2.2.2.1, .int .u64 s5.2.2.2.2.2.2.1, .int .i64 s5.2.2.2.2.2.2.2.1, .int .i64 s5.2.2.2.2.2.2.2.2.1] :: Mp (Elt.slice E8) x2.2.1 s5.2.1 :: Hb 82 x12.1.1 x12.1.2 x12.2 s5.2.2.1 :: Bb 5 x12.2 s5.2.2.1 :: Cl x5.1 45 [.int .i64 s5.2.2.2.2.2.2.2.2.2.1, .map (some x5.2), .pointer (some ⟨x2.1, 0, none⟩), .int .i64 s5.2.2.2.2.2.2.2.2.2.2.2.1, .int .u64 s5.2.2.2.2.2.2.2.2.2.2.2.2.1, .int .i64 s5.2.2.2.2.2.2.2.2.2.2.2.2.2.1] :: Mp E64 x5.2 s5.2.2.2.2.2.2.2.2.2.2.1 :: hs) (fun s5 => law4_PageLost.k5 s5 = some r) (fun s5 x12 hk5 => ?_) (fun J5 => ?_)
       ·unfold law4_PageLost.k5 at hk5
        refine T.cond rfl (fun hb3 => ?_) (fun hb3 => ?_)
        ·replace hk5 := inv_posB hb3 hk5
         refine T.seq ?_
         refine T.region ?_
         refine T.assign .list rfl (wants0 rfl) rfl rfl ?_
         refine T.nil ?_
         refine T.then_normal ?_
         refine T.ret ?_
         refine T.then_ret ?_
         obtain rfl := inv_some hk5
         refine T.pick [] 6 rfl rfl (Nat.le_add_left _ _) rfl ?_
         refine T.ret1 rfl rfl (fun w hS => ⟨(), rfl, hS⟩)
        ·replace hk5 := inv_negB hb3 hk5
         refine T.skip ?_
         refine T.then_normal ?_
         refine T.seq ?_
         refine T.region ?_
         refine T.move .list rfl (wants0 rfl) rfl rfl ?_
         obtain ⟨r6, hg6, hk5⟩ := inv_bind hk5
         rcases r6 with ⟨_ | r6p0, r6p1⟩
         ·dsimp only at hk5
          refine T.pick [0, 1, 2, 3, 4, 5] 6 rfl rfl (Nat.le_add_left _ _) (hs' := Cl x2.1 68 [.int .i64 s5.1, .map (some x2.2.1), .slice x12.1.1 s5.2.2.1.length x12.1.2, .bool s5.2.2.2.1, .int .i64 s5.2.2.2.2.1, .int .i64 s5.2.2.2.2.2.1, .int .u64 s5.2.2.2.2.2.2.1, .int .i64 s5.2.2.2.2.2.2.2.1, .int .i64 s5.2.2.2.2.2.2.2.2.1] :: Mp (Elt.slice E8) x2.2.1 s5.2.1 :: Hb 82 x12.1.1 x12.1.2 x12.2 s5.2.2.1 :: Bb 5 x12.2 s5.2.2.1 :: Cl x5.1 45 [.int .i64 s5.2.2.2.2.2.2.2.2.2.1, .map (some x5.2), .pointer (some ⟨x2.1, 0, none⟩), .int .i64 s5.2.2.2.2.2.2.2.2.2.2.2.1, .int .u64 s5.2.2.2.2.2.2.2.2.2.2.2.2.1, .int .i64 s5.2.2.2.2.2.2.2.2.2.2.2.2.2.1] :: Mp E64 x5.2 s5.2.2.2.2.2.2.2.2.2.2.1 :: hs) rfl ?_
          refine T.call (v := fun (x13 : (Nat) × (Nat)) => .tuple #[.pointer none, .int .i64 r6p1]) (hs' := fun x13 => Cl x2.1 68 [.int .i64 s5.1, .map (some x2.2.1), .slice x12.1.1 s5.2.2.1.length x12.1.2, .bool s5.2.2.2.1, .int .i64 s5.2.2.2.2.1, .int .i64 s5.2.2.2.2.2.1, .int .u64 s5.2.2.2.2.2.2.1, .int .i64 s5.2.2.2.2.2.2.2.1, .int .i64 s5.2.2.2.2.2.2.2.2.1] :: Mp (Elt.slice E8) x2.2.1 s5.2.1 :: Hb 82 x12.1.1 x12.1.2 x12.2 s5.2.2.1 :: Bb 5 x12.2 s5.2.2.1 :: Cl x5.1 45 [.int .i64 s5.2.2.2.2.2.2.2.2.2.1, .map (some x5.2), .pointer (some ⟨x2.1, 0, none⟩), .int .i64 s5.2.2.2.2.2.2.2.2.2.2.2.1, .int .u64 s5.2.2.2.2.2.2.2.2.2.2.2.2.1, .int .i64 s5.2.2.2.2.2.2.2.2.2.2.2.2.2.1] :: Mp E64 x5.2 s5.2.2.2.2.2.2.2.2.2.2.1 :: hs) .list (wants0 rfl) rfl (run_callF (vs := [_]) rfl Try.func8 rfl (by decide) rfl) (fun w hS => page_Open.c hS (o0 := (s5.1, s5.2.2.2.1, s5.2.2.2.2.1, s5.2.2.2.2.2.1, s5.2.2.2.2.2.2.1, s5.2.2.2.2.2.2.2.1, s5.2.2.2.2.2.2.2.2.1)) (q0b := s5.2.1) (q0c := s5.2.2.1)  hg6) (fun x13 => ?_)
          refine T.move .list rfl (wants0 rfl) rfl rfl ?_
          refine T.extract .list rfl (wants0 rfl) rfl rfl rfl ?_
          refine T.extract .list rfl (wants0 rfl) rfl rfl rfl ?_
          refine T.assign .list rfl (wants0 rfl) rfl rfl ?_
          refine T.assign .list rfl (wants0 rfl) rfl rfl ?_
          refine T.nil ?_
          refine T.then_normal ?_
          refine T.seq ?_
          refine T.region ?_
          refine T.move .list rfl (wants0 rfl) rfl rfl ?_
          refine T.pick [0, 1, 2, 3, 4, 5] 6 rfl rfl (Nat.le_add_left _ _) (hs' := Cl x2.1 68 [.int .i64 s5.1, .map (some x2.2.1), .slice x12.1.1 s5.2.2.1.length x12.1.2, .bool s5.2.2.2.1, .int .i64 s5.2.2.2.2.1, .int .i64 s5.2.2.2.2.2.1, .int .u64 s5.2.2.2.2.2.2.1, .int .i64 s5.2.2.2.2.2.2.2.1, .int .i64 s5.2.2.2.2.2.2.2.2.1] :: Mp (Elt.slice E8) x2.2.1 s5.2.1 :: Hb 82 x12.1.1 x12.1.2 x12.2 s5.2.2.1 :: Bb 5 x12.2 s5.2.2.1 :: Cl x5.1 45 [.int .i64 s5.2.2.2.2.2.2.2.2.2.1, .map (some x5.2), .pointer (some ⟨x2.1, 0, none⟩), .int .i64 s5.2.2.2.2.2.2.2.2.2.2.2.1, .int .u64 s5.2.2.2.2.2.2.2.2.2.2.2.2.1, .int .i64 s5.2.2.2.2.2.2.2.2.2.2.2.2.2.1] :: Mp E64 x5.2 s5.2.2.2.2.2.2.2.2.2.2.1 :: hs) rfl ?_
          obtain ⟨r7, hg7, hk5⟩ := inv_bind hk5
          refine T.call .list (wants0 rfl) rfl (run_callF (vs := [_]) rfl Try.func20 rfl (by decide) rfl) (fun w hS => disk_Disk_Restart.c hS (o0 := (s5.1, s5.2.2.2.1, s5.2.2.2.2.1, s5.2.2.2.2.2.1, s5.2.2.2.2.2.2.1, s5.2.2.2.2.2.2.2.1, s5.2.2.2.2.2.2.2.2.1)) (q0b := s5.2.1) (q0c := s5.2.2.1)  hg7) (fun x14 => ?_)
          refine T.nil ?_
          refine T.then_normal ?_
          refine T.seq ?_
          refine T.seqJ (fun (s6 : Bool) (x15 : Unit) => [(5, .pointer (some ⟨x2.1, 0, none⟩)), (119, .bool s6)]) (fun s6 x15 => Cl x2.1 68 [.int .i64 r7.1, .map (some x2.2.1), .slice x12.1.1 s5.2.2.1.length x12.1.2, .bool r7.2.1, .int .i64 r7.2.2.1, .int .i64 r7.2.2.2.1, .int .u64 r7.2.2.2.2.1, .int .i64 r7.2.2.2.2.2.1, .int .i64 r7.2.2.2.2.2.2] :: Mp (Elt.slice E8) x2.2.1 s5.2.1 :: Hb 82 x12.1.1 x12.1.2 x12.2 s5.2.2.1 :: Bb 5 x12.2 s5.2.2.1 :: hs) (fun s6 => law4_PageLost.k6 r7 s5 s6 = some r) (fun s6 x15 hk6 => ?_) (fun J6 => ?_)
          ·unfold law4_PageLost.k6 at hk6
           refine T.cond rfl (fun hb4 => ?_) (fun hb4 => ?_)
           ·replace hk6 := inv_posB hb4 hk6
            refine T.seq ?_
            refine T.region ?_
            refine T.assign .list rfl (wants0 rfl) rfl rfl ?_
            refine T.nil ?_
            refine T.then_normal ?_
            refine T.ret ?_
            refine T.then_ret ?_
            obtain rfl := inv_some hk6
            refine T.pick [] 4 rfl rfl (Nat.le_add_left _ _) rfl ?_
            refine T.ret1 rfl rfl (fun w hS => ⟨(), rfl, hS⟩)
           ·replace hk6 := inv_negB hb4 hk6
            refine T.skip ?_
            refine T.then_normal ?_
            refine T.seq ?_
            refine T.region ?_
            refine T.move .list rfl (wants0 rfl) rfl rfl ?_
            obtain ⟨r8, hg8, hk6⟩ := inv_bind hk6
            rcases r8 with ⟨_ | r8p0, r8p1⟩
            ·dsimp only at hk6
             refine T.pick [0, 1, 2, 3] 4 rfl rfl (Nat.le_add_left _ _) (hs' := Cl x2.1 68 [.int .i64 r7.1, .map (some x2.2.1), .slice x12.1.1 s5.2.2.1.length x12.1.2, .bool r7.2.1, .int .i64 r7.2.2.1, .int .i64 r7.2.2.2.1, .int .u64 r7.2.2.2.2.1, .int .i64 r7.2.2.2.2.2.1, .int .i64 r7.2.2.2.2.2.2] :: Mp (Elt.slice E8) x2.2.1 s5.2.1 :: Hb 82 x12.1.1 x12.1.2 x12.2 s5.2.2.1 :: Bb 5 x12.2 s5.2.2.1 :: hs) rfl ?_
             refine T.call (v := fun (x16 : (Nat) × (Nat)) => .tuple #[.pointer none, .int .i64 r8p1]) (hs' := fun x16 => Cl x2.1 68 [.int .i64 r7.1, .map (some x2.2.1), .slice x12.1.1 s5.2.2.1.length x12.1.2, .bool r7.2.1, .int .i64 r7.2.2.1, .int .i64 r7.2.2.2.1, .int .u64 r7.2.2.2.2.1, .int .i64 r7.2.2.2.2.2.1, .int .i64 r7.2.2.2.2.2.2] :: Mp (Elt.slice E8) x2.2.1 s5.2.1 :: Hb 82 x12.1.1 x12.1.2 x12.2 s5.2.2.1 :: Bb 5 x12.2 s5.2.2.1 :: hs) .list (wants0 rfl) rfl (run_callF (vs := [_]) rfl Try.func8 rfl (by decide) rfl) (fun w hS => page_Open.c hS (o0 := (r7.1, r7.2.1, r7.2.2.1, r7.2.2.2.1, r7.2.2.2.2.1, r7.2.2.2.2.2.1, r7.2.2.2.2.2.2)) (q0b := s5.2.1) (q0c := s5.2.2.1)  hg8) (fun x16 => ?_)
             refine T.move .list rfl (wants0 rfl) rfl rfl ?_
             refine T.extract .list rfl (wants0 rfl) rfl rfl rfl ?_
             refine T.extract .list rfl (wants0 rfl) rfl rfl rfl ?_
             refine T.assign .list rfl (wants0 rfl) rfl rfl ?_
             refine T.assign .list rfl (wants0 rfl) rfl rfl ?_
             refine T.nil ?_
             refine T.then_normal ?_
             refine T.seq ?_
             refine T.region ?_
             obtain ⟨r9, hg9, hk6⟩ := inv_bind hk6
             refine T.call .list (wants0 rfl) rfl (run_callF (vs := []) rfl Try.func14 rfl (by decide) rfl) (fun w hS => law4_told.c hS  hg9) (fun x17 => ?_)
             refine T.move .list rfl (wants0 rfl) rfl rfl ?_
             refine T.bool (b := r9) (fun hb5 => ?_) (fun hb5 => ?_)
             ·replace hk6 := inv_posB hb5 hk6
              refine T.move .list rfl (wants1 rfl rfl rfl hb5) rfl rfl ?_
              refine T.bin .list rfl (wants1 rfl rfl rfl hb5) rfl rfl rfl rfl ?_
              refine T.pickT .list rfl (wants0 rfl) rfl rfl hb5 rfl ?_
              refine T.move .list rfl (wants0 rfl) rfl rfl ?_
              refine T.bool (b := (decide (r8p1 = 0))) (fun hb6 => ?_) (fun hb6 => ?_)
              ·replace hk6 := inv_posB hb6 hk6
               refine T.move .list rfl (wants1 rfl rfl rfl hb6) rfl rfl ?_
               refine T.ptrNe (pt := 45) .list rfl (wants1 rfl rfl rfl hb6) rfl rfl rfl (by kernel_rfl) (.inr rfl) rfl ?_
               refine T.pickT .list rfl (wants0 rfl) rfl rfl hb6 rfl ?_
               refine T.move .list rfl (wants0 rfl) rfl rfl ?_
               refine T.leave .list (wantsNot rfl rfl rfl rfl) rfl ?_
               refine T.leave .list (wantsNot rfl rfl rfl rfl) rfl ?_
               refine T.leave .list (wantsNot rfl rfl rfl rfl) rfl ?_
               refine T.leave .list (wantsNot rfl rfl rfl rfl) rfl ?_
               refine T.leave .list (wantsNot rfl rfl rfl rfl) rfl ?_
               refine T.pickF .list rfl (wants0 rfl) rfl rfl rfl rfl ?_
               refine T.move .list rfl (wants0 rfl) rfl rfl ?_
               refine T.leave .list (wantsNot rfl rfl rfl rfl) rfl ?_
               refine T.leave .list (wantsNot rfl rfl rfl rfl) rfl ?_
               refine T.leave .list (wantsNot rfl rfl rfl rfl) rfl ?_
               refine T.pickF .list rfl (wants0 rfl) rfl rfl rfl rfl ?_
               refine T.move .list rfl (wants0 rfl) rfl rfl ?_
               refine T.leave .list (wantsNot rfl rfl rfl rfl) rfl ?_
               refine T.leave .list (wantsNot rfl rfl rfl rfl) rfl ?_
               refine T.leave .list (wantsNot rfl rfl rfl rfl) rfl ?_
               refine T.pickF .list rfl (wants0 rfl) rfl rfl rfl rfl ?_
               refine T.move .list rfl (wants0 rfl) rfl rfl ?_
               refine T.leave .list (wantsNot rfl rfl rfl rfl) rfl ?_
               refine T.leave .list (wantsNot rfl rfl rfl rfl) rfl ?_
               refine T.leave .list (wantsNot rfl rfl rfl rfl) rfl ?_
               refine T.pickF .list rfl (wants0 rfl) rfl rfl rfl rfl ?_
               refine T.assign .list rfl (wants0 rfl) rfl rfl ?_
               refine T.nil ?_
               refine T.then_normal ?_
               refine T.ret ?_
               obtain rfl := inv_some hk6
               refine T.pick [] 4 rfl rfl (Nat.le_add_left _ _) rfl ?_
               refine T.ret1 rfl rfl (fun w hS => ⟨(), rfl, hS⟩)
              ·replace hk6 := inv_negB hb6 hk6
               refine T.leave .list (wantsNot rfl rfl rfl hb6) rfl ?_
               refine T.leave .list (wantsNot rfl rfl rfl hb6) rfl ?_
               refine T.pickF .list rfl (wants0 rfl) rfl rfl hb6 rfl ?_
               refine T.move .list rfl (wants0 rfl) rfl rfl ?_
               refine T.leave .list (wantsNot rfl rfl rfl rfl) rfl ?_
               refine T.leave .list (wantsNot rfl rfl rfl rfl) rfl ?_
               refine T.leave .list (wantsNot rfl rfl rfl rfl) rfl ?_
               refine T.leave .list (wantsNot rfl rfl rfl rfl) rfl ?_
               refine T.leave .list (wantsNot rfl rfl rfl rfl) rfl ?_
               refine T.pickF .list rfl (wants0 rfl) rfl rfl rfl rfl ?_
               refine T.move .list rfl (wants0 rfl) rfl rfl ?_
               refine T.leave .list (wantsNot rfl rfl rfl rfl) rfl ?_
               refine T.leave .list (wantsNot rfl rfl rfl rfl) rfl ?_
               refine T.leave .list (wantsNot rfl rfl rfl rfl) rfl ?_
               refine T.pickF .list rfl (wants0 rfl) rfl rfl rfl rfl ?_
               refine T.move .list rfl (wants0 rfl) rfl rfl ?_
               refine T.leave .list (wantsNot rfl rfl rfl rfl) rfl ?_
               refine T.leave .list (wantsNot rfl rfl rfl rfl) rfl ?_
               refine T.leave .list (wantsNot rfl rfl rfl rfl) rfl ?_
               refine T.pickF .list rfl (wants0 rfl) rfl rfl rfl rfl ?_
               refine T.move .list rfl (wants0 rfl) rfl rfl ?_
               refine T.leave .list (wantsNot rfl rfl rfl rfl) rfl ?_
               refine T.leave .list (wantsNot rfl rfl rfl rfl) rfl ?_
               refine T.leave .list (wantsNot rfl rfl rfl rfl) rfl ?_
               refine T.pickF .list rfl (wants0 rfl) rfl rfl rfl rfl ?_
               refine T.assign .list rfl (wants0 rfl) rfl rfl ?_
               refine T.nil ?_
               refine T.then_normal ?_
               refine T.ret ?_
               obtain rfl := inv_some hk6
               refine T.pick [] 4 rfl rfl (Nat.le_add_left _ _) rfl ?_
               refine T.ret1 rfl rfl (fun w hS => ⟨(), rfl, hS⟩)
             ·replace hk6 := inv_negB hb5 hk6
              refine T.leave .list (wantsNot rfl rfl rfl hb5) rfl ?_
              refine T.leave .list (wantsNot rfl rfl rfl hb5) rfl ?_
              refine T.pickF .list rfl (wants0 rfl) rfl rfl hb5 rfl ?_
              refine T.move .list rfl (wants0 rfl) rfl rfl ?_
              refine T.leave .list (wantsNot rfl rfl rfl rfl) rfl ?_
              refine T.leave .list (wantsNot rfl rfl rfl rfl) rfl ?_
              refine T.pickF .list rfl (wants0 rfl) rfl rfl rfl rfl ?_
              refine T.move .list rfl (wants0 rfl) rfl rfl ?_
              refine T.leave .list (wantsNot rfl rfl rfl rfl) rfl ?_
              refine T.leave .list (wantsNot rfl rfl rfl rfl) rfl ?_
              refine T.leave .list (wantsNot rfl rfl rfl rfl) rfl ?_
              refine T.leave .list (wantsNot rfl rfl rfl rfl) rfl ?_
              refine T.leave .list (wantsNot rfl rfl rfl rfl) rfl ?_
              refine T.pickF .list rfl (wants0 rfl) rfl rfl rfl rfl ?_
              refine T.move .list rfl (wants0 rfl) rfl rfl ?_
              refine T.leave .list (wantsNot rfl rfl rfl rfl) rfl ?_
              refine T.leave .list (wantsNot rfl rfl rfl rfl) rfl ?_
              refine T.leave .list (wantsNot rfl rfl rfl rfl) rfl ?_
              refine T.pickF .list rfl (wants0 rfl) rfl rfl rfl rfl ?_
              refine T.move .list rfl (wants0 rfl) rfl rfl ?_
              refine T.leave .list (wantsNot rfl rfl rfl rfl) rfl ?_
              refine T.leave .list (wantsNot rfl rfl rfl rfl) rfl ?_
              refine T.leave .list (wantsNot rfl rfl rfl rfl) rfl ?_
              refine T.pickF .list rfl (wants0 rfl) rfl rfl rfl rfl ?_
              refine T.move .list rfl (wants0 rfl) rfl rfl ?_
              refine T.leave .list (wantsNot rfl rfl rfl rfl) rfl ?_
              refine T.leave .list (wantsNot rfl rfl rfl rfl) rfl ?_
              refine T.leave .list (wantsNot rfl rfl rfl rfl) rfl ?_
              refine T.pickF .list rfl (wants0 rfl) rfl rfl rfl rfl ?_
              refine T.assign .list rfl (wants0 rfl) rfl rfl ?_
              refine T.nil ?_
              refine T.then_normal ?_
              refine T.ret ?_
              obtain rfl := inv_some hk6
              refine T.pick [] 4 rfl rfl (Nat.le_add_left _ _) rfl ?_
              refine T.ret1 rfl rfl (fun w hS => ⟨(), rfl, hS⟩)
            ·dsimp only at hk6
             refine T.pick [0, 1, 2, 3] 4 rfl rfl (Nat.le_add_left _ _) (hs' := Cl x2.1 68 [.int .i64 r7.1, .map (some x2.2.1), .slice x12.1.1 s5.2.2.1.length x12.1.2, .bool r7.2.1, .int .i64 r7.2.2.1, .int .i64 r7.2.2.2.1, .int .u64 r7.2.2.2.2.1, .int .i64 r7.2.2.2.2.2.1, .int .i64 r7.2.2.2.2.2.2] :: Mp (Elt.slice E8) x2.2.1 s5.2.1 :: Hb 82 x12.1.1 x12.1.2 x12.2 s5.2.2.1 :: Bb 5 x12.2 s5.2.2.1 :: hs) rfl ?_
             refine T.call (v := fun (x18 : (Nat) × (Nat)) => .tuple #[.pointer (some ⟨x18.1, 0, none⟩), .int .i64 r8p1]) (hs' := fun x18 => Cl x2.1 68 [.int .i64 r7.1, .map (some x2.2.1), .slice x12.1.1 s5.2.2.1.length x12.1.2, .bool r7.2.1, .int .i64 r7.2.2.1, .int .i64 r7.2.2.2.1, .int .u64 r7.2.2.2.2.1, .int .i64 r7.2.2.2.2.2.1, .int .i64 r7.2.2.2.2.2.2] :: Mp (Elt.slice E8) x2.2.1 s5.2.1 :: Hb 82 x12.1.1 x12.1.2 x12.2 s5.2.2.1 :: Bb 5 x12.2 s5.2.2.1 :: Cl x18.1 45 [.int .i64 r8p0.1.1, .map (some x18.2), .pointer (some ⟨x2.1, 0, none⟩), .int .i64 r8p0.1.2.1, .int .u64 r8p0.1.2.2.1, .int .i64 r8p0.1.2.2.2] :: Mp E64 x18.2 r8p0.2 :: hs) .list (wants0 rfl) rfl (run_callF (vs := [_]) rfl Try.func8 rfl (by decide) rfl) (fun w hS => page_Open.c hS (o0 := (r7.1, r7.2.1, r7.2.2.1, r7.2.2.2.1, r7.2.2.2.2.1, r7.2.2.2.2.2.1, r7.2.2.2.2.2.2)) (q0b := s5.2.1) (q0c := s5.2.2.1)  hg8) (fun x18 => ?_)
             refine T.move .list rfl (wants0 rfl) rfl rfl ?_
             refine T.extract .list rfl (wants0 rfl) rfl rfl rfl ?_
             refine T.extract .list rfl (wants0 rfl) rfl rfl rfl ?_
             refine T.assign .list rfl (wants0 rfl) rfl rfl ?_
             refine T.assign .list rfl (wants0 rfl) rfl rfl ?_
             refine T.nil ?_
             refine T.then_normal ?_
             refine T.seq ?_
             refine T.region ?_
             obtain ⟨r10, hg10, hk6⟩ := inv_bind hk6
             refine T.call .list (wants0 rfl) rfl (run_callF (vs := []) rfl Try.func14 rfl (by decide) rfl) (fun w hS => law4_told.c hS  hg10) (fun x19 => ?_)
             refine T.move .list rfl (wants0 rfl) rfl rfl ?_
             refine T.bool (b := r10) (fun hb7 => ?_) (fun hb7 => ?_)
             ·replace hk6 := inv_posB hb7 hk6
              refine T.move .list rfl (wants1 rfl rfl rfl hb7) rfl rfl ?_
              refine T.bin .list rfl (wants1 rfl rfl rfl hb7) rfl rfl rfl rfl ?_
              refine T.pickT .list rfl (wants0 rfl) rfl rfl hb7 rfl ?_
              refine T.move .list rfl (wants0 rfl) rfl rfl ?_
              refine T.bool (b := (decide (r8p1 = 0))) (fun hb8 => ?_) (fun hb8 => ?_)
              ·replace hk6 := inv_posB hb8 hk6
               refine T.move .list rfl (wants1 rfl rfl rfl hb8) rfl rfl ?_
               refine T.ptrNe (pt := 45) .list rfl (wants1 rfl rfl rfl hb8) rfl rfl rfl (by kernel_rfl) (.inr rfl) rfl ?_
               refine T.pickT .list rfl (wants0 rfl) rfl rfl hb8 rfl ?_
               refine T.move .list rfl (wants0 rfl) rfl rfl ?_
               refine T.move .list rfl (wants1 rfl rfl rfl rfl) rfl rfl ?_
               refine T.nilCheck .list rfl (wants1 rfl rfl rfl rfl) rfl rfl ?_
               refine T.field .list rfl (wants1 rfl rfl rfl rfl) rfl rfl ?_
               refine T.pick [4, 5, 0, 1, 2, 3] 6 rfl rfl (Nat.le_add_left _ _) (hs' := Cl x18.1 45 [.int .i64 r8p0.1.1, .map (some x18.2), .pointer (some ⟨x2.1, 0, none⟩), .int .i64 r8p0.1.2.1, .int .u64 r8p0.1.2.2.1, .int .i64 r8p0.1.2.2.2] :: Mp E64 x18.2 r8p0.2 :: Cl x2.1 68 [.int .i64 r7.1, .map (some x2.2.1), .slice x12.1.1 s5.2.2.1.length x12.1.2, .bool r7.2.1, .int .i64 r7.2.2.1, .int .i64 r7.2.2.2.1, .int .u64 r7.2.2.2.2.1, .int .i64 r7.2.2.2.2.2.1, .int .i64 r7.2.2.2.2.2.2] :: Mp (Elt.slice E8) x2.2.1 s5.2.1 :: Hb 82 x12.1.1 x12.1.2 x12.2 s5.2.2.1 :: Bb 5 x12.2 s5.2.2.1 :: hs) rfl ?_
               obtain ⟨r11, hg11, hk6⟩ := inv_bind hk6
               refine T.call .list (wants1 rfl rfl rfl rfl) rfl (run_callF (vs := [_]) rfl Try.func12 rfl (by decide) rfl) (fun w hS => page_counts_Left.c hS (T0 := 45) (rest0 := [.pointer (some ⟨x2.1, 0, none⟩), .int .i64 r8p0.1.2.1, .int .u64 r8p0.1.2.2.1, .int .i64 r8p0.1.2.2.2]) (o0 := r8p0.1.1) (q0b := r8p0.2)  hg11) (fun x20 => ?_)
               refine T.bin .list rfl (wants1 rfl rfl rfl rfl) rfl rfl rfl rfl ?_
               refine T.pickT .list rfl (wants0 rfl) rfl rfl rfl rfl ?_
               refine T.move .list rfl (wants0 rfl) rfl rfl ?_
               refine T.bool (b := (decide (r11 = 18))) (fun hb9 => ?_) (fun hb9 => ?_)
               ·replace hk6 := inv_posB hb9 hk6
                refine T.move .list rfl (wants1 rfl rfl rfl hb9) rfl rfl ?_
                refine T.pick [0, 1, 2, 3, 4, 5] 6 rfl rfl (Nat.le_add_left _ _) (hs' := Cl x18.1 45 [.int .i64 r8p0.1.1, .map (some x18.2), .pointer (some ⟨x2.1, 0, none⟩), .int .i64 r8p0.1.2.1, .int .u64 r8p0.1.2.2.1, .int .i64 r8p0.1.2.2.2] :: Mp E64 x18.2 r8p0.2 :: Cl x2.1 68 [.int .i64 r7.1, .map (some x2.2.1), .slice x12.1.1 s5.2.2.1.length x12.1.2, .bool r7.2.1, .int .i64 r7.2.2.1, .int .i64 r7.2.2.2.1, .int .u64 r7.2.2.2.2.1, .int .i64 r7.2.2.2.2.2.1, .int .i64 r7.2.2.2.2.2.2] :: Mp (Elt.slice E8) x2.2.1 s5.2.1 :: Hb 82 x12.1.1 x12.1.2 x12.2 s5.2.2.1 :: Bb 5 x12.2 s5.2.2.1 :: hs) rfl ?_
                obtain ⟨r12, hg12, hk6⟩ := inv_bind hk6
                refine T.call .list (wants1 rfl rfl rfl hb9) rfl (run_callF (vs := [_]) rfl Try.func15 rfl (by decide) rfl) (fun w hS => page_Store_Number.c hS (o0 := (r8p0.1.1, r8p0.1.2.1, r8p0.1.2.2.1, r8p0.1.2.2.2)) (q0b := r8p0.2) (o0c := (r7.1, r7.2.1, r7.2.2.1, r7.2.2.2.1, r7.2.2.2.2.1, r7.2.2.2.2.2.1, r7.2.2.2.2.2.2)) (q0cb := s5.2.1) (q0cc := s5.2.2.1)  hg12) (fun x21 => ?_)
                refine T.bin .list rfl (wants1 rfl rfl rfl hb9) rfl rfl rfl rfl ?_
                refine T.pickT .list rfl (wants0 rfl) rfl rfl hb9 rfl ?_
                refine T.move .list rfl (wants0 rfl) rfl rfl ?_
                refine T.bool (b := (decide (r12 = 0))) (fun hb10 => ?_) (fun hb10 => ?_)
                ·replace hk6 := inv_posB hb10 hk6
                 refine T.move .list rfl (wants1 rfl rfl rfl hb10) rfl rfl ?_
                 refine T.pick [0, 1, 2, 3, 4, 5] 6 rfl rfl (Nat.le_add_left _ _) (hs' := Cl x18.1 45 [.int .i64 r8p0.1.1, .map (some x18.2), .pointer (some ⟨x2.1, 0, none⟩), .int .i64 r8p0.1.2.1, .int .u64 r8p0.1.2.2.1, .int .i64 r8p0.1.2.2.2] :: Mp E64 x18.2 r8p0.2 :: Cl x2.1 68 [.int .i64 r7.1, .map (some x2.2.1), .slice x12.1.1 s5.2.2.1.length x12.1.2, .bool r7.2.1, .int .i64 r7.2.2.1, .int .i64 r7.2.2.2.1, .int .u64 r7.2.2.2.2.1, .int .i64 r7.2.2.2.2.2.1, .int .i64 r7.2.2.2.2.2.2] :: Mp (Elt.slice E8) x2.2.1 s5.2.1 :: Hb 82 x12.1.1 x12.1.2 x12.2 s5.2.2.1 :: Bb 5 x12.2 s5.2.2.1 :: hs) rfl ?_
                 obtain ⟨r13, hg13, hk6⟩ := inv_bind hk6
                 refine T.call .list (wants1 rfl rfl rfl hb10) rfl (run_callF (vs := [_]) rfl Try.func21 rfl (by decide) rfl) (fun w hS => page_Store_Root.c hS (o0 := (r8p0.1.1, r8p0.1.2.1, r8p0.1.2.2.1, r8p0.1.2.2.2)) (q0b := r8p0.2) (o0c := (r7.1, r7.2.1, r7.2.2.1, r7.2.2.2.1, r7.2.2.2.2.1, r7.2.2.2.2.2.1, r7.2.2.2.2.2.2)) (q0cb := s5.2.1) (q0cc := s5.2.2.1)  hg13) (fun x22 => ?_)
                 refine T.bin .list rfl (wants1 rfl rfl rfl hb10) rfl rfl rfl rfl ?_
                 refine T.pickT .list rfl (wants0 rfl) rfl rfl hb10 rfl ?_
                 refine T.move .list rfl (wants0 rfl) rfl rfl ?_
                 refine T.bool (b := (decide (r13 = 0))) (fun hb11 => ?_) (fun hb11 => ?_)
                 ·replace hk6 := inv_posB hb11 hk6
                  refine T.move .list rfl (wants1 rfl rfl rfl hb11) rfl rfl ?_
                  refine T.pick [0, 1, 2, 3, 4, 5] 6 rfl rfl (Nat.le_add_left _ _) (hs' := Cl x18.1 45 [.int .i64 r8p0.1.1, .map (some x18.2), .pointer (some ⟨x2.1, 0, none⟩), .int .i64 r8p0.1.2.1, .int .u64 r8p0.1.2.2.1, .int .i64 r8p0.1.2.2.2] :: Mp E64 x18.2 r8p0.2 :: Cl x2.1 68 [.int .i64 r7.1, .map (some x2.2.1), .slice x12.1.1 s5.2.2.1.length x12.1.2, .bool r7.2.1, .int .i64 r7.2.2.1, .int .i64 r7.2.2.2.1, .int .u64 r7.2.2.2.2.1, .int .i64 r7.2.2.2.2.2.1, .int .i64 r7.2.2.2.2.2.2] :: Mp (Elt.slice E8) x2.2.1 s5.2.1 :: Hb 82 x12.1.1 x12.1.2 x12.2 s5.2.2.1 :: Bb 5 x12.2 s5.2.2.1 :: hs) rfl ?_
                  obtain ⟨r14, hg14, hk6⟩ := inv_bind hk6
                  refine T.call .list (wants1 rfl rfl rfl hb11) rfl (run_callF (vs := [_]) rfl Try.func19 rfl (by decide) rfl) (fun w hS => page_Store_Dead.c hS (o0 := (r8p0.1.1, r8p0.1.2.1, r8p0.1.2.2.1, r8p0.1.2.2.2)) (q0b := r8p0.2) (o0c := (r7.1, r7.2.1, r7.2.2.1, r7.2.2.2.1, r7.2.2.2.2.1, r7.2.2.2.2.2.1, r7.2.2.2.2.2.2)) (q0cb := s5.2.1) (q0cc := s5.2.2.1)  hg14) (fun x23 => ?_)
                  refine T.not .list rfl (wants1 rfl rfl rfl hb11) rfl rfl ?_
                  refine T.pickT .list rfl (wants0 rfl) rfl rfl hb11 rfl ?_
                  refine T.assign .list rfl (wants0 rfl) rfl rfl ?_
                  refine T.nil ?_
                  refine T.then_normal ?_
                  refine T.ret ?_
                  obtain rfl := inv_some hk6
                  refine T.pick [] 6 rfl rfl (Nat.le_add_left _ _) rfl ?_
                  refine T.ret1 rfl rfl (fun w hS => ⟨(), rfl, hS⟩)
                 ·replace hk6 := inv_negB hb11 hk6
                  refine T.leave .list (wantsNot rfl rfl rfl hb11) rfl ?_
                  refine T.leave .list (wantsNot rfl rfl rfl hb11) rfl ?_
                  refine T.leave .list (wantsNot rfl rfl rfl hb11) rfl ?_
                  refine T.pickF .list rfl (wants0 rfl) rfl rfl hb11 rfl ?_
                  refine T.assign .list rfl (wants0 rfl) rfl rfl ?_
                  refine T.nil ?_
                  refine T.then_normal ?_
                  refine T.ret ?_
                  obtain rfl := inv_some hk6
                  refine T.pick [] 6 rfl rfl (Nat.le_add_left _ _) rfl ?_
                  refine T.ret1 rfl rfl (fun w hS => ⟨(), rfl, hS⟩)
                ·replace hk6 := inv_negB hb10 hk6
                 refine T.leave .list (wantsNot rfl rfl rfl hb10) rfl ?_
                 refine T.leave .list (wantsNot rfl rfl rfl hb10) rfl ?_
                 refine T.leave .list (wantsNot rfl rfl rfl hb10) rfl ?_
                 refine T.pickF .list rfl (wants0 rfl) rfl rfl hb10 rfl ?_
                 refine T.move .list rfl (wants0 rfl) rfl rfl ?_
                 refine T.leave .list (wantsNot rfl rfl rfl rfl) rfl ?_
                 refine T.leave .list (wantsNot rfl rfl rfl rfl) rfl ?_
                 refine T.leave .list (wantsNot rfl rfl rfl rfl) rfl ?_
                 refine T.pickF .list rfl (wants0 rfl) rfl rfl rfl rfl ?_
                 refine T.assign .list rfl (wants0 rfl) rfl rfl ?_
                 refine T.nil ?_
                 refine T.then_normal ?_
                 refine T.ret ?_
                 obtain rfl := inv_some hk6
                 refine T.pick [] 6 rfl rfl (Nat.le_add_left _ _) rfl ?_
                 refine T.ret1 rfl rfl (fun w hS => ⟨(), rfl, hS⟩)
               ·replace hk6 := inv_negB hb9 hk6
                refine T.leave .list (wantsNot rfl rfl rfl hb9) rfl ?_
                refine T.leave .list (wantsNot rfl rfl rfl hb9) rfl ?_
                refine T.leave .list (wantsNot rfl rfl rfl hb9) rfl ?_
                refine T.pickF .list rfl (wants0 rfl) rfl rfl hb9 rfl ?_
                refine T.move .list rfl (wants0 rfl) rfl rfl ?_
                refine T.leave .list (wantsNot rfl rfl rfl rfl) rfl ?_
                refine T.leave .list (wantsNot rfl rfl rfl rfl) rfl ?_
                refine T.leave .list (wantsNot rfl rfl rfl rfl) rfl ?_
                refine T.pickF .list rfl (wants0 rfl) rfl rfl rfl rfl ?_
                refine T.move .list rfl (wants0 rfl) rfl rfl ?_
                refine T.leave .list (wantsNot rfl rfl rfl rfl) rfl ?_
                refine T.leave .list (wantsNot rfl rfl rfl rfl) rfl ?_
                refine T.leave .list (wantsNot rfl rfl rfl rfl) rfl ?_
                refine T.pickF .list rfl (wants0 rfl) rfl rfl rfl rfl ?_
                refine T.assign .list rfl (wants0 rfl) rfl rfl ?_
                refine T.nil ?_
                refine T.then_normal ?_
                refine T.ret ?_
                obtain rfl := inv_some hk6
                refine T.pick [] 6 rfl rfl (Nat.le_add_left _ _) rfl ?_
                refine T.ret1 rfl rfl (fun w hS => ⟨(), rfl, hS⟩)
              ·replace hk6 := inv_negB hb8 hk6
               refine T.leave .list (wantsNot rfl rfl rfl hb8) rfl ?_
               refine T.leave .list (wantsNot rfl rfl rfl hb8) rfl ?_
               refine T.pickF .list rfl (wants0 rfl) rfl rfl hb8 rfl ?_
               refine T.move .list rfl (wants0 rfl) rfl rfl ?_
               refine T.leave .list (wantsNot rfl rfl rfl rfl) rfl ?_
               refine T.leave .list (wantsNot rfl rfl rfl rfl) rfl ?_
               refine T.leave .list (wantsNot rfl rfl rfl rfl) rfl ?_
               refine T.leave .list (wantsNot rfl rfl rfl rfl) rfl ?_
               refine T.leave .list (wantsNot rfl rfl rfl rfl) rfl ?_
               refine T.pickF .list rfl (wants0 rfl) rfl rfl rfl rfl ?_
               refine T.move .list rfl (wants0 rfl) rfl rfl ?_
               refine T.leave .list (wantsNot rfl rfl rfl rfl) rfl ?_
               refine T.leave .list (wantsNot rfl rfl rfl rfl) rfl ?_
               refine T.leave .list (wantsNot rfl rfl rfl rfl) rfl ?_
               refine T.pickF .list rfl (wants0 rfl) rfl rfl rfl rfl ?_
               refine T.move .list rfl (wants0 rfl) rfl rfl ?_
               refine T.leave .list (wantsNot rfl rfl rfl rfl) rfl ?_
               refine T.leave .list (wantsNot rfl rfl rfl rfl) rfl ?_
               refine T.leave .list (wantsNot rfl rfl rfl rfl) rfl ?_
               refine T.pickF .list rfl (wants0 rfl) rfl rfl rfl rfl ?_
               refine T.move .list rfl (wants0 rfl) rfl rfl ?_
               refine T.leave .list (wantsNot rfl rfl rfl rfl) rfl ?_
               refine T.leave .list (wantsNot rfl rfl rfl rfl) rfl ?_
               refine T.leave .list (wantsNot rfl rfl rfl rfl) rfl ?_
               refine T.pickF .list rfl (wants0 rfl) rfl rfl rfl rfl ?_
               refine T.assign .list rfl (wants0 rfl) rfl rfl ?_
               refine T.nil ?_
               refine T.then_normal ?_
               refine T.ret ?_
               obtain rfl := inv_some hk6
               refine T.pick [] 6 rfl rfl (Nat.le_add_left _ _) rfl ?_
               refine T.ret1 rfl rfl (fun w hS => ⟨(), rfl, hS⟩)
             ·replace hk6 := inv_negB hb7 hk6
              refine T.leave .list (wantsNot rfl rfl rfl hb7) rfl ?_
              refine T.leave .list (wantsNot rfl rfl rfl hb7) rfl ?_
              refine T.pickF .list rfl (wants0 rfl) rfl rfl hb7 rfl ?_
              refine T.move .list rfl (wants0 rfl) rfl rfl ?_
              refine T.leave .list (wantsNot rfl rfl rfl rfl) rfl ?_
              refine T.leave .list (wantsNot rfl rfl rfl rfl) rfl ?_
              refine T.pickF .list rfl (wants0 rfl) rfl rfl rfl rfl ?_
              refine T.move .list rfl (wants0 rfl) rfl rfl ?_
              refine T.leave .list (wantsNot rfl rfl rfl rfl) rfl ?_
              refine T.leave .list (wantsNot rfl rfl rfl rfl) rfl ?_
              refine T.leave .list (wantsNot rfl rfl rfl rfl) rfl ?_
              refine T.leave .list (wantsNot rfl rfl rfl rfl) rfl ?_
              refine T.leave .list (wantsNot rfl rfl rfl rfl) rfl ?_
              refine T.pickF .list rfl (wants0 rfl) rfl rfl rfl rfl ?_
              refine T.move .list rfl (wants0 rfl) rfl rfl ?_
              refine T.leave .list (wantsNot rfl rfl rfl rfl) rfl ?_
              refine T.leave .list (wantsNot rfl rfl rfl rfl) rfl ?_
              refine T.leave .list (wantsNot rfl rfl rfl rfl) rfl ?_
              refine T.pickF .list rfl (wants0 rfl) rfl rfl rfl rfl ?_
              refine T.move .list rfl (wants0 rfl) rfl rfl ?_
              refine T.leave .list (wantsNot rfl rfl rfl rfl) rfl ?_
              refine T.leave .list (wantsNot rfl rfl rfl rfl) rfl ?_
              refine T.leave .list (wantsNot rfl rfl rfl rfl) rfl ?_
              refine T.pickF .list rfl (wants0 rfl) rfl rfl rfl rfl ?_
              refine T.move .list rfl (wants0 rfl) rfl rfl ?_
              refine T.leave .list (wantsNot rfl rfl rfl rfl) rfl ?_
              refine T.leave .list (wantsNot rfl rfl rfl rfl) rfl ?_
              refine T.leave .list (wantsNot rfl rfl rfl rfl) rfl ?_
              refine T.pickF .list rfl (wants0 rfl) rfl rfl rfl rfl ?_
              refine T.assign .list rfl (wants0 rfl) rfl rfl ?_
              refine T.nil ?_
              refine T.then_normal ?_
              refine T.ret ?_
              obtain rfl := inv_some hk6
              refine T.pick [] 6 rfl rfl (Nat.le_add_left _ _) rfl ?_
              refine T.ret1 rfl rfl (fun w hS => ⟨(), rfl, hS⟩)
          ·refine T.region ?_
           refine T.move .list rfl (wants0 rfl) rfl rfl ?_
           refine T.pick [4, 5, 0, 1, 2, 3] 6 rfl rfl (Nat.le_add_left _ _) (hs' := Cl x5.1 45 [.int .i64 s5.2.2.2.2.2.2.2.2.2.1, .map (some x5.2), .pointer (some ⟨x2.1, 0, none⟩), .int .i64 s5.2.2.2.2.2.2.2.2.2.2.2.1, .int .u64 s5.2.2.2.2.2.2.2.2.2.2.2.2.1, .int .i64 s5.2.2.2.2.2.2.2.2.2.2.2.2.2.1] :: Mp E64 x5.2 s5.2.2.2.2.2.2.2.2.2.2.1 :: Cl x2.1 68 [.int .i64 r7.1, .map (some x2.2.1), .slice x12.1.1 s5.2.2.1.length x12.1.2, .bool r7.2.1, .int .i64 r7.2.2.1, .int .i64 r7.2.2.2.1, .int .u64 r7.2.2.2.2.1, .int .i64 r7.2.2.2.2.2.1, .int .i64 r7.2.2.2.2.2.2] :: Mp (Elt.slice E8) x2.2.1 s5.2.1 :: Hb 82 x12.1.1 x12.1.2 x12.2 s5.2.2.1 :: Bb 5 x12.2 s5.2.2.1 :: hs) rfl ?_
           obtain ⟨r15, hg15, hk5⟩ := inv_bind hk5
           refine T.call .list (wants0 rfl) rfl (run_callF (vs := [_]) rfl Try.func19 rfl (by decide) rfl) (fun w hS => page_Store_Dead.c hS (o0 := (s5.2.2.2.2.2.2.2.2.2.1, s5.2.2.2.2.2.2.2.2.2.2.2.1, s5.2.2.2.2.2.2.2.2.2.2.2.2.1, s5.2.2.2.2.2.2.2.2.2.2.2.2.2.1)) (q0b := s5.2.2.2.2.2.2.2.2.2.2.1) (o0c := (r7.1, r7.2.1, r7.2.2.1, r7.2.2.2.1, r7.2.2.2.2.1, r7.2.2.2.2.2.1, r7.2.2.2.2.2.2)) (q0cb := s5.2.1) (q0cc := s5.2.2.1)  hg15) (fun x24 => ?_)
           refine T.not .list rfl (wants0 rfl) rfl rfl ?_
           refine T.move .list rfl (wants0 rfl) rfl rfl ?_
           refine T.bool (b := r15) (fun hb12 => ?_) (fun hb12 => ?_)
           ·replace hk5 := inv_posB hb12 hk5
            refine T.move .list rfl (wants1 rfl rfl rfl (not_t hb12)) rfl rfl ?_
            refine T.bin .list rfl (wants1 rfl rfl rfl (not_t hb12)) rfl rfl rfl rfl ?_
            refine T.pickF .list rfl (wants0 rfl) rfl rfl (not_t hb12) rfl ?_
            refine T.nil ?_
            refine T.then_normal ?_
            exact T.le (EnvLe.cons rfl (EnvLe.cons rfl EnvLe.nil)) (T.pick [2, 3, 4, 5] 6 rfl rfl (Nat.le_add_left _ _) rfl (J6 (!(decide (r6p1 = 20))) () hk5))
           ·replace hk5 := inv_negB hb12 hk5
            refine T.leave .list (wantsNot rfl rfl rfl (not_f hb12)) rfl ?_
            refine T.leave .list (wantsNot rfl rfl rfl (not_f hb12)) rfl ?_
            refine T.pickT .list rfl (wants0 rfl) rfl rfl (not_f hb12) rfl ?_
            refine T.nil ?_
            refine T.then_normal ?_
            exact T.le (EnvLe.cons rfl (EnvLe.cons rfl EnvLe.nil)) (T.pick [2, 3, 4, 5] 6 rfl rfl (Nat.le_add_left _ _) rfl (J6 true () hk5))
         ·dsimp only at hk5
          refine T.pick [0, 1, 2, 3, 4, 5] 6 rfl rfl (Nat.le_add_left _ _) (hs' := Cl x2.1 68 [.int .i64 s5.1, .map (some x2.2.1), .slice x12.1.1 s5.2.2.1.length x12.1.2, .bool s5.2.2.2.1, .int .i64 s5.2.2.2.2.1, .int .i64 s5.2.2.2.2.2.1, .int .u64 s5.2.2.2.2.2.2.1, .int .i64 s5.2.2.2.2.2.2.2.1, .int .i64 s5.2.2.2.2.2.2.2.2.1] :: Mp (Elt.slice E8) x2.2.1 s5.2.1 :: Hb 82 x12.1.1 x12.1.2 x12.2 s5.2.2.1 :: Bb 5 x12.2 s5.2.2.1 :: Cl x5.1 45 [.int .i64 s5.2.2.2.2.2.2.2.2.2.1, .map (some x5.2), .pointer (some ⟨x2.1, 0, none⟩), .int .i64 s5.2.2.2.2.2.2.2.2.2.2.2.1, .int .u64 s5.2.2.2.2.2.2.2.2.2.2.2.2.1, .int .i64 s5.2.2.2.2.2.2.2.2.2.2.2.2.2.1] :: Mp E64 x5.2 s5.2.2.2.2.2.2.2.2.2.2.1 :: hs) rfl ?_
          refine T.call (v := fun (x25 : (Nat) × (Nat)) => .tuple #[.pointer (some ⟨x25.1, 0, none⟩), .int .i64 r6p1]) (hs' := fun x25 => Cl x2.1 68 [.int .i64 s5.1, .map (some x2.2.1), .slice x12.1.1 s5.2.2.1.length x12.1.2, .bool s5.2.2.2.1, .int .i64 s5.2.2.2.2.1, .int .i64 s5.2.2.2.2.2.1, .int .u64 s5.2.2.2.2.2.2.1, .int .i64 s5.2.2.2.2.2.2.2.1, .int .i64 s5.2.2.2.2.2.2.2.2.1] :: Mp (Elt.slice E8) x2.2.1 s5.2.1 :: Hb 82 x12.1.1 x12.1.2 x12.2 s5.2.2.1 :: Bb 5 x12.2 s5.2.2.1 :: Cl x25.1 45 [.int .i64 r6p0.1.1, .map (some x25.2), .pointer (some ⟨x2.1, 0, none⟩), .int .i64 r6p0.1.2.1, .int .u64 r6p0.1.2.2.1, .int .i64 r6p0.1.2.2.2] :: Mp E64 x25.2 r6p0.2 :: Cl x5.1 45 [.int .i64 s5.2.2.2.2.2.2.2.2.2.1, .map (some x5.2), .pointer (some ⟨x2.1, 0, none⟩), .int .i64 s5.2.2.2.2.2.2.2.2.2.2.2.1, .int .u64 s5.2.2.2.2.2.2.2.2.2.2.2.2.1, .int .i64 s5.2.2.2.2.2.2.2.2.2.2.2.2.2.1] :: Mp E64 x5.2 s5.2.2.2.2.2.2.2.2.2.2.1 :: hs) .list (wants0 rfl) rfl (run_callF (vs := [_]) rfl Try.func8 rfl (by decide) rfl) (fun w hS => page_Open.c hS (o0 := (s5.1, s5.2.2.2.1, s5.2.2.2.2.1, s5.2.2.2.2.2.1, s5.2.2.2.2.2.2.1, s5.2.2.2.2.2.2.2.1, s5.2.2.2.2.2.2.2.2.1)) (q0b := s5.2.1) (q0c := s5.2.2.1)  hg6) (fun x25 => ?_)
          refine T.move .list rfl (wants0 rfl) rfl rfl ?_
          refine T.extract .list rfl (wants0 rfl) rfl rfl rfl ?_
          refine T.extract .list rfl (wants0 rfl) rfl rfl rfl ?_
          refine T.assign .list rfl (wants0 rfl) rfl rfl ?_
          refine T.assign .list rfl (wants0 rfl) rfl rfl ?_
          refine T.nil ?_
          refine T.then_normal ?_
          refine T.seq ?_
          refine T.region ?_
          refine T.move .list rfl (wants0 rfl) rfl rfl ?_
          refine T.pick [0, 1, 2, 3, 4, 5, 6, 7] 8 rfl rfl (Nat.le_add_left _ _) (hs' := Cl x2.1 68 [.int .i64 s5.1, .map (some x2.2.1), .slice x12.1.1 s5.2.2.1.length x12.1.2, .bool s5.2.2.2.1, .int .i64 s5.2.2.2.2.1, .int .i64 s5.2.2.2.2.2.1, .int .u64 s5.2.2.2.2.2.2.1, .int .i64 s5.2.2.2.2.2.2.2.1, .int .i64 s5.2.2.2.2.2.2.2.2.1] :: Mp (Elt.slice E8) x2.2.1 s5.2.1 :: Hb 82 x12.1.1 x12.1.2 x12.2 s5.2.2.1 :: Bb 5 x12.2 s5.2.2.1 :: Cl x25.1 45 [.int .i64 r6p0.1.1, .map (some x25.2), .pointer (some ⟨x2.1, 0, none⟩), .int .i64 r6p0.1.2.1, .int .u64 r6p0.1.2.2.1, .int .i64 r6p0.1.2.2.2] :: Mp E64 x25.2 r6p0.2 :: Cl x5.1 45 [.int .i64 s5.2.2.2.2.2.2.2.2.2.1, .map (some x5.2), .pointer (some ⟨x2.1, 0, none⟩), .int .i64 s5.2.2.2.2.2.2.2.2.2.2.2.1, .int .u64 s5.2.2.2.2.2.2.2.2.2.2.2.2.1, .int .i64 s5.2.2.2.2.2.2.2.2.2.2.2.2.2.1] :: Mp E64 x5.2 s5.2.2.2.2.2.2.2.2.2.2.1 :: hs) rfl ?_
          obtain ⟨r16, hg16, hk5⟩ := inv_bind hk5
          refine T.call .list (wants0 rfl) rfl (run_callF (vs := [_]) rfl Try.func20 rfl (by decide) rfl) (fun w hS => disk_Disk_Restart.c hS (o0 := (s5.1, s5.2.2.2.1, s5.2.2.2.2.1, s5.2.2.2.2.2.1, s5.2.2.2.2.2.2.1, s5.2.2.2.2.2.2.2.1, s5.2.2.2.2.2.2.2.2.1)) (q0b := s5.2.1) (q0c := s5.2.2.1)  hg16) (fun x26 => ?_)
          refine T.nil ?_
          refine T.then_normal ?_
          refine T.seq ?_
          refine T.seqJ (fun (s7 : Bool) (x27 : Unit) => [(5, .pointer (some ⟨x2.1, 0, none⟩)), (119, .bool s7)]) (fun s7 x27 => Cl x2.1 68 [.int .i64 r16.1, .map (some x2.2.1), .slice x12.1.1 s5.2.2.1.length x12.1.2, .bool r16.2.1, .int .i64 r16.2.2.1, .int .i64 r16.2.2.2.1, .int .u64 r16.2.2.2.2.1, .int .i64 r16.2.2.2.2.2.1, .int .i64 r16.2.2.2.2.2.2] :: Mp (Elt.slice E8) x2.2.1 s5.2.1 :: Hb 82 x12.1.1 x12.1.2 x12.2 s5.2.2.1 :: Bb 5 x12.2 s5.2.2.1 :: hs) (fun s7 => law4_PageLost.k7 r16 s5 s7 = some r) (fun s7 x27 hk7 => ?_) (fun J7 => ?_)
          ·unfold law4_PageLost.k7 at hk7
           refine T.cond rfl (fun hb13 => ?_) (fun hb13 => ?_)
           ·replace hk7 := inv_posB hb13 hk7
            refine T.seq ?_
            refine T.region ?_
            refine T.assign .list rfl (wants0 rfl) rfl rfl ?_
            refine T.nil ?_
            refine T.then_normal ?_
            refine T.ret ?_
            refine T.then_ret ?_
            obtain rfl := inv_some hk7
            refine T.pick [] 4 rfl rfl (Nat.le_add_left _ _) rfl ?_
            refine T.ret1 rfl rfl (fun w hS => ⟨(), rfl, hS⟩)
           ·replace hk7 := inv_negB hb13 hk7
            refine T.skip ?_
            refine T.then_normal ?_
            refine T.seq ?_
            refine T.region ?_
            refine T.move .list rfl (wants0 rfl) rfl rfl ?_
            obtain ⟨r17, hg17, hk7⟩ := inv_bind hk7
            rcases r17 with ⟨_ | r17p0, r17p1⟩
            ·dsimp only at hk7
             refine T.pick [0, 1, 2, 3] 4 rfl rfl (Nat.le_add_left _ _) (hs' := Cl x2.1 68 [.int .i64 r16.1, .map (some x2.2.1), .slice x12.1.1 s5.2.2.1.length x12.1.2, .bool r16.2.1, .int .i64 r16.2.2.1, .int .i64 r16.2.2.2.1, .int .u64 r16.2.2.2.2.1, .int .i64 r16.2.2.2.2.2.1, .int .i64 r16.2.2.2.2.2.2] :: Mp (Elt.slice E8) x2.2.1 s5.2.1 :: Hb 82 x12.1.1 x12.1.2 x12.2 s5.2.2.1 :: Bb 5 x12.2 s5.2.2.1 :: hs) rfl ?_
             refine T.call (v := fun (x28 : (Nat) × (Nat)) => .tuple #[.pointer none, .int .i64 r17p1]) (hs' := fun x28 => Cl x2.1 68 [.int .i64 r16.1, .map (some x2.2.1), .slice x12.1.1 s5.2.2.1.length x12.1.2, .bool r16.2.1, .int .i64 r16.2.2.1, .int .i64 r16.2.2.2.1, .int .u64 r16.2.2.2.2.1, .int .i64 r16.2.2.2.2.2.1, .int .i64 r16.2.2.2.2.2.2] :: Mp (Elt.slice E8) x2.2.1 s5.2.1 :: Hb 82 x12.1.1 x12.1.2 x12.2 s5.2.2.1 :: Bb 5 x12.2 s5.2.2.1 :: hs) .list (wants0 rfl) rfl (run_callF (vs := [_]) rfl Try.func8 rfl (by decide) rfl) (fun w hS => page_Open.c hS (o0 := (r16.1, r16.2.1, r16.2.2.1, r16.2.2.2.1, r16.2.2.2.2.1, r16.2.2.2.2.2.1, r16.2.2.2.2.2.2)) (q0b := s5.2.1) (q0c := s5.2.2.1)  hg17) (fun x28 => ?_)
             refine T.move .list rfl (wants0 rfl) rfl rfl ?_
             refine T.extract .list rfl (wants0 rfl) rfl rfl rfl ?_
             refine T.extract .list rfl (wants0 rfl) rfl rfl rfl ?_
             refine T.assign .list rfl (wants0 rfl) rfl rfl ?_
             refine T.assign .list rfl (wants0 rfl) rfl rfl ?_
             refine T.nil ?_
             refine T.then_normal ?_
             refine T.seq ?_
             refine T.region ?_
             obtain ⟨r18, hg18, hk7⟩ := inv_bind hk7
             refine T.call .list (wants0 rfl) rfl (run_callF (vs := []) rfl Try.func14 rfl (by decide) rfl) (fun w hS => law4_told.c hS  hg18) (fun x29 => ?_)
             refine T.move .list rfl (wants0 rfl) rfl rfl ?_
             refine T.bool (b := r18) (fun hb14 => ?_) (fun hb14 => ?_)
             ·replace hk7 := inv_posB hb14 hk7
              refine T.move .list rfl (wants1 rfl rfl rfl hb14) rfl rfl ?_
              refine T.bin .list rfl (wants1 rfl rfl rfl hb14) rfl rfl rfl rfl ?_
              refine T.pickT .list rfl (wants0 rfl) rfl rfl hb14 rfl ?_
              refine T.move .list rfl (wants0 rfl) rfl rfl ?_
              refine T.bool (b := (decide (r17p1 = 0))) (fun hb15 => ?_) (fun hb15 => ?_)
              ·replace hk7 := inv_posB hb15 hk7
               refine T.move .list rfl (wants1 rfl rfl rfl hb15) rfl rfl ?_
               refine T.ptrNe (pt := 45) .list rfl (wants1 rfl rfl rfl hb15) rfl rfl rfl (by kernel_rfl) (.inr rfl) rfl ?_
               refine T.pickT .list rfl (wants0 rfl) rfl rfl hb15 rfl ?_
               refine T.move .list rfl (wants0 rfl) rfl rfl ?_
               refine T.leave .list (wantsNot rfl rfl rfl rfl) rfl ?_
               refine T.leave .list (wantsNot rfl rfl rfl rfl) rfl ?_
               refine T.leave .list (wantsNot rfl rfl rfl rfl) rfl ?_
               refine T.leave .list (wantsNot rfl rfl rfl rfl) rfl ?_
               refine T.leave .list (wantsNot rfl rfl rfl rfl) rfl ?_
               refine T.pickF .list rfl (wants0 rfl) rfl rfl rfl rfl ?_
               refine T.move .list rfl (wants0 rfl) rfl rfl ?_
               refine T.leave .list (wantsNot rfl rfl rfl rfl) rfl ?_
               refine T.leave .list (wantsNot rfl rfl rfl rfl) rfl ?_
               refine T.leave .list (wantsNot rfl rfl rfl rfl) rfl ?_
               refine T.pickF .list rfl (wants0 rfl) rfl rfl rfl rfl ?_
               refine T.move .list rfl (wants0 rfl) rfl rfl ?_
               refine T.leave .list (wantsNot rfl rfl rfl rfl) rfl ?_
               refine T.leave .list (wantsNot rfl rfl rfl rfl) rfl ?_
               refine T.leave .list (wantsNot rfl rfl rfl rfl) rfl ?_
               refine T.pickF .list rfl (wants0 rfl) rfl rfl rfl rfl ?_
               refine T.move .list rfl (wants0 rfl) rfl rfl ?_
               refine T.leave .list (wantsNot rfl rfl rfl rfl) rfl ?_
               refine T.leave .list (wantsNot rfl rfl rfl rfl) rfl ?_
               refine T.leave .list (wantsNot rfl rfl rfl rfl) rfl ?_
               refine T.pickF .list rfl (wants0 rfl) rfl rfl rfl rfl ?_
               refine T.assign .list rfl (wants0 rfl) rfl rfl ?_
               refine T.nil ?_
               refine T.then_normal ?_
               refine T.ret ?_
               obtain rfl := inv_some hk7
               refine T.pick [] 4 rfl rfl (Nat.le_add_left _ _) rfl ?_
               refine T.ret1 rfl rfl (fun w hS => ⟨(), rfl, hS⟩)
              ·replace hk7 := inv_negB hb15 hk7
               refine T.leave .list (wantsNot rfl rfl rfl hb15) rfl ?_
               refine T.leave .list (wantsNot rfl rfl rfl hb15) rfl ?_
               refine T.pickF .list rfl (wants0 rfl) rfl rfl hb15 rfl ?_
               refine T.move .list rfl (wants0 rfl) rfl rfl ?_
               refine T.leave .list (wantsNot rfl rfl rfl rfl) rfl ?_
               refine T.leave .list (wantsNot rfl rfl rfl rfl) rfl ?_
               refine T.leave .list (wantsNot rfl rfl rfl rfl) rfl ?_
               refine T.leave .list (wantsNot rfl rfl rfl rfl) rfl ?_
               refine T.leave .list (wantsNot rfl rfl rfl rfl) rfl ?_
               refine T.pickF .list rfl (wants0 rfl) rfl rfl rfl rfl ?_
               refine T.move .list rfl (wants0 rfl) rfl rfl ?_
               refine T.leave .list (wantsNot rfl rfl rfl rfl) rfl ?_
               refine T.leave .list (wantsNot rfl rfl rfl rfl) rfl ?_
               refine T.leave .list (wantsNot rfl rfl rfl rfl) rfl ?_
               refine T.pickF .list rfl (wants0 rfl) rfl rfl rfl rfl ?_
               refine T.move .list rfl (wants0 rfl) rfl rfl ?_
               refine T.leave .list (wantsNot rfl rfl rfl rfl) rfl ?_
               refine T.leave .list (wantsNot rfl rfl rfl rfl) rfl ?_
               refine T.leave .list (wantsNot rfl rfl rfl rfl) rfl ?_
               refine T.pickF .list rfl (wants0 rfl) rfl rfl rfl rfl ?_
               refine T.move .list rfl (wants0 rfl) rfl rfl ?_
               refine T.leave .list (wantsNot rfl rfl rfl rfl) rfl ?_
               refine T.leave .list (wantsNot rfl rfl rfl rfl) rfl ?_
               refine T.leave .list (wantsNot rfl rfl rfl rfl) rfl ?_
               refine T.pickF .list rfl (wants0 rfl) rfl rfl rfl rfl ?_
               refine T.assign .list rfl (wants0 rfl) rfl rfl ?_
               refine T.nil ?_
               refine T.then_normal ?_
               refine T.ret ?_
               obtain rfl := inv_some hk7
               refine T.pick [] 4 rfl rfl (Nat.le_add_left _ _) rfl ?_
               refine T.ret1 rfl rfl (fun w hS => ⟨(), rfl, hS⟩)
             ·replace hk7 := inv_negB hb14 hk7
              refine T.leave .list (wantsNot rfl rfl rfl hb14) rfl ?_
              refine T.leave .list (wantsNot rfl rfl rfl hb14) rfl ?_
              refine T.pickF .list rfl (wants0 rfl) rfl rfl hb14 rfl ?_
              refine T.move .list rfl (wants0 rfl) rfl rfl ?_
              refine T.leave .list (wantsNot rfl rfl rfl rfl) rfl ?_
              refine T.leave .list (wantsNot rfl rfl rfl rfl) rfl ?_
              refine T.pickF .list rfl (wants0 rfl) rfl rfl rfl rfl ?_
              refine T.move .list rfl (wants0 rfl) rfl rfl ?_
              refine T.leave .list (wantsNot rfl rfl rfl rfl) rfl ?_
              refine T.leave .list (wantsNot rfl rfl rfl rfl) rfl ?_
              refine T.leave .list (wantsNot rfl rfl rfl rfl) rfl ?_
              refine T.leave .list (wantsNot rfl rfl rfl rfl) rfl ?_
              refine T.leave .list (wantsNot rfl rfl rfl rfl) rfl ?_
              refine T.pickF .list rfl (wants0 rfl) rfl rfl rfl rfl ?_
              refine T.move .list rfl (wants0 rfl) rfl rfl ?_
              refine T.leave .list (wantsNot rfl rfl rfl rfl) rfl ?_
              refine T.leave .list (wantsNot rfl rfl rfl rfl) rfl ?_
              refine T.leave .list (wantsNot rfl rfl rfl rfl) rfl ?_
              refine T.pickF .list rfl (wants0 rfl) rfl rfl rfl rfl ?_
              refine T.move .list rfl (wants0 rfl) rfl rfl ?_
              refine T.leave .list (wantsNot rfl rfl rfl rfl) rfl ?_
              refine T.leave .list (wantsNot rfl rfl rfl rfl) rfl ?_
              refine T.leave .list (wantsNot rfl rfl rfl rfl) rfl ?_
              refine T.pickF .list rfl (wants0 rfl) rfl rfl rfl rfl ?_
              refine T.move .list rfl (wants0 rfl) rfl rfl ?_
              refine T.leave .list (wantsNot rfl rfl rfl rfl) rfl ?_
              refine T.leave .list (wantsNot rfl rfl rfl rfl) rfl ?_
              refine T.leave .list (wantsNot rfl rfl rfl rfl) rfl ?_
              refine T.pickF .list rfl (wants0 rfl) rfl rfl rfl rfl ?_
              refine T.assign .list rfl (wants0 rfl) rfl rfl ?_
              refine T.nil ?_
              refine T.then_normal ?_
              refine T.ret ?_
              obtain rfl := inv_some hk7
              refine T.pick [] 4 rfl rfl (Nat.le_add_left _ _) rfl ?_
              refine T.ret1 rfl rfl (fun w hS => ⟨(), rfl, hS⟩)
            ·dsimp only at hk7
             refine T.pick [0, 1, 2, 3] 4 rfl rfl (Nat.le_add_left _ _) (hs' := Cl x2.1 68 [.int .i64 r16.1, .map (some x2.2.1), .slice x12.1.1 s5.2.2.1.length x12.1.2, .bool r16.2.1, .int .i64 r16.2.2.1, .int .i64 r16.2.2.2.1, .int .u64 r16.2.2.2.2.1, .int .i64 r16.2.2.2.2.2.1, .int .i64 r16.2.2.2.2.2.2] :: Mp (Elt.slice E8) x2.2.1 s5.2.1 :: Hb 82 x12.1.1 x12.1.2 x12.2 s5.2.2.1 :: Bb 5 x12.2 s5.2.2.1 :: hs) rfl ?_
             refine T.call (v := fun (x30 : (Nat) × (Nat)) => .tuple #[.pointer (some ⟨x30.1, 0, none⟩), .int .i64 r17p1]) (hs' := fun x30 => Cl x2.1 68 [.int .i64 r16.1, .map (some x2.2.1), .slice x12.1.1 s5.2.2.1.length x12.1.2, .bool r16.2.1, .int .i64 r16.2.2.1, .int .i64 r16.2.2.2.1, .int .u64 r16.2.2.2.2.1, .int .i64 r16.2.2.2.2.2.1, .int .i64 r16.2.2.2.2.2.2] :: Mp (Elt.slice E8) x2.2.1 s5.2.1 :: Hb 82 x12.1.1 x12.1.2 x12.2 s5.2.2.1 :: Bb 5 x12.2 s5.2.2.1 :: Cl x30.1 45 [.int .i64 r17p0.1.1, .map (some x30.2), .pointer (some ⟨x2.1, 0, none⟩), .int .i64 r17p0.1.2.1, .int .u64 r17p0.1.2.2.1, .int .i64 r17p0.1.2.2.2] :: Mp E64 x30.2 r17p0.2 :: hs) .list (wants0 rfl) rfl (run_callF (vs := [_]) rfl Try.func8 rfl (by decide) rfl) (fun w hS => page_Open.c hS (o0 := (r16.1, r16.2.1, r16.2.2.1, r16.2.2.2.1, r16.2.2.2.2.1, r16.2.2.2.2.2.1, r16.2.2.2.2.2.2)) (q0b := s5.2.1) (q0c := s5.2.2.1)  hg17) (fun x30 => ?_)
             refine T.move .list rfl (wants0 rfl) rfl rfl ?_
             refine T.extract .list rfl (wants0 rfl) rfl rfl rfl ?_
             refine T.extract .list rfl (wants0 rfl) rfl rfl rfl ?_
             refine T.assign .list rfl (wants0 rfl) rfl rfl ?_
             refine T.assign .list rfl (wants0 rfl) rfl rfl ?_
             refine T.nil ?_
             refine T.then_normal ?_
             refine T.seq ?_
             refine T.region ?_
             obtain ⟨r19, hg19, hk7⟩ := inv_bind hk7
             refine T.call .list (wants0 rfl) rfl (run_callF (vs := []) rfl Try.func14 rfl (by decide) rfl) (fun w hS => law4_told.c hS  hg19) (fun x31 => ?_)
             refine T.move .list rfl (wants0 rfl) rfl rfl ?_
             refine T.bool (b := r19) (fun hb16 => ?_) (fun hb16 => ?_)
             ·replace hk7 := inv_posB hb16 hk7
              refine T.move .list rfl (wants1 rfl rfl rfl hb16) rfl rfl ?_
              refine T.bin .list rfl (wants1 rfl rfl rfl hb16) rfl rfl rfl rfl ?_
              refine T.pickT .list rfl (wants0 rfl) rfl rfl hb16 rfl ?_
              refine T.move .list rfl (wants0 rfl) rfl rfl ?_
              refine T.bool (b := (decide (r17p1 = 0))) (fun hb17 => ?_) (fun hb17 => ?_)
              ·replace hk7 := inv_posB hb17 hk7
               refine T.move .list rfl (wants1 rfl rfl rfl hb17) rfl rfl ?_
               refine T.ptrNe (pt := 45) .list rfl (wants1 rfl rfl rfl hb17) rfl rfl rfl (by kernel_rfl) (.inr rfl) rfl ?_
               refine T.pickT .list rfl (wants0 rfl) rfl rfl hb17 rfl ?_
               refine T.move .list rfl (wants0 rfl) rfl rfl ?_
               refine T.move .list rfl (wants1 rfl rfl rfl rfl) rfl rfl ?_
               refine T.nilCheck .list rfl (wants1 rfl rfl rfl rfl) rfl rfl ?_
               refine T.field .list rfl (wants1 rfl rfl rfl rfl) rfl rfl ?_
               refine T.pick [4, 5, 0, 1, 2, 3] 6 rfl rfl (Nat.le_add_left _ _) (hs' := Cl x30.1 45 [.int .i64 r17p0.1.1, .map (some x30.2), .pointer (some ⟨x2.1, 0, none⟩), .int .i64 r17p0.1.2.1, .int .u64 r17p0.1.2.2.1, .int .i64 r17p0.1.2.2.2] :: Mp E64 x30.2 r17p0.2 :: Cl x2.1 68 [.int .i64 r16.1, .map (some x2.2.1), .slice x12.1.1 s5.2.2.1.length x12.1.2, .bool r16.2.1, .int .i64 r16.2.2.1, .int .i64 r16.2.2.2.1, .int .u64 r16.2.2.2.2.1, .int .i64 r16.2.2.2.2.2.1, .int .i64 r16.2.2.2.2.2.2] :: Mp (Elt.slice E8) x2.2.1 s5.2.1 :: Hb 82 x12.1.1 x12.1.2 x12.2 s5.2.2.1 :: Bb 5 x12.2 s5.2.2.1 :: hs) rfl ?_
               obtain ⟨r20, hg20, hk7⟩ := inv_bind hk7
               refine T.call .list (wants1 rfl rfl rfl rfl) rfl (run_callF (vs := [_]) rfl Try.func12 rfl (by decide) rfl) (fun w hS => page_counts_Left.c hS (T0 := 45) (rest0 := [.pointer (some ⟨x2.1, 0, none⟩), .int .i64 r17p0.1.2.1, .int .u64 r17p0.1.2.2.1, .int .i64 r17p0.1.2.2.2]) (o0 := r17p0.1.1) (q0b := r17p0.2)  hg20) (fun x32 => ?_)
               refine T.bin .list rfl (wants1 rfl rfl rfl rfl) rfl rfl rfl rfl ?_
               refine T.pickT .list rfl (wants0 rfl) rfl rfl rfl rfl ?_
               refine T.move .list rfl (wants0 rfl) rfl rfl ?_
               refine T.bool (b := (decide (r20 = 18))) (fun hb18 => ?_) (fun hb18 => ?_)
               ·replace hk7 := inv_posB hb18 hk7
                refine T.move .list rfl (wants1 rfl rfl rfl hb18) rfl rfl ?_
                refine T.pick [0, 1, 2, 3, 4, 5] 6 rfl rfl (Nat.le_add_left _ _) (hs' := Cl x30.1 45 [.int .i64 r17p0.1.1, .map (some x30.2), .pointer (some ⟨x2.1, 0, none⟩), .int .i64 r17p0.1.2.1, .int .u64 r17p0.1.2.2.1, .int .i64 r17p0.1.2.2.2] :: Mp E64 x30.2 r17p0.2 :: Cl x2.1 68 [.int .i64 r16.1, .map (some x2.2.1), .slice x12.1.1 s5.2.2.1.length x12.1.2, .bool r16.2.1, .int .i64 r16.2.2.1, .int .i64 r16.2.2.2.1, .int .u64 r16.2.2.2.2.1, .int .i64 r16.2.2.2.2.2.1, .int .i64 r16.2.2.2.2.2.2] :: Mp (Elt.slice E8) x2.2.1 s5.2.1 :: Hb 82 x12.1.1 x12.1.2 x12.2 s5.2.2.1 :: Bb 5 x12.2 s5.2.2.1 :: hs) rfl ?_
                obtain ⟨r21, hg21, hk7⟩ := inv_bind hk7
                refine T.call .list (wants1 rfl rfl rfl hb18) rfl (run_callF (vs := [_]) rfl Try.func15 rfl (by decide) rfl) (fun w hS => page_Store_Number.c hS (o0 := (r17p0.1.1, r17p0.1.2.1, r17p0.1.2.2.1, r17p0.1.2.2.2)) (q0b := r17p0.2) (o0c := (r16.1, r16.2.1, r16.2.2.1, r16.2.2.2.1, r16.2.2.2.2.1, r16.2.2.2.2.2.1, r16.2.2.2.2.2.2)) (q0cb := s5.2.1) (q0cc := s5.2.2.1)  hg21) (fun x33 => ?_)
                refine T.bin .list rfl (wants1 rfl rfl rfl hb18) rfl rfl rfl rfl ?_
                refine T.pickT .list rfl (wants0 rfl) rfl rfl hb18 rfl ?_
                refine T.move .list rfl (wants0 rfl) rfl rfl ?_
                refine T.bool (b := (decide (r21 = 0))) (fun hb19 => ?_) (fun hb19 => ?_)
                ·replace hk7 := inv_posB hb19 hk7
                 refine T.move .list rfl (wants1 rfl rfl rfl hb19) rfl rfl ?_
                 refine T.pick [0, 1, 2, 3, 4, 5] 6 rfl rfl (Nat.le_add_left _ _) (hs' := Cl x30.1 45 [.int .i64 r17p0.1.1, .map (some x30.2), .pointer (some ⟨x2.1, 0, none⟩), .int .i64 r17p0.1.2.1, .int .u64 r17p0.1.2.2.1, .int .i64 r17p0.1.2.2.2] :: Mp E64 x30.2 r17p0.2 :: Cl x2.1 68 [.int .i64 r16.1, .map (some x2.2.1), .slice x12.1.1 s5.2.2.1.length x12.1.2, .bool r16.2.1, .int .i64 r16.2.2.1, .int .i64 r16.2.2.2.1, .int .u64 r16.2.2.2.2.1, .int .i64 r16.2.2.2.2.2.1, .int .i64 r16.2.2.2.2.2.2] :: Mp (Elt.slice E8) x2.2.1 s5.2.1 :: Hb 82 x12.1.1 x12.1.2 x12.2 s5.2.2.1 :: Bb 5 x12.2 s5.2.2.1 :: hs) rfl ?_
                 obtain ⟨r22, hg22, hk7⟩ := inv_bind hk7
                 refine T.call .list (wants1 rfl rfl rfl hb19) rfl (run_callF (vs := [_]) rfl Try.func21 rfl (by decide) rfl) (fun w hS => page_Store_Root.c hS (o0 := (r17p0.1.1, r17p0.1.2.1, r17p0.1.2.2.1, r17p0.1.2.2.2)) (q0b := r17p0.2) (o0c := (r16.1, r16.2.1, r16.2.2.1, r16.2.2.2.1, r16.2.2.2.2.1, r16.2.2.2.2.2.1, r16.2.2.2.2.2.2)) (q0cb := s5.2.1) (q0cc := s5.2.2.1)  hg22) (fun x34 => ?_)
                 refine T.bin .list rfl (wants1 rfl rfl rfl hb19) rfl rfl rfl rfl ?_
                 refine T.pickT .list rfl (wants0 rfl) rfl rfl hb19 rfl ?_
                 refine T.move .list rfl (wants0 rfl) rfl rfl ?_
                 refine T.bool (b := (decide (r22 = 0))) (fun hb20 => ?_) (fun hb20 => ?_)
                 ·replace hk7 := inv_posB hb20 hk7
                  refine T.move .list rfl (wants1 rfl rfl rfl hb20) rfl rfl ?_
                  refine T.pick [0, 1, 2, 3, 4, 5] 6 rfl rfl (Nat.le_add_left _ _) (hs' := Cl x30.1 45 [.int .i64 r17p0.1.1, .map (some x30.2), .pointer (some ⟨x2.1, 0, none⟩), .int .i64 r17p0.1.2.1, .int .u64 r17p0.1.2.2.1, .int .i64 r17p0.1.2.2.2] :: Mp E64 x30.2 r17p0.2 :: Cl x2.1 68 [.int .i64 r16.1, .map (some x2.2.1), .slice x12.1.1 s5.2.2.1.length x12.1.2, .bool r16.2.1, .int .i64 r16.2.2.1, .int .i64 r16.2.2.2.1, .int .u64 r16.2.2.2.2.1, .int .i64 r16.2.2.2.2.2.1, .int .i64 r16.2.2.2.2.2.2] :: Mp (Elt.slice E8) x2.2.1 s5.2.1 :: Hb 82 x12.1.1 x12.1.2 x12.2 s5.2.2.1 :: Bb 5 x12.2 s5.2.2.1 :: hs) rfl ?_
                  obtain ⟨r23, hg23, hk7⟩ := inv_bind hk7
                  refine T.call .list (wants1 rfl rfl rfl hb20) rfl (run_callF (vs := [_]) rfl Try.func19 rfl (by decide) rfl) (fun w hS => page_Store_Dead.c hS (o0 := (r17p0.1.1, r17p0.1.2.1, r17p0.1.2.2.1, r17p0.1.2.2.2)) (q0b := r17p0.2) (o0c := (r16.1, r16.2.1, r16.2.2.1, r16.2.2.2.1, r16.2.2.2.2.1, r16.2.2.2.2.2.1, r16.2.2.2.2.2.2)) (q0cb := s5.2.1) (q0cc := s5.2.2.1)  hg23) (fun x35 => ?_)
                  refine T.not .list rfl (wants1 rfl rfl rfl hb20) rfl rfl ?_
                  refine T.pickT .list rfl (wants0 rfl) rfl rfl hb20 rfl ?_
                  refine T.assign .list rfl (wants0 rfl) rfl rfl ?_
                  refine T.nil ?_
                  refine T.then_normal ?_
                  refine T.ret ?_
                  obtain rfl := inv_some hk7
                  refine T.pick [] 6 rfl rfl (Nat.le_add_left _ _) rfl ?_
                  refine T.ret1 rfl rfl (fun w hS => ⟨(), rfl, hS⟩)
                 ·replace hk7 := inv_negB hb20 hk7
                  refine T.leave .list (wantsNot rfl rfl rfl hb20) rfl ?_
                  refine T.leave .list (wantsNot rfl rfl rfl hb20) rfl ?_
                  refine T.leave .list (wantsNot rfl rfl rfl hb20) rfl ?_
                  refine T.pickF .list rfl (wants0 rfl) rfl rfl hb20 rfl ?_
                  refine T.assign .list rfl (wants0 rfl) rfl rfl ?_
                  refine T.nil ?_
                  refine T.then_normal ?_
                  refine T.ret ?_
                  obtain rfl := inv_some hk7
                  refine T.pick [] 6 rfl rfl (Nat.le_add_left _ _) rfl ?_
                  refine T.ret1 rfl rfl (fun w hS => ⟨(), rfl, hS⟩)
                ·replace hk7 := inv_negB hb19 hk7
                 refine T.leave .list (wantsNot rfl rfl rfl hb19) rfl ?_
                 refine T.leave .list (wantsNot rfl rfl rfl hb19) rfl ?_
                 refine T.leave .list (wantsNot rfl rfl rfl hb19) rfl ?_
                 refine T.pickF .list rfl (wants0 rfl) rfl rfl hb19 rfl ?_
                 refine T.move .list rfl (wants0 rfl) rfl rfl ?_
                 refine T.leave .list (wantsNot rfl rfl rfl rfl) rfl ?_
                 refine T.leave .list (wantsNot rfl rfl rfl rfl) rfl ?_
                 refine T.leave .list (wantsNot rfl rfl rfl rfl) rfl ?_
                 refine T.pickF .list rfl (wants0 rfl) rfl rfl rfl rfl ?_
                 refine T.assign .list rfl (wants0 rfl) rfl rfl ?_
                 refine T.nil ?_
                 refine T.then_normal ?_
                 refine T.ret ?_
                 obtain rfl := inv_some hk7
                 refine T.pick [] 6 rfl rfl (Nat.le_add_left _ _) rfl ?_
                 refine T.ret1 rfl rfl (fun w hS => ⟨(), rfl, hS⟩)
               ·replace hk7 := inv_negB hb18 hk7
                refine T.leave .list (wantsNot rfl rfl rfl hb18) rfl ?_
                refine T.leave .list (wantsNot rfl rfl rfl hb18) rfl ?_
                refine T.leave .list (wantsNot rfl rfl rfl hb18) rfl ?_
                refine T.pickF .list rfl (wants0 rfl) rfl rfl hb18 rfl ?_
                refine T.move .list rfl (wants0 rfl) rfl rfl ?_
                refine T.leave .list (wantsNot rfl rfl rfl rfl) rfl ?_
                refine T.leave .list (wantsNot rfl rfl rfl rfl) rfl ?_
                refine T.leave .list (wantsNot rfl rfl rfl rfl) rfl ?_
                refine T.pickF .list rfl (wants0 rfl) rfl rfl rfl rfl ?_
                refine T.move .list rfl (wants0 rfl) rfl rfl ?_
                refine T.leave .list (wantsNot rfl rfl rfl rfl) rfl ?_
                refine T.leave .list (wantsNot rfl rfl rfl rfl) rfl ?_
                refine T.leave .list (wantsNot rfl rfl rfl rfl) rfl ?_
                refine T.pickF .list rfl (wants0 rfl) rfl rfl rfl rfl ?_
                refine T.assign .list rfl (wants0 rfl) rfl rfl ?_
                refine T.nil ?_
                refine T.then_normal ?_
                refine T.ret ?_
                obtain rfl := inv_some hk7
                refine T.pick [] 6 rfl rfl (Nat.le_add_left _ _) rfl ?_
                refine T.ret1 rfl rfl (fun w hS => ⟨(), rfl, hS⟩)
              ·replace hk7 := inv_negB hb17 hk7
               refine T.leave .list (wantsNot rfl rfl rfl hb17) rfl ?_
               refine T.leave .list (wantsNot rfl rfl rfl hb17) rfl ?_
               refine T.pickF .list rfl (wants0 rfl) rfl rfl hb17 rfl ?_
               refine T.move .list rfl (wants0 rfl) rfl rfl ?_
               refine T.leave .list (wantsNot rfl rfl rfl rfl) rfl ?_
               refine T.leave .list (wantsNot rfl rfl rfl rfl) rfl ?_
               refine T.leave .list (wantsNot rfl rfl rfl rfl) rfl ?_
               refine T.leave .list (wantsNot rfl rfl rfl rfl) rfl ?_
               refine T.leave .list (wantsNot rfl rfl rfl rfl) rfl ?_
               refine T.pickF .list rfl (wants0 rfl) rfl rfl rfl rfl ?_
               refine T.move .list rfl (wants0 rfl) rfl rfl ?_
               refine T.leave .list (wantsNot rfl rfl rfl rfl) rfl ?_
               refine T.leave .list (wantsNot rfl rfl rfl rfl) rfl ?_
               refine T.leave .list (wantsNot rfl rfl rfl rfl) rfl ?_
               refine T.pickF .list rfl (wants0 rfl) rfl rfl rfl rfl ?_
               refine T.move .list rfl (wants0 rfl) rfl rfl ?_
               refine T.leave .list (wantsNot rfl rfl rfl rfl) rfl ?_
               refine T.leave .list (wantsNot rfl rfl rfl rfl) rfl ?_
               refine T.leave .list (wantsNot rfl rfl rfl rfl) rfl ?_
               refine T.pickF .list rfl (wants0 rfl) rfl rfl rfl rfl ?_
               refine T.move .list rfl (wants0 rfl) rfl rfl ?_
               refine T.leave .list (wantsNot rfl rfl rfl rfl) rfl ?_
               refine T.leave .list (wantsNot rfl rfl rfl rfl) rfl ?_
               refine T.leave .list (wantsNot rfl rfl rfl rfl) rfl ?_
               refine T.pickF .list rfl (wants0 rfl) rfl rfl rfl rfl ?_
               refine T.assign .list rfl (wants0 rfl) rfl rfl ?_
               refine T.nil ?_
               refine T.then_normal ?_
               refine T.ret ?_
               obtain rfl := inv_some hk7
               refine T.pick [] 6 rfl rfl (Nat.le_add_left _ _) rfl ?_
               refine T.ret1 rfl rfl (fun w hS => ⟨(), rfl, hS⟩)
             ·replace hk7 := inv_negB hb16 hk7
              refine T.leave .list (wantsNot rfl rfl rfl hb16) rfl ?_
              refine T.leave .list (wantsNot rfl rfl rfl hb16) rfl ?_
              refine T.pickF .list rfl (wants0 rfl) rfl rfl hb16 rfl ?_
              refine T.move .list rfl (wants0 rfl) rfl rfl ?_
              refine T.leave .list (wantsNot rfl rfl rfl rfl) rfl ?_
              refine T.leave .list (wantsNot rfl rfl rfl rfl) rfl ?_
              refine T.pickF .list rfl (wants0 rfl) rfl rfl rfl rfl ?_
              refine T.move .list rfl (wants0 rfl) rfl rfl ?_
              refine T.leave .list (wantsNot rfl rfl rfl rfl) rfl ?_
              refine T.leave .list (wantsNot rfl rfl rfl rfl) rfl ?_
              refine T.leave .list (wantsNot rfl rfl rfl rfl) rfl ?_
              refine T.leave .list (wantsNot rfl rfl rfl rfl) rfl ?_
              refine T.leave .list (wantsNot rfl rfl rfl rfl) rfl ?_
              refine T.pickF .list rfl (wants0 rfl) rfl rfl rfl rfl ?_
              refine T.move .list rfl (wants0 rfl) rfl rfl ?_
              refine T.leave .list (wantsNot rfl rfl rfl rfl) rfl ?_
              refine T.leave .list (wantsNot rfl rfl rfl rfl) rfl ?_
              refine T.leave .list (wantsNot rfl rfl rfl rfl) rfl ?_
              refine T.pickF .list rfl (wants0 rfl) rfl rfl rfl rfl ?_
              refine T.move .list rfl (wants0 rfl) rfl rfl ?_
              refine T.leave .list (wantsNot rfl rfl rfl rfl) rfl ?_
              refine T.leave .list (wantsNot rfl rfl rfl rfl) rfl ?_
              refine T.leave .list (wantsNot rfl rfl rfl rfl) rfl ?_
              refine T.pickF .list rfl (wants0 rfl) rfl rfl rfl rfl ?_
              refine T.move .list rfl (wants0 rfl) rfl rfl ?_
              refine T.leave .list (wantsNot rfl rfl rfl rfl) rfl ?_
              refine T.leave .list (wantsNot rfl rfl rfl rfl) rfl ?_
              refine T.leave .list (wantsNot rfl rfl rfl rfl) rfl ?_
              refine T.pickF .list rfl (wants0 rfl) rfl rfl rfl rfl ?_
              refine T.assign .list rfl (wants0 rfl) rfl rfl ?_
              refine T.nil ?_
              refine T.then_normal ?_
              refine T.ret ?_
              obtain rfl := inv_some hk7
              refine T.pick [] 6 rfl rfl (Nat.le_add_left _ _) rfl ?_
              refine T.ret1 rfl rfl (fun w hS => ⟨(), rfl, hS⟩)
          ·refine T.region ?_
           refine T.move .list rfl (wants0 rfl) rfl rfl ?_
           refine T.pick [6, 7, 0, 1, 2, 3, 4, 5] 8 rfl rfl (Nat.le_add_left _ _) (hs' := Cl x5.1 45 [.int .i64 s5.2.2.2.2.2.2.2.2.2.1, .map (some x5.2), .pointer (some ⟨x2.1, 0, none⟩), .int .i64 s5.2.2.2.2.2.2.2.2.2.2.2.1, .int .u64 s5.2.2.2.2.2.2.2.2.2.2.2.2.1, .int .i64 s5.2.2.2.2.2.2.2.2.2.2.2.2.2.1] :: Mp E64 x5.2 s5.2.2.2.2.2.2.2.2.2.2.1 :: Cl x2.1 68 [.int .i64 r16.1, .map (some x2.2.1), .slice x12.1.1 s5.2.2.1.length x12.1.2, .bool r16.2.1, .int .i64 r16.2.2.1, .int .i64 r16.2.2.2.1, .int .u64 r16.2.2.2.2.1, .int .i64 r16.2.2.2.2.2.1, .int .i64 r16.2.2.2.2.2.2] :: Mp (Elt.slice E8) x2.2.1 s5.2.1 :: Hb 82 x12.1.1 x12.1.2 x12.2 s5.2.2.1 :: Bb 5 x12.2 s5.2.2.1 :: Cl x25.1 45 [.int .i64 r6p0.1.1, .map (some x25.2), .pointer (some ⟨x2.1, 0, none⟩), .int .i64 r6p0.1.2.1, .int .u64 r6p0.1.2.2.1, .int .i64 r6p0.1.2.2.2] :: Mp E64 x25.2 r6p0.2 :: hs) rfl ?_
           obtain ⟨r24, hg24, hk5⟩ := inv_bind hk5
           refine T.call .list (wants0 rfl) rfl (run_callF (vs := [_]) rfl Try.func19 rfl (by decide) rfl) (fun w hS => page_Store_Dead.c hS (o0 := (s5.2.2.2.2.2.2.2.2.2.1, s5.2.2.2.2.2.2.2.2.2.2.2.1, s5.2.2.2.2.2.2.2.2.2.2.2.2.1, s5.2.2.2.2.2.2.2.2.2.2.2.2.2.1)) (q0b := s5.2.2.2.2.2.2.2.2.2.2.1) (o0c := (r16.1, r16.2.1, r16.2.2.1, r16.2.2.2.1, r16.2.2.2.2.1, r16.2.2.2.2.2.1, r16.2.2.2.2.2.2)) (q0cb := s5.2.1) (q0cc := s5.2.2.1)  hg24) (fun x36 => ?_)
           refine T.not .list rfl (wants0 rfl) rfl rfl ?_
           refine T.move .list rfl (wants0 rfl) rfl rfl ?_
           refine T.bool (b := r24) (fun hb21 => ?_) (fun hb21 => ?_)
           ·replace hk5 := inv_posB hb21 hk5
            refine T.move .list rfl (wants1 rfl rfl rfl (not_t hb21)) rfl rfl ?_
            refine T.bin .list rfl (wants1 rfl rfl rfl (not_t hb21)) rfl rfl rfl rfl ?_
            refine T.pickF .list rfl (wants0 rfl) rfl rfl (not_t hb21) rfl ?_
            refine T.nil ?_
            refine T.then_normal ?_
            exact T.le (EnvLe.cons rfl (EnvLe.cons rfl EnvLe.nil)) (T.pick [2, 3, 4, 5] 8 rfl rfl (Nat.le_add_left _ _) rfl (J7 (!(decide (r6p1 = 20))) () hk5))
           ·replace hk5 := inv_negB hb21 hk5
            refine T.leave .list (wantsNot rfl rfl rfl (not_f hb21)) rfl ?_
            refine T.leave .list (wantsNot rfl rfl rfl (not_f hb21)) rfl ?_
            refine T.pickT .list rfl (wants0 rfl) rfl rfl (not_f hb21) rfl ?_
            refine T.nil ?_
            refine T.then_normal ?_
            exact T.le (EnvLe.cons rfl (EnvLe.cons rfl EnvLe.nil)) (T.pick [2, 3, 4, 5] 8 rfl rfl (Nat.le_add_left _ _) rfl (J7 true () hk5))
       ·refine T.region ?_
        refine T.move .list rfl (wants0 rfl) rfl rfl ?_
        refine T.bin .list rfl (wants0 rfl) rfl rfl rfl rfl ?_
        refine T.move .list rfl (wants0 rfl) rfl rfl ?_
        refine T.bool (b := (decide (r4.2.1 = 20))) (fun hb22 => ?_) (fun hb22 => ?_)
        ·replace hk4 := inv_posB hb22 hk4
         refine T.move .list rfl (wants1 rfl rfl rfl (not_t hb22)) rfl rfl ?_
         refine T.bin .list rfl (wants1 rfl rfl rfl (not_t hb22)) rfl rfl rfl rfl ?_
         refine T.pickF .list rfl (wants0 rfl) rfl rfl (not_t hb22) rfl ?_
         refine T.move .list rfl (wants0 rfl) rfl rfl ?_
         refine T.bool (b := (decide (r5.2 = 20))) (fun hb23 => ?_) (fun hb23 => ?_)
         ·replace hk4 := inv_posB hb23 hk4
          refine T.move .list rfl (wants1 rfl rfl rfl (not_t hb23)) rfl rfl ?_
          refine T.pick [1, 2, 3, 4, 5, 6, 0, 7, 8] 9 rfl rfl (Nat.le_add_left _ _) (hs' := Cl x5.1 45 [.int .i64 r2p0.1.1, .map (some x5.2), .pointer (some ⟨x2.1, 0, none⟩), .int .i64 r2p0.1.2.1, .int .u64 r2p0.1.2.2.1, .int .i64 r2p0.1.2.2.2] :: Mp E64 x5.2 r4.2.2.1 :: Cl x2.1 68 [.int .i64 r4.2.2.2.1.1, .map (some x2.2.1), .slice x10.1.1 r4.2.2.2.2.2.length x10.1.2, .bool r4.2.2.2.1.2.1, .int .i64 r4.2.2.2.1.2.2.1, .int .i64 r4.2.2.2.1.2.2.2.1, .int .u64 r4.2.2.2.1.2.2.2.2.1, .int .i64 r4.2.2.2.1.2.2.2.2.2.1, .int .i64 r4.2.2.2.1.2.2.2.2.2.2] :: Mp (Elt.slice E8) x2.2.1 r4.2.2.2.2.1 :: Hb 82 x10.1.1 x10.1.2 x10.2 r4.2.2.2.2.2 :: Bb 5 x10.2 r4.2.2.2.2.2 :: Ro E8 x11.1 x11.2 r5.1 :: Ro E8 none 0 (([] : List UInt8)) :: Cl b1 57 [.int .i64 s4.1, .int .u64 s4.2.1, .int .i64 s4.2.2.1, .int .i64 s4.2.2.2] :: hs) rfl ?_
          obtain ⟨r25, hg25, hk4⟩ := inv_bind hk4
          refine T.call .list (wants1 rfl rfl rfl (not_t hb23)) rfl (run_callF (vs := [_, _]) rfl Try.func10 rfl (by decide) rfl) (fun w hS => page_Store_Commit.c hS (o0 := (r2p0.1.1, r2p0.1.2.1, r2p0.1.2.2.1, r2p0.1.2.2.2)) (q0b := r4.2.2.1) (o0c := (r4.2.2.2.1.1, r4.2.2.2.1.2.1, r4.2.2.2.1.2.2.1, r4.2.2.2.1.2.2.2.1, r4.2.2.2.1.2.2.2.2.1, r4.2.2.2.1.2.2.2.2.2.1, r4.2.2.2.1.2.2.2.2.2.2)) (q0cb := r4.2.2.2.2.1) (q0cc := r4.2.2.2.2.2)  hg25) (fun x37 => ?_)
          refine T.bin .list rfl (wants1 rfl rfl rfl (not_t hb23)) rfl rfl rfl rfl ?_
          refine T.pickF .list rfl (wants0 rfl) rfl rfl (not_t hb23) rfl ?_
          refine T.move .list rfl (wants0 rfl) rfl rfl ?_
          refine T.bool (b := (decide (r25.1 = 20))) (fun hb24 => ?_) (fun hb24 => ?_)
          ·replace hk4 := inv_posB hb24 hk4
           refine T.move .list rfl (wants1 rfl rfl rfl (not_t hb24)) rfl rfl ?_
           refine T.pick [0, 1, 2, 3, 4, 5, 6, 7, 8] 9 rfl rfl (Nat.le_add_left _ _) (hs' := Cl x5.1 45 [.int .i64 r25.2.1.1, .map (some x5.2), .pointer (some ⟨x2.1, 0, none⟩), .int .i64 r25.2.1.2.1, .int .u64 r25.2.1.2.2.1, .int .i64 r25.2.1.2.2.2] :: Mp E64 x5.2 r25.2.2.1 :: Cl x2.1 68 [.int .i64 r25.2.2.2.1.1, .map (some x2.2.1), .slice x37.1.1 r25.2.2.2.2.2.length x37.1.2, .bool r25.2.2.2.1.2.1, .int .i64 r25.2.2.2.1.2.2.1, .int .i64 r25.2.2.2.1.2.2.2.1, .int .u64 r25.2.2.2.1.2.2.2.2.1, .int .i64 r25.2.2.2.1.2.2.2.2.2.1, .int .i64 r25.2.2.2.1.2.2.2.2.2.2] :: Mp (Elt.slice E8) x2.2.1 r25.2.2.2.2.1 :: Hb 82 x37.1.1 x37.1.2 x37.2 r25.2.2.2.2.2 :: Bb 5 x37.2 r25.2.2.2.2.2 :: Ro E8 x11.1 x11.2 r5.1 :: Ro E8 none 0 (([] : List UInt8)) :: Cl b1 57 [.int .i64 s4.1, .int .u64 s4.2.1, .int .i64 s4.2.2.1, .int .i64 s4.2.2.2] :: hs) rfl ?_
           obtain ⟨r26, hg26, hk4⟩ := inv_bind hk4
           refine T.call .list (wants1 rfl rfl rfl (not_t hb24)) rfl (run_callF (vs := [_, _]) rfl Try.func11 rfl (by decide) rfl) (fun w hS => page_Store_Free.c hS (o0 := (r25.2.1.1, r25.2.1.2.1, r25.2.1.2.2.1, r25.2.1.2.2.2)) (q0b := r25.2.2.1) (o0c := (r25.2.2.2.1.1, r25.2.2.2.1.2.1, r25.2.2.2.1.2.2.1, r25.2.2.2.1.2.2.2.1, r25.2.2.2.1.2.2.2.2.1, r25.2.2.2.1.2.2.2.2.2.1, r25.2.2.2.1.2.2.2.2.2.2)) (q0cb := r25.2.2.2.2.1) (q0cc := r25.2.2.2.2.2)  hg26) (fun x38 => ?_)
           refine T.bin .list rfl (wants1 rfl rfl rfl (not_t hb24)) rfl rfl rfl rfl ?_
           refine T.pickF .list rfl (wants0 rfl) rfl rfl (not_t hb24) rfl ?_
           refine T.move .list rfl (wants0 rfl) rfl rfl ?_
           refine T.bool (b := (decide (r26.1 = 20))) (fun hb25 => ?_) (fun hb25 => ?_)
           ·replace hk4 := inv_posB hb25 hk4
            refine T.move .list rfl (wants1 rfl rfl rfl (not_t hb25)) rfl rfl ?_
            refine T.lit (E := E64) .list (vals := [(0, .int .i64 2)]) (cells := #[.int .i64 2]) rfl (wants1 rfl rfl rfl (not_t hb25)) rfl rfl rfl rfl rfl (by kernel_rfl) ([2] : List Int) rfl (fun _ _ _ _ _ => (Encs.c1 (enc := (Value.int .i64)) (h1 := fun _ => rfl) rfl rfl)) (fun b2 => ?_)
            refine T.freeze 0 rfl rfl rfl ?_
            refine T.pick [1, 2, 3, 4, 5, 6, 0, 7, 8, 9] 10 rfl rfl (Nat.le_add_left _ _) (hs' := Cl x5.1 45 [.int .i64 r25.2.1.1, .map (some x5.2), .pointer (some ⟨x2.1, 0, none⟩), .int .i64 r25.2.1.2.1, .int .u64 r25.2.1.2.2.1, .int .i64 r25.2.1.2.2.2] :: Mp E64 x5.2 r26.2 :: Cl x2.1 68 [.int .i64 r25.2.2.2.1.1, .map (some x2.2.1), .slice x37.1.1 r25.2.2.2.2.2.length x37.1.2, .bool r25.2.2.2.1.2.1, .int .i64 r25.2.2.2.1.2.2.1, .int .i64 r25.2.2.2.1.2.2.2.1, .int .u64 r25.2.2.2.1.2.2.2.2.1, .int .i64 r25.2.2.2.1.2.2.2.2.2.1, .int .i64 r25.2.2.2.1.2.2.2.2.2.2] :: Mp (Elt.slice E8) x2.2.1 r25.2.2.2.2.1 :: Hb 82 x37.1.1 x37.1.2 x37.2 r25.2.2.2.2.2 :: Bb 5 x37.2 r25.2.2.2.2.2 :: Ro E64 (some ⟨b2, 0, none⟩) 1 (([2] : List Int)) :: Ro E8 x11.1 x11.2 r5.1 :: Ro E8 none 0 (([] : List UInt8)) :: Cl b1 57 [.int .i64 s4.1, .int .u64 s4.2.1, .int .i64 s4.2.2.1, .int .i64 s4.2.2.2] :: hs) rfl ?_
            obtain ⟨r27, hg27, hk4⟩ := inv_bind hk4
            refine T.call .list (wants1 rfl rfl rfl (not_t hb25)) rfl (run_callF (vs := [_, _]) rfl Try.func18 rfl (by decide) rfl) (fun w hS => page_Store_Hold.c hS (i1 := 6) (o0 := (r25.2.1.1, r25.2.1.2.1, r25.2.1.2.2.1, r25.2.1.2.2.2)) (q0b := r26.2) (o0c := (r25.2.2.2.1.1, r25.2.2.2.1.2.1, r25.2.2.2.1.2.2.1, r25.2.2.2.1.2.2.2.1, r25.2.2.2.1.2.2.2.2.1, r25.2.2.2.1.2.2.2.2.2.1, r25.2.2.2.1.2.2.2.2.2.2)) (q0cb := r25.2.2.2.2.1) (q0cc := r25.2.2.2.2.2) rfl hg27) (fun x39 => ?_)
            refine T.bin .list rfl (wants1 rfl rfl rfl (not_t hb25)) rfl rfl rfl rfl ?_
            refine T.pickF .list rfl (wants0 rfl) rfl rfl (not_t hb25) rfl ?_
            refine T.move .list rfl (wants0 rfl) rfl rfl ?_
            refine T.bool (b := (decide (r27.1 = 20))) (fun hb26 => ?_) (fun hb26 => ?_)
            ·replace hk4 := inv_posB hb26 hk4
             refine T.move .list rfl (wants1 rfl rfl rfl (not_t hb26)) rfl rfl ?_
             refine T.pick [0, 1, 2, 3, 4, 5, 6, 7, 8, 9] 10 rfl rfl (Nat.le_add_left _ _) (hs' := Cl x5.1 45 [.int .i64 r25.2.1.1, .map (some x5.2), .pointer (some ⟨x2.1, 0, none⟩), .int .i64 r25.2.1.2.1, .int .u64 r25.2.1.2.2.1, .int .i64 r25.2.1.2.2.2] :: Mp E64 x5.2 r27.2 :: Cl x2.1 68 [.int .i64 r25.2.2.2.1.1, .map (some x2.2.1), .slice x37.1.1 r25.2.2.2.2.2.length x37.1.2, .bool r25.2.2.2.1.2.1, .int .i64 r25.2.2.2.1.2.2.1, .int .i64 r25.2.2.2.1.2.2.2.1, .int .u64 r25.2.2.2.1.2.2.2.2.1, .int .i64 r25.2.2.2.1.2.2.2.2.2.1, .int .i64 r25.2.2.2.1.2.2.2.2.2.2] :: Mp (Elt.slice E8) x2.2.1 r25.2.2.2.2.1 :: Hb 82 x37.1.1 x37.1.2 x37.2 r25.2.2.2.2.2 :: Bb 5 x37.2 r25.2.2.2.2.2 :: Ro E64 (some ⟨b2, 0, none⟩) 1 (([2] : List Int)) :: Ro E8 x11.1 x11.2 r5.1 :: Ro E8 none 0 (([] : List UInt8)) :: Cl b1 57 [.int .i64 s4.1, .int .u64 s4.2.1, .int .i64 s4.2.2.1, .int .i64 s4.2.2.2] :: hs) rfl ?_
             obtain ⟨r28, hg28, hk4⟩ := inv_bind hk4
             refine T.call .list (wants1 rfl rfl rfl (not_t hb26)) rfl (run_callF (vs := [_]) rfl Try.func19 rfl (by decide) rfl) (fun w hS => page_Store_Dead.c hS (o0 := (r25.2.1.1, r25.2.1.2.1, r25.2.1.2.2.1, r25.2.1.2.2.2)) (q0b := r27.2) (o0c := (r25.2.2.2.1.1, r25.2.2.2.1.2.1, r25.2.2.2.1.2.2.1, r25.2.2.2.1.2.2.2.1, r25.2.2.2.1.2.2.2.2.1, r25.2.2.2.1.2.2.2.2.2.1, r25.2.2.2.1.2.2.2.2.2.2)) (q0cb := r25.2.2.2.2.1) (q0cc := r25.2.2.2.2.2)  hg28) (fun x40 => ?_)
             refine T.not .list rfl (wants1 rfl rfl rfl (not_t hb26)) rfl rfl ?_
             refine T.pickF .list rfl (wants0 rfl) rfl rfl (not_t hb26) rfl ?_
             refine T.nil ?_
             refine T.then_normal ?_
             exact T.le (EnvLe.cons rfl (EnvLe.cons rfl (EnvLe.cons rfl EnvLe.nil))) (T.pick [2, 3, 4, 5, 0, 1] 10 rfl rfl (Nat.le_add_left _ _) rfl (J5 (r25.2.2.2.1.1, r25.2.2.2.2.1, r25.2.2.2.2.2, r25.2.2.2.1.2.1, r25.2.2.2.1.2.2.1, r25.2.2.2.1.2.2.2.1, r25.2.2.2.1.2.2.2.2.1, r25.2.2.2.1.2.2.2.2.2.1, r25.2.2.2.1.2.2.2.2.2.2, r25.2.1.1, r27.2, r25.2.1.2.1, r25.2.1.2.2.1, r25.2.1.2.2.2, (!r28)) ((x37.1.1, x37.1.2), x37.2) hk4))
            ·replace hk4 := inv_negB hb26 hk4
             refine T.leave .list (wantsNot rfl rfl rfl (not_f hb26)) rfl ?_
             refine T.leave .list (wantsNot rfl rfl rfl (not_f hb26)) rfl ?_
             refine T.leave .list (wantsNot rfl rfl rfl (not_f hb26)) rfl ?_
             refine T.pickT .list rfl (wants0 rfl) rfl rfl (not_f hb26) rfl ?_
             refine T.nil ?_
             refine T.then_normal ?_
             exact T.le (EnvLe.cons rfl (EnvLe.cons rfl (EnvLe.cons rfl EnvLe.nil))) (T.pick [2, 3, 4, 5, 0, 1] 10 rfl rfl (Nat.le_add_left _ _) rfl (J5 (r25.2.2.2.1.1, r25.2.2.2.2.1, r25.2.2.2.2.2, r25.2.2.2.1.2.1, r25.2.2.2.1.2.2.1, r25.2.2.2.1.2.2.2.1, r25.2.2.2.1.2.2.2.2.1, r25.2.2.2.1.2.2.2.2.2.1, r25.2.2.2.1.2.2.2.2.2.2, r25.2.1.1, r27.2, r25.2.1.2.1, r25.2.1.2.2.1, r25.2.1.2.2.2, true) ((x37.1.1, x37.1.2), x37.2) hk4))
           ·replace hk4 := inv_negB hb25 hk4
            refine T.leave .list (wantsNot rfl rfl rfl (not_f hb25)) rfl ?_
            refine T.leave .list (wantsNot rfl rfl rfl (not_f hb25)) rfl ?_
            refine T.leave .list (wantsNot rfl rfl rfl (not_f hb25)) rfl ?_
            refine T.leave .list (wantsNot rfl rfl rfl (not_f hb25)) rfl ?_
            refine T.pickT .list rfl (wants0 rfl) rfl rfl (not_f hb25) rfl ?_
            refine T.move .list rfl (wants0 rfl) rfl rfl ?_
            refine T.leave .list (wantsNot rfl rfl rfl rfl) rfl ?_
            refine T.leave .list (wantsNot rfl rfl rfl rfl) rfl ?_
            refine T.leave .list (wantsNot rfl rfl rfl rfl) rfl ?_
            refine T.pickT .list rfl (wants0 rfl) rfl rfl rfl rfl ?_
            refine T.nil ?_
            refine T.then_normal ?_
            exact T.le (EnvLe.cons rfl (EnvLe.cons rfl (EnvLe.cons rfl EnvLe.nil))) (T.pick [2, 3, 4, 5, 0, 1] 9 rfl rfl (Nat.le_add_left _ _) rfl (J5 (r25.2.2.2.1.1, r25.2.2.2.2.1, r25.2.2.2.2.2, r25.2.2.2.1.2.1, r25.2.2.2.1.2.2.1, r25.2.2.2.1.2.2.2.1, r25.2.2.2.1.2.2.2.2.1, r25.2.2.2.1.2.2.2.2.2.1, r25.2.2.2.1.2.2.2.2.2.2, r25.2.1.1, r26.2, r25.2.1.2.1, r25.2.1.2.2.1, r25.2.1.2.2.2, true) ((x37.1.1, x37.1.2), x37.2) hk4))
          ·replace hk4 := inv_negB hb24 hk4
           refine T.leave .list (wantsNot rfl rfl rfl (not_f hb24)) rfl ?_
           refine T.leave .list (wantsNot rfl rfl rfl (not_f hb24)) rfl ?_
           refine T.leave .list (wantsNot rfl rfl rfl (not_f hb24)) rfl ?_
           refine T.pickT .list rfl (wants0 rfl) rfl rfl (not_f hb24) rfl ?_
           refine T.move .list rfl (wants0 rfl) rfl rfl ?_
           refine T.leave .list (wantsNot rfl rfl rfl rfl) rfl ?_
           refine T.leave .list (wantsNot rfl rfl rfl rfl) rfl ?_
           refine T.leave .list (wantsNot rfl rfl rfl rfl) rfl ?_
           refine T.leave .list (wantsNot rfl rfl rfl rfl) rfl ?_
           refine T.pickT .list rfl (wants0 rfl) rfl rfl rfl rfl ?_
           refine T.move .list rfl (wants0 rfl) rfl rfl ?_
           refine T.leave .list (wantsNot rfl rfl rfl rfl) rfl ?_
           refine T.leave .list (wantsNot rfl rfl rfl rfl) rfl ?_
           refine T.leave .list (wantsNot rfl rfl rfl rfl) rfl ?_
           refine T.pickT .list rfl (wants0 rfl) rfl rfl rfl rfl ?_
           refine T.nil ?_
           refine T.then_normal ?_
           exact T.le (EnvLe.cons rfl (EnvLe.cons rfl (EnvLe.cons rfl EnvLe.nil))) (T.pick [2, 3, 4, 5, 0, 1] 9 rfl rfl (Nat.le_add_left _ _) rfl (J5 (r25.2.2.2.1.1, r25.2.2.2.2.1, r25.2.2.2.2.2, r25.2.2.2.1.2.1, r25.2.2.2.1.2.2.1, r25.2.2.2.1.2.2.2.1, r25.2.2.2.1.2.2.2.2.1, r25.2.2.2.1.2.2.2.2.2.1, r25.2.2.2.1.2.2.2.2.2.2, r25.2.1.1, r25.2.2.1, r25.2.1.2.1, r25.2.1.2.2.1, r25.2.1.2.2.2, true) ((x37.1.1, x37.1.2), x37.2) hk4))
         ·replace hk4 := inv_negB hb23 hk4
          refine T.leave .list (wantsNot rfl rfl rfl (not_f hb23)) rfl ?_
          refine T.leave .list (wantsNot rfl rfl rfl (not_f hb23)) rfl ?_
          refine T.leave .list (wantsNot rfl rfl rfl (not_f hb23)) rfl ?_
          refine T.pickT .list rfl (wants0 rfl) rfl rfl (not_f hb23) rfl ?_
          refine T.move .list rfl (wants0 rfl) rfl rfl ?_
          refine T.leave .list (wantsNot rfl rfl rfl rfl) rfl ?_
          refine T.leave .list (wantsNot rfl rfl rfl rfl) rfl ?_
          refine T.leave .list (wantsNot rfl rfl rfl rfl) rfl ?_
          refine T.pickT .list rfl (wants0 rfl) rfl rfl rfl rfl ?_
          refine T.move .list rfl (wants0 rfl) rfl rfl ?_
          refine T.leave .list (wantsNot rfl rfl rfl rfl) rfl ?_
          refine T.leave .list (wantsNot rfl rfl rfl rfl) rfl ?_
          refine T.leave .list (wantsNot rfl rfl rfl rfl) rfl ?_
          refine T.leave .list (wantsNot rfl rfl rfl rfl) rfl ?_
          refine T.pickT .list rfl (wants0 rfl) rfl rfl rfl rfl ?_
          refine T.move .list rfl (wants0 rfl) rfl rfl ?_
          refine T.leave .list (wantsNot rfl rfl rfl rfl) rfl ?_
          refine T.leave .list (wantsNot rfl rfl rfl rfl) rfl ?_
          refine T.leave .list (wantsNot rfl rfl rfl rfl) rfl ?_
          refine T.pickT .list rfl (wants0 rfl) rfl rfl rfl rfl ?_
          refine T.nil ?_
          refine T.then_normal ?_
          exact T.le (EnvLe.cons rfl (EnvLe.cons rfl (EnvLe.cons rfl EnvLe.nil))) (T.pick [3, 4, 5, 6, 1, 2] 9 rfl rfl (Nat.le_add_left _ _) rfl (J5 (r4.2.2.2.1.1, r4.2.2.2.2.1, r4.2.2.2.2.2, r4.2.2.2.1.2.1, r4.2.2.2.1.2.2.1, r4.2.2.2.1.2.2.2.1, r4.2.2.2.1.2.2.2.2.1, r4.2.2.2.1.2.2.2.2.2.1, r4.2.2.2.1.2.2.2.2.2.2, r2p0.1.1, r4.2.2.1, r2p0.1.2.1, r2p0.1.2.2.1, r2p0.1.2.2.2, true) ((x10.1.1, x10.1.2), x10.2) hk4))
        ·replace hk4 := inv_negB hb22 hk4
         refine T.leave .list (wantsNot rfl rfl rfl (not_f hb22)) rfl ?_
         refine T.leave .list (wantsNot rfl rfl rfl (not_f hb22)) rfl ?_
         refine T.pickT .list rfl (wants0 rfl) rfl rfl (not_f hb22) rfl ?_
         refine T.move .list rfl (wants0 rfl) rfl rfl ?_
         refine T.leave .list (wantsNot rfl rfl rfl rfl) rfl ?_
         refine T.leave .list (wantsNot rfl rfl rfl rfl) rfl ?_
         refine T.leave .list (wantsNot rfl rfl rfl rfl) rfl ?_
         refine T.pickT .list rfl (wants0 rfl) rfl rfl rfl rfl ?_
         refine T.move .list rfl (wants0 rfl) rfl rfl ?_
         refine T.leave .list (wantsNot rfl rfl rfl rfl) rfl ?_
         refine T.leave .list (wantsNot rfl rfl rfl rfl) rfl ?_
         refine T.leave .list (wantsNot rfl rfl rfl rfl) rfl ?_
         refine T.pickT .list rfl (wants0 rfl) rfl rfl rfl rfl ?_
         refine T.move .list rfl (wants0 rfl) rfl rfl ?_
         refine T.leave .list (wantsNot rfl rfl rfl rfl) rfl ?_
         refine T.leave .list (wantsNot rfl rfl rfl rfl) rfl ?_
         refine T.leave .list (wantsNot rfl rfl rfl rfl) rfl ?_
         refine T.leave .list (wantsNot rfl rfl rfl rfl) rfl ?_
         refine T.pickT .list rfl (wants0 rfl) rfl rfl rfl rfl ?_
         refine T.move .list rfl (wants0 rfl) rfl rfl ?_
         refine T.leave .list (wantsNot rfl rfl rfl rfl) rfl ?_
         refine T.leave .list (wantsNot rfl rfl rfl rfl) rfl ?_
         refine T.leave .list (wantsNot rfl rfl rfl rfl) rfl ?_
         refine T.pickT .list rfl (wants0 rfl) rfl rfl rfl rfl ?_
         refine T.nil ?_
         refine T.then_normal ?_
         exact T.le (EnvLe.cons rfl (EnvLe.cons rfl (EnvLe.cons rfl EnvLe.nil))) (T.pick [3, 4, 5, 6, 1, 2] 9 rfl rfl (Nat.le_add_left _ _) rfl (J5 (r4.2.2.2.1.1, r4.2.2.2.2.1, r4.2.2.2.2.2, r4.2.2.2.1.2.1, r4.2.2.2.1.2.2.1, r4.2.2.2.1.2.2.2.1, r4.2.2.2.1.2.2.2.2.1, r4.2.2.2.1.2.2.2.2.2.1, r4.2.2.2.1.2.2.2.2.2.2, r2p0.1.1, r4.2.2.1, r2p0.1.2.1, r2p0.1.2.2.1, r2p0.1.2.2.2, true) ((x10.1.1, x10.1.2), x10.2) hk4))
      ·refine T.seq ?_
       refine T.region ?_
       refine T.move .list rfl (wants0 rfl) rfl rfl ?_
       refine T.lenSlice .list rfl (wants0 rfl) rfl rfl ?_
       refine T.bin .list rfl (wants0 rfl) rfl rfl rfl rfl ?_
       refine T.nil ?_
       refine T.then_normal ?_
       refine T.cond rfl (fun hb27 => ?_) (fun hb27 => ?_)
       ·replace hk3 := inv_posB hb27 hk3
        refine T.region ?_
        refine T.move .list rfl (wants0 rfl) rfl rfl ?_
        obtain ⟨hc1, hk3⟩ := inv_chk hk3
        refine T.idxRo .list 1 rfl rfl (wants0 rfl) rfl rfl rfl hc1.1 hc1.2 (Nat.le_refl _) ?_
        refine T.fieldRo .list 1 rfl hc1.1 hc1.2 rfl (wants0 rfl) rfl rfl ?_
        refine T.ldFRo 1 .list (Fd.snd (Fd.snd (Fd.snd Fd.self))) (Sh.pair Sh.sc (Sh.pair Sh.sc (Sh.pair Sh.sc Sh.sc))) rfl (.inl rfl) rfl rfl hc1.1 hc1.2 rfl (wants0 rfl) rfl rfl rfl (v := fun x41 => .agg #[.int .i64 ((((((l1).getD (0 : Int).toNat default)).2.2.2).1)), .int .u64 ((((((l1).getD (0 : Int).toNat default)).2.2.2).2.1)), .int .i64 ((((((l1).getD (0 : Int).toNat default)).2.2.2).2.2.1)), .int .i64 ((((((l1).getD (0 : Int).toNat default)).2.2.2).2.2.2))]) (hs' := fun x41 => Cl b1 57 [.int .i64 0, .int .u64 0, .int .i64 (-1), .int .i64 0] :: Ro (Elt.pair E64 (Elt.pair E64 (Elt.pair (Elt.slice E8) (Elt.pair E64 (Elt.pair EU64 (Elt.pair E64 E64)))))) A1 c1 l1 :: Cl x2.1 68 [.int .i64 s3.1, .map (some x2.2.1), .slice x7.1.1 s3.2.2.1.length x7.1.2, .bool s3.2.2.2.1, .int .i64 s3.2.2.2.2.1, .int .i64 s3.2.2.2.2.2.1, .int .u64 s3.2.2.2.2.2.2.1, .int .i64 s3.2.2.2.2.2.2.2.1, .int .i64 s3.2.2.2.2.2.2.2.2.1] :: Mp (Elt.slice E8) x2.2.1 s3.2.1 :: Hb 82 x7.1.1 x7.1.2 x7.2 s3.2.2.1 :: Bb 5 x7.2 s3.2.2.1 :: Cl x5.1 45 [.int .i64 r2p0.1.1, .map (some x5.2), .pointer (some ⟨x2.1, 0, none⟩), .int .i64 r2p0.1.2.1, .int .u64 r2p0.1.2.2.1, .int .i64 r2p0.1.2.2.2] :: Mp E64 x5.2 s3.2.2.2.2.2.2.2.2.2 :: hs) (fun _ => rfl) (fun _ => rfl) (fun x41 => ?_)
        refine T.store .list 0 rfl rfl (wants0 rfl) rfl rfl rfl rfl (Nat.le_of_ble_eq_true rfl) rfl (cs' := [.int .i64 ((((((l1).getD (0 : Int).toNat default)).2.2.2).1)), .int .u64 ((((((l1).getD (0 : Int).toNat default)).2.2.2).2.1)), .int .i64 ((((((l1).getD (0 : Int).toNat default)).2.2.2).2.2.1)), .int .i64 ((((((l1).getD (0 : Int).toNat default)).2.2.2).2.2.2))]) rfl rfl ?_
        refine T.nil ?_
        refine T.then_normal ?_
        exact T.le (EnvLe.cons rfl (EnvLe.cons rfl (EnvLe.cons rfl EnvLe.nil))) (T.pick [2, 3, 4, 5, 6, 7, 0] 8 rfl rfl (Nat.le_add_left _ _) rfl (J4 ((((((l1).getD (0 : Int).toNat default)).2.2.2).1), (((((l1).getD (0 : Int).toNat default)).2.2.2).2.1), (((((l1).getD (0 : Int).toNat default)).2.2.2).2.2.1), (((((l1).getD (0 : Int).toNat default)).2.2.2).2.2.2)) () hk3))
       ·replace hk3 := inv_negB hb27 hk3
        refine T.skip ?_
        refine T.then_normal ?_
        exact T.le (EnvLe.cons rfl (EnvLe.cons rfl (EnvLe.cons rfl EnvLe.nil))) (T.pick [2, 3, 4, 5, 6, 7, 0] 8 rfl rfl (Nat.le_add_left _ _) rfl (J4 (0, 0, -1, 0) () hk3))
     ·refine T.seq ?_
      refine T.region ?_
      refine T.assign .list rfl (wants0 rfl) rfl rfl ?_
      refine T.nil ?_
      refine T.then_normal ?_
      refine T.block ?_
      obtain ⟨e1, hl1, hk2⟩ := inv_bind hk2
      refine T.le (EnvLe.cons rfl (EnvLe.cons rfl (EnvLe.cons rfl (EnvLe.cons rfl (EnvLe.cons rfl EnvLe.nil))))) (T.pick [0, 1, 2, 3, 4, 5, 6, 7] 8 rfl rfl (Nat.le_add_left _ _) rfl (T.loop (s0 := (r1p0.1.1, r1p0.2.1, r1p0.2.2, r1p0.1.2.1, r1p0.1.2.2.1, r1p0.1.2.2.2.1, r1p0.1.2.2.2.2.1, r1p0.1.2.2.2.2.2.1, r1p0.1.2.2.2.2.2.2, r2p0.2, 0)) (env := fun s8 x42 => [(0, .slice A0 l0.length c0), (1, .slice A1 l1.length c1), (5, .pointer (some ⟨x2.1, 0, none⟩)), (7, .pointer (some ⟨x5.1, 0, none⟩)), (9, .int .i64 s8.2.2.2.2.2.2.2.2.2.2)]) (hs := fun (s8 : Int × (List (Int × (List UInt8))) × (List (Int × List UInt8)) × Bool × Int × Int × Int × Int × Int × (List (Int × Int)) × Int) (x42 : (Option Addr × Nat) × (Ads)) => Ro (Elt.slice E8) A0 c0 l0 :: Ro (Elt.pair E64 (Elt.pair E64 (Elt.pair (Elt.slice E8) (Elt.pair E64 (Elt.pair EU64 (Elt.pair E64 E64)))))) A1 c1 l1 :: Cl x2.1 68 [.int .i64 s8.1, .map (some x2.2.1), .slice x42.1.1 s8.2.2.1.length x42.1.2, .bool s8.2.2.2.1, .int .i64 s8.2.2.2.2.1, .int .i64 s8.2.2.2.2.2.1, .int .u64 s8.2.2.2.2.2.2.1, .int .i64 s8.2.2.2.2.2.2.2.1, .int .i64 s8.2.2.2.2.2.2.2.2.1] :: Mp (Elt.slice E8) x2.2.1 s8.2.1 :: Hb 82 x42.1.1 x42.1.2 x42.2 s8.2.2.1 :: Bb 5 x42.2 s8.2.2.1 :: Cl x5.1 45 [.int .i64 r2p0.1.1, .map (some x5.2), .pointer (some ⟨x2.1, 0, none⟩), .int .i64 r2p0.1.2.1, .int .u64 r2p0.1.2.2.1, .int .i64 r2p0.1.2.2.2] :: Mp E64 x5.2 s8.2.2.2.2.2.2.2.2.2.1 :: hs) hl1 ((x2.2.2.1.1, x2.2.2.1.2), x2.2.2.2) (fun K1 s8 x42 o1 he1 hm1 hx1 => ?_)))
      unfold law4_PageLost.st1 at he1
      refine T.seq ?_
      refine T.seqJ (fun (s9 : Bool) (x43 : Unit) => [(0, .slice A0 l0.length c0), (1, .slice A1 l1.length c1), (5, .pointer (some ⟨x2.1, 0, none⟩)), (7, .pointer (some ⟨x5.1, 0, none⟩)), (9, .int .i64 s8.2.2.2.2.2.2.2.2.2.2), (42, .bool s9)]) (fun s9 x43 => Ro (Elt.slice E8) A0 c0 l0 :: Ro (Elt.pair E64 (Elt.pair E64 (Elt.pair (Elt.slice E8) (Elt.pair E64 (Elt.pair EU64 (Elt.pair E64 E64)))))) A1 c1 l1 :: Cl x2.1 68 [.int .i64 s8.1, .map (some x2.2.1), .slice x42.1.1 s8.2.2.1.length x42.1.2, .bool s8.2.2.2.1, .int .i64 s8.2.2.2.2.1, .int .i64 s8.2.2.2.2.2.1, .int .u64 s8.2.2.2.2.2.2.1, .int .i64 s8.2.2.2.2.2.2.2.1, .int .i64 s8.2.2.2.2.2.2.2.2.1] :: Mp (Elt.slice E8) x2.2.1 s8.2.1 :: Hb 82 x42.1.1 x42.1.2 x42.2 s8.2.2.1 :: Bb 5 x42.2 s8.2.2.1 :: Cl x5.1 45 [.int .i64 r2p0.1.1, .map (some x5.2), .pointer (some ⟨x2.1, 0, none⟩), .int .i64 r2p0.1.2.1, .int .u64 r2p0.1.2.2.1, .int .i64 r2p0.1.2.2.2] :: Mp E64 x5.2 s8.2.2.2.2.2.2.2.2.2.1 :: hs) (fun s9 => law4_PageLost.k8 s8 l0 r2p0 s9 = some o1) (fun s9 x43 hk8 => ?_) (fun J8 => ?_)
      ·unfold law4_PageLost.k8 at hk8
       refine T.cond rfl (fun hb28 => ?_) (fun hb28 => ?_)
       ·replace hk8 := inv_posB hb28 hk8
        refine T.skip ?_
        refine T.then_normal ?_
        refine T.seq ?_
        refine T.block ?_
        refine T.plan [(0, 0), (1, 0), (2, 0), (3, 0), (5, 0), (6, 0), (7, 0), (4, 1), (8, 1), (9, 0), (10, 0), (11, 0), (12, 2)] mixed (by kernel_rfl) (by kernel_rfl) rfl (fun d _ _ _ _ h => by cases d <;> exact h) ?_
        refine T.move (.plan rfl) rfl (wants0 rfl) rfl rfl ?_
        refine T.move (.plan rfl) rfl (wants0 rfl) rfl rfl ?_
        refine T.move (.plan rfl) rfl (wants0 rfl) rfl rfl ?_
        obtain ⟨hc2, hk8⟩ := inv_chk hk8
        refine T.idxRo (.plan rfl) 0 rfl rfl (wants0 rfl) rfl rfl rfl hc2.1 hc2.2 (Nat.le_refl _) ?_
        refine T.move (.plan rfl) rfl (wants0 rfl) rfl rfl ?_
        refine T.move (.plan rfl) rfl (wants0 rfl) rfl rfl ?_
        obtain ⟨hc3, hk8⟩ := inv_chk hk8
        refine T.idxRo (.plan rfl) 0 rfl rfl (wants0 rfl) rfl rfl rfl hc3.1 hc3.2 (Nat.le_refl _) ?_
        refine T.ldSlice (.plan rfl) 0 rfl rfl (wants0 rfl) rfl rfl hc2.1 hc2.2 (fun x44 => ?_)
        refine T.ldSlice (.plan rfl) 1 rfl rfl (wants0 rfl) rfl rfl hc3.1 hc3.2 (fun x45 => ?_)
        refine T.lenSlice (.plan rfl) rfl (wants0 rfl) rfl rfl ?_
        refine T.min2 (.plan rfl) rfl (wants0 rfl) rfl rfl rfl ?_
        obtain ⟨hc4, hk8⟩ := inv_chk hk8
        refine T.cut0 (.plan rfl) 1 rfl rfl rfl (wants0 rfl) rfl rfl (.inl rfl) (.inr ⟨_, _, rfl, rfl⟩) hc4.1 hc4.2 ?_
        refine T.pick [9, 10, 5, 6, 7, 8, 0, 1, 2, 3, 4] 11 rfl rfl (Nat.le_add_left _ _) (hs' := Cl x5.1 45 [.int .i64 r2p0.1.1, .map (some x5.2), .pointer (some ⟨x2.1, 0, none⟩), .int .i64 r2p0.1.2.1, .int .u64 r2p0.1.2.2.1, .int .i64 r2p0.1.2.2.2] :: Mp E64 x5.2 s8.2.2.2.2.2.2.2.2.2.1 :: Cl x2.1 68 [.int .i64 s8.1, .map (some x2.2.1), .slice x42.1.1 s8.2.2.1.length x42.1.2, .bool s8.2.2.2.1, .int .i64 s8.2.2.2.2.1, .int .i64 s8.2.2.2.2.2.1, .int .u64 s8.2.2.2.2.2.2.1, .int .i64 s8.2.2.2.2.2.2.2.1, .int .i64 s8.2.2.2.2.2.2.2.2.1] :: Mp (Elt.slice E8) x2.2.1 s8.2.1 :: Hb 82 x42.1.1 x42.1.2 x42.2 s8.2.2.1 :: Bb 5 x42.2 s8.2.2.1 :: Ro E8 x44.1 x44.2 (subl (((l0).getD (s8.2.2.2.2.2.2.2.2.2.2 : Int).toNat default)) 0 (min (((((l0).getD (s8.2.2.2.2.2.2.2.2.2.2 : Int).toNat default)).length : Int)) 100)) :: Ro E8 x45.1 x45.2 (((l0).getD (s8.2.2.2.2.2.2.2.2.2.2 : Int).toNat default)) :: Ro E8 x44.1 x44.2 (((l0).getD (s8.2.2.2.2.2.2.2.2.2.2 : Int).toNat default)) :: Ro (Elt.slice E8) A0 c0 l0 :: Ro (Elt.pair E64 (Elt.pair E64 (Elt.pair (Elt.slice E8) (Elt.pair E64 (Elt.pair EU64 (Elt.pair E64 E64)))))) A1 c1 l1 :: hs) rfl ?_
        obtain ⟨r29, hg29, hk8⟩ := inv_bind hk8
        refine T.call (.plan rfl) (wants0 rfl) rfl (run_callF (vs := [_, _]) rfl Try.func9 rfl (by decide) rfl) (fun w hS => page_Store_Put.c hS (i1 := 6) (o0 := (r2p0.1.1, r2p0.1.2.1, r2p0.1.2.2.1, r2p0.1.2.2.2)) (q0b := s8.2.2.2.2.2.2.2.2.2.1) (o0c := (s8.1, s8.2.2.2.1, s8.2.2.2.2.1, s8.2.2.2.2.2.1, s8.2.2.2.2.2.2.1, s8.2.2.2.2.2.2.2.1, s8.2.2.2.2.2.2.2.2.1)) (q0cb := s8.2.1) (q0cc := s8.2.2.1) rfl hg29) (fun x46 => ?_)
        refine T.planEnd ?_
        refine T.in_normal ?_
        refine T.then_normal ?_
        refine T.region ?_
        refine T.move .list rfl (wants0 rfl) rfl rfl ?_
        refine T.bin .list rfl (wants0 rfl) rfl rfl rfl rfl ?_
        refine T.assign .list rfl (wants0 rfl) rfl rfl ?_
        refine T.nil ?_
        refine T.then_normal ?_
        obtain rfl := inv_some hk8
        exact T.le (EnvLe.cons rfl (EnvLe.cons rfl (EnvLe.cons rfl (EnvLe.cons rfl (EnvLe.cons rfl EnvLe.nil))))) (T.pick [9, 10, 2, 3, 4, 5, 0, 1] 11 rfl rfl (Nat.le_add_left _ _) rfl (hm1 (r29.2.2.2.1.1, r29.2.2.2.2.1, r29.2.2.2.2.2, r29.2.2.2.1.2.1, r29.2.2.2.1.2.2.1, r29.2.2.2.1.2.2.2.1, r29.2.2.2.1.2.2.2.2.1, r29.2.2.2.1.2.2.2.2.2.1, r29.2.2.2.1.2.2.2.2.2.2, r29.2.2.1, IntKind.i64.wrap (s8.2.2.2.2.2.2.2.2.2.2 + 1)) rfl ((x46.1.1, x46.1.2), x46.2)))
       ·replace hk8 := inv_negB hb28 hk8
        refine T.exit ?_
        refine T.then_exit ?_
        refine T.then_exit ?_
        obtain rfl := inv_some hk8
        obtain rfl := hx1 _ rfl
        refine T.in_hit ?_
        refine T.then_normal ?_
        exact T.le (EnvLe.cons rfl (EnvLe.cons rfl (EnvLe.cons rfl EnvLe.nil))) (T.pick [1, 2, 3, 4, 5, 6, 7] 8 rfl rfl (Nat.le_add_left _ _) rfl (J3 (s8.1, s8.2.1, s8.2.2.1, s8.2.2.2.1, s8.2.2.2.2.1, s8.2.2.2.2.2.1, s8.2.2.2.2.2.2.1, s8.2.2.2.2.2.2.2.1, s8.2.2.2.2.2.2.2.2.1, s8.2.2.2.2.2.2.2.2.2.1) ((x42.1.1, x42.1.2), x42.2) hk2))
      ·refine T.region ?_
       refine T.move .list rfl (wants0 rfl) rfl rfl ?_
       refine T.move .list rfl (wants0 rfl) rfl rfl ?_
       refine T.lenSlice .list rfl (wants0 rfl) rfl rfl ?_
       refine T.bin .list rfl (wants0 rfl) rfl rfl rfl rfl ?_
       refine T.move .list rfl (wants0 rfl) rfl rfl ?_
       refine T.bool (b := (decide (s8.2.2.2.2.2.2.2.2.2.2 < ((l0.length : Int))))) (fun hb29 => ?_) (fun hb29 => ?_)
       ·replace he1 := inv_posB hb29 he1
        refine T.move .list rfl (wants1 rfl rfl rfl hb29) rfl rfl ?_
        refine T.bin .list rfl (wants1 rfl rfl rfl hb29) rfl rfl rfl rfl ?_
        refine T.pickT .list rfl (wants0 rfl) rfl rfl hb29 rfl ?_
        refine T.nil ?_
        refine T.then_normal ?_
        exact T.le (EnvLe.cons rfl (EnvLe.cons rfl (EnvLe.cons rfl (EnvLe.cons rfl (EnvLe.cons rfl (EnvLe.cons rfl EnvLe.nil)))))) (T.pick [0, 1, 2, 3, 4, 5, 6, 7] 8 rfl rfl (Nat.le_add_left _ _) rfl (J8 (decide (s8.2.2.2.2.2.2.2.2.2.2 < 10)) () he1))
       ·replace he1 := inv_negB hb29 he1
        refine T.leave .list (wantsNot rfl rfl rfl hb29) rfl ?_
        refine T.leave .list (wantsNot rfl rfl rfl hb29) rfl ?_
        refine T.pickF .list rfl (wants0 rfl) rfl rfl hb29 rfl ?_
        refine T.nil ?_
        refine T.then_normal ?_
        exact T.le (EnvLe.cons rfl (EnvLe.cons rfl (EnvLe.cons rfl (EnvLe.cons rfl (EnvLe.cons rfl (EnvLe.cons rfl EnvLe.nil)))))) (T.pick [0, 1, 2, 3, 4, 5, 6, 7] 8 rfl rfl (Nat.le_add_left _ _) rfl (J8 false () he1))
   ·refine T.region ?_
    refine T.move .list rfl (wants0 rfl) rfl rfl ?_
    refine T.bin .list rfl (wants0 rfl) rfl rfl rfl rfl ?_
    refine T.move .list rfl (wants0 rfl) rfl rfl ?_
    refine T.bool (b := (decide (r2p1 = 0))) (fun hb30 => ?_) (fun hb30 => ?_)
    ·replace hr := inv_posB hb30 hr
     refine T.move .list rfl (wants1 rfl rfl rfl (not_t hb30)) rfl rfl ?_
     refine T.ptrEq (pt := 45) .list rfl (wants1 rfl rfl rfl (not_t hb30)) rfl rfl rfl (by kernel_rfl) (.inr rfl) rfl ?_
     refine T.pickF .list rfl (wants0 rfl) rfl rfl (not_t hb30) rfl ?_
     refine T.nil ?_
     refine T.then_normal ?_
     exact T.le (EnvLe.cons rfl (EnvLe.cons rfl (EnvLe.cons rfl (EnvLe.cons rfl (EnvLe.cons rfl EnvLe.nil))))) (T.pick [7, 6, 0, 1, 2, 3, 4, 5] 8 rfl rfl (Nat.le_add_left _ _) rfl (J2 false () hr))
    ·replace hr := inv_negB hb30 hr
     refine T.leave .list (wantsNot rfl rfl rfl (not_f hb30)) rfl ?_
     refine T.leave .list (wantsNot rfl rfl rfl (not_f hb30)) rfl ?_
     refine T.pickT .list rfl (wants0 rfl) rfl rfl (not_f hb30) rfl ?_
     refine T.nil ?_
     refine T.then_normal ?_
     exact T.le (EnvLe.cons rfl (EnvLe.cons rfl (EnvLe.cons rfl (EnvLe.cons rfl (EnvLe.cons rfl EnvLe.nil))))) (T.pick [7, 6, 0, 1, 2, 3, 4, 5] 8 rfl rfl (Nat.le_add_left _ _) rfl (J2 true () hr))
end Go.Proofs.Ytccifnjlfhdpiaa
