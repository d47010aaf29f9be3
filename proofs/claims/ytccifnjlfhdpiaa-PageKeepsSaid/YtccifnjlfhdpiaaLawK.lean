/- LawK: what the functions compute, and that the program computes it; printed by a program of ours. -/
import Derived.Test.YtccifnjlfhdpiaaLawT
set_option linter.unusedVariables false
set_option linter.unusedSimpArgs false
namespace Go.Proofs.Ytccifnjlfhdpiaa
open Go.RowKit
noncomputable def law4_PageKeeps.k1 (s1 : Unit) : Option Bool :=
  some false
noncomputable def law4_PageKeeps.k3 (s3 : Unit) : Option Bool :=
  (law4_told.impl ).bind fun r3 => some r3
noncomputable def law4_PageKeeps.k5 (s4 : Int × (List (Int × (List UInt8))) × (List (Int × List UInt8)) × Bool × Int × Int × Int × Int × Int × Int × (List (Int × Int)) × Int × Int × Int × Int × Int × List UInt8 × Int) (s6 : Int × (List (Int × (List UInt8))) × (List (Int × List UInt8)) × Bool × Int × Int × Int × Int × Int × Int × (List (Int × Int)) × Int × Int × Int × Int × Int × List UInt8) : Option ((Int × (List (Int × (List UInt8))) × (List (Int × List UInt8)) × Bool × Int × Int × Int × Int × Int × Int × (List (Int × Int)) × Int × Int × Int × Int × Int × List UInt8 × Int) ⊕ (Bool ⊕ Unit)) :=
  some (.inl (s6.1, s6.2.1, s6.2.2.1, s6.2.2.2.1, s6.2.2.2.2.1, s6.2.2.2.2.2.1, s6.2.2.2.2.2.2.1, s6.2.2.2.2.2.2.2.1, s6.2.2.2.2.2.2.2.2.1, s6.2.2.2.2.2.2.2.2.2.1, s6.2.2.2.2.2.2.2.2.2.2.1, s6.2.2.2.2.2.2.2.2.2.2.2.1, s6.2.2.2.2.2.2.2.2.2.2.2.2.1, s6.2.2.2.2.2.2.2.2.2.2.2.2.2.1, s6.2.2.2.2.2.2.2.2.2.2.2.2.2.2.1, s6.2.2.2.2.2.2.2.2.2.2.2.2.2.2.2.1, s6.2.2.2.2.2.2.2.2.2.2.2.2.2.2.2.2, IntKind.i64.wrap (s4.2.2.2.2.2.2.2.2.2.2.2.2.2.2.2.2.2 + 1)))
noncomputable def law4_PageKeeps.k9 (s10 : Unit) : Option ((Int × (List (Int × (List UInt8))) × (List (Int × List UInt8)) × Bool × Int × Int × Int × Int × Int × Int × (List (Int × Int)) × Int × Int × Int × Int × Int × List UInt8 × Int) ⊕ (Bool ⊕ Unit)) :=
  some (.inr (.inl false))
noncomputable def law4_PageKeeps.k12 (s4 : Int × (List (Int × (List UInt8))) × (List (Int × List UInt8)) × Bool × Int × Int × Int × Int × Int × Int × (List (Int × Int)) × Int × Int × Int × Int × Int × List UInt8 × Int) (r6 : (Int × Bool × Int × Int × Int × Int × Int)) (s9 : Int × (List (Int × (List UInt8))) × (List (Int × List UInt8)) × Bool × Int × Int × Int × Int × Int × Int × (List (Int × Int)) × Int × Int × Int × Int) (r7p0 : (Int × Int × Int × Int) × (List (Int × Int))) (s12 : Int × Int × List UInt8) (s13 : (List (Int × Int)) × Bool) : Option ((Int × (List (Int × (List UInt8))) × (List (Int × List UInt8)) × Bool × Int × Int × Int × Int × Int × Int × (List (Int × Int)) × Int × Int × Int × Int × Int × List UInt8 × Int) ⊕ (Bool ⊕ Unit)) :=
  (if s13.2 = true then some (.inr (.inl false)) else law4_PageKeeps.k5 s4 (r6.1, s9.2.1, s9.2.2.1, r6.2.1, r6.2.2.1, r6.2.2.2.1, r6.2.2.2.2.1, r6.2.2.2.2.2.1, r6.2.2.2.2.2.2, r7p0.1.1, s13.1, r7p0.1.2.1, r7p0.1.2.2.1, r7p0.1.2.2.2, s12.1, s12.2.1, s12.2.2))
noncomputable def law4_PageKeeps.k11 (r7p0 : (Int × Int × Int × Int) × (List (Int × Int))) (r6 : (Int × Bool × Int × Int × Int × Int × Int)) (s9 : Int × (List (Int × (List UInt8))) × (List (Int × List UInt8)) × Bool × Int × Int × Int × Int × Int × Int × (List (Int × Int)) × Int × Int × Int × Int) (s4 : Int × (List (Int × (List UInt8))) × (List (Int × List UInt8)) × Bool × Int × Int × Int × Int × Int × Int × (List (Int × Int)) × Int × Int × Int × Int × Int × List UInt8 × Int) (s12 : Int × Int × List UInt8) : Option ((Int × (List (Int × (List UInt8))) × (List (Int × List UInt8)) × Bool × Int × Int × Int × Int × Int × Int × (List (Int × Int)) × Int × Int × Int × Int × Int × List UInt8 × Int) ⊕ (Bool ⊕ Unit)) :=
  (if ((!(decide (s12.1 = 0)))) = true then (page_Store_Get.impl ((r7p0.1.1, r7p0.1.2.1, r7p0.1.2.2.1, r7p0.1.2.2.2)) r7p0.2 ((r6.1, r6.2.1, r6.2.2.1, r6.2.2.2.1, r6.2.2.2.2.1, r6.2.2.2.2.2.1, r6.2.2.2.2.2.2)) s9.2.1 s9.2.2.1 s12.1).bind fun r8 => (if ((decide (r8.2 = 0))) = true then (if ((decide (r8.1 = s12.2.2))) = true then (page_Store_Hold.impl ((r7p0.1.1, r7p0.1.2.1, r7p0.1.2.2.1, r7p0.1.2.2.2)) r7p0.2 ((r6.1, r6.2.1, r6.2.2.1, r6.2.2.2.1, r6.2.2.2.2.1, r6.2.2.2.2.2.1, r6.2.2.2.2.2.2)) s9.2.1 s9.2.2.1 (([s12.1] : List Int))).bind fun r9 => law4_PageKeeps.k12 s4 r6 s9 r7p0 s12 (r9.2, (!(decide (r9.1 = 0)))) else law4_PageKeeps.k12 s4 r6 s9 r7p0 s12 (r7p0.2, true)) else law4_PageKeeps.k12 s4 r6 s9 r7p0 s12 (r7p0.2, true)) else law4_PageKeeps.k5 s4 (r6.1, s9.2.1, s9.2.2.1, r6.2.1, r6.2.2.1, r6.2.2.2.1, r6.2.2.2.2.1, r6.2.2.2.2.2.1, r6.2.2.2.2.2.2, r7p0.1.1, r7p0.2, r7p0.1.2.1, r7p0.1.2.2.1, r7p0.1.2.2.2, s12.1, s12.2.1, s12.2.2))
noncomputable def law4_PageKeeps.k10 (r7p0 : (Int × Int × Int × Int) × (List (Int × Int))) (r6 : (Int × Bool × Int × Int × Int × Int × Int)) (s9 : Int × (List (Int × (List UInt8))) × (List (Int × List UInt8)) × Bool × Int × Int × Int × Int × Int × Int × (List (Int × Int)) × Int × Int × Int × Int) (s4 : Int × (List (Int × (List UInt8))) × (List (Int × List UInt8)) × Bool × Int × Int × Int × Int × Int × Int × (List (Int × Int)) × Int × Int × Int × Int × Int × List UInt8 × Int) (l0 : List (List UInt8)) (s11 : Bool) : Option ((Int × (List (Int × (List UInt8))) × (List (Int × List UInt8)) × Bool × Int × Int × Int × Int × Int × Int × (List (Int × Int)) × Int × Int × Int × Int × Int × List UInt8 × Int) ⊕ (Bool ⊕ Unit)) :=
  (if s11 = true then some (.inr (.inl false)) else (page_Store_Number.impl ((r7p0.1.1, r7p0.1.2.1, r7p0.1.2.2.1, r7p0.1.2.2.2)) r7p0.2 ((r6.1, r6.2.1, r6.2.2.1, r6.2.2.2.1, r6.2.2.2.2.1, r6.2.2.2.2.2.1, r6.2.2.2.2.2.2)) s9.2.1 s9.2.2.1).bind fun r10 => (if ((decide (r10 = s4.2.2.2.2.2.2.2.2.2.2.2.2.2.2.2.1))) = true then (page_Store_Root.impl ((r7p0.1.1, r7p0.1.2.1, r7p0.1.2.2.1, r7p0.1.2.2.2)) r7p0.2 ((r6.1, r6.2.1, r6.2.2.1, r6.2.2.2.1, r6.2.2.2.2.1, r6.2.2.2.2.2.1, r6.2.2.2.2.2.2)) s9.2.1 s9.2.2.1).bind fun r11 => (if ((!(decide (r11 = s4.2.2.2.2.2.2.2.2.2.2.2.2.2.2.1)))) = true then some (.inr (.inl false)) else law4_PageKeeps.k11 r7p0 r6 s9 s4 (s4.2.2.2.2.2.2.2.2.2.2.2.2.2.2.1, s4.2.2.2.2.2.2.2.2.2.2.2.2.2.2.2.1, s4.2.2.2.2.2.2.2.2.2.2.2.2.2.2.2.2.1)) else (if ((decide (r10 = (IntKind.i64.wrap (s4.2.2.2.2.2.2.2.2.2.2.2.2.2.2.2.1 + 1))))) = true then (page_Store_Root.impl ((r7p0.1.1, r7p0.1.2.1, r7p0.1.2.2.1, r7p0.1.2.2.2)) r7p0.2 ((r6.1, r6.2.1, r6.2.2.1, r6.2.2.2.1, r6.2.2.2.2.1, r6.2.2.2.2.2.1, r6.2.2.2.2.2.2)) s9.2.1 s9.2.2.1).bind fun r12 => law4_PageKeeps.k11 r7p0 r6 s9 s4 (r12, IntKind.i64.wrap (s4.2.2.2.2.2.2.2.2.2.2.2.2.2.2.2.1 + 1), subl (((l0).getD (s4.2.2.2.2.2.2.2.2.2.2.2.2.2.2.2.2.2 : Int).toNat default)) 0 (min (((((l0).getD (s4.2.2.2.2.2.2.2.2.2.2.2.2.2.2.2.2.2 : Int).toNat default)).length : Int)) 200)) else some (.inr (.inl false)))))
noncomputable def law4_PageKeeps.k8 (s4 : Int × (List (Int × (List UInt8))) × (List (Int × List UInt8)) × Bool × Int × Int × Int × Int × Int × Int × (List (Int × Int)) × Int × Int × Int × Int × Int × List UInt8 × Int) (r4 : Int × Int × (List (Int × Int)) × (Int × Bool × Int × Int × Int × Int × Int) × (List (Int × (List UInt8))) × (List (Int × List UInt8))) (l0 : List (List UInt8)) (s9 : Int × (List (Int × (List UInt8))) × (List (Int × List UInt8)) × Bool × Int × Int × Int × Int × Int × Int × (List (Int × Int)) × Int × Int × Int × Int) : Option ((Int × (List (Int × (List UInt8))) × (List (Int × List UInt8)) × Bool × Int × Int × Int × Int × Int × Int × (List (Int × Int)) × Int × Int × Int × Int × Int × List UInt8 × Int) ⊕ (Bool ⊕ Unit)) :=
  (if ((decide (s9.2.2.2.2.2.2.2.2.2.2.2.2.2.2 = 0))) = true then law4_PageKeeps.k5 s4 (s9.1, s9.2.1, s9.2.2.1, s9.2.2.2.1, s9.2.2.2.2.1, s9.2.2.2.2.2.1, s9.2.2.2.2.2.2.1, s9.2.2.2.2.2.2.2.1, s9.2.2.2.2.2.2.2.2.1, s9.2.2.2.2.2.2.2.2.2.1, s9.2.2.2.2.2.2.2.2.2.2.1, s9.2.2.2.2.2.2.2.2.2.2.2.1, s9.2.2.2.2.2.2.2.2.2.2.2.2.1, s9.2.2.2.2.2.2.2.2.2.2.2.2.2.1, r4.1, IntKind.i64.wrap (s4.2.2.2.2.2.2.2.2.2.2.2.2.2.2.2.1 + 1), subl (((l0).getD (s4.2.2.2.2.2.2.2.2.2.2.2.2.2.2.2.2.2 : Int).toNat default)) 0 (min (((((l0).getD (s4.2.2.2.2.2.2.2.2.2.2.2.2.2.2.2.2.2 : Int).toNat default)).length : Int)) 200)) else (disk_Disk_Down.impl ((s9.1, s9.2.2.2.1, s9.2.2.2.2.1, s9.2.2.2.2.2.1, s9.2.2.2.2.2.2.1, s9.2.2.2.2.2.2.2.1, s9.2.2.2.2.2.2.2.2.1)) s9.2.1 s9.2.2.1).bind fun r5 => (if ((!r5)) = true then some (.inr (.inl false)) else (disk_Disk_Restart.impl ((s9.1, s9.2.2.2.1, s9.2.2.2.2.1, s9.2.2.2.2.2.1, s9.2.2.2.2.2.2.1, s9.2.2.2.2.2.2.2.1, s9.2.2.2.2.2.2.2.2.1)) s9.2.1 s9.2.2.1).bind fun r6 => (page_Open.impl ((r6.1, r6.2.1, r6.2.2.1, r6.2.2.2.1, r6.2.2.2.2.1, r6.2.2.2.2.2.1, r6.2.2.2.2.2.2)) s9.2.1 s9.2.2.1).bind fun r7 => (match r7 with | (none, r7p1) => ((if ((decide (r7p1 = 0))) = true then law4_PageKeeps.k9 () else law4_PageKeeps.k9 ())) | (some r7p0, r7p1) => ((if ((decide (r7p1 = 0))) = true then law4_PageKeeps.k10 r7p0 r6 s9 s4 l0 false else law4_PageKeeps.k10 r7p0 r6 s9 s4 l0 true)))))
noncomputable def law4_PageKeeps.k7 (s4 : Int × (List (Int × (List UInt8))) × (List (Int × List UInt8)) × Bool × Int × Int × Int × Int × Int × Int × (List (Int × Int)) × Int × Int × Int × Int × Int × List UInt8 × Int) (r4 : Int × Int × (List (Int × Int)) × (Int × Bool × Int × Int × Int × Int × Int) × (List (Int × (List UInt8))) × (List (Int × List UInt8))) (l0 : List (List UInt8)) (s8 : (List (Int × Int)) × Int) : Option ((Int × (List (Int × (List UInt8))) × (List (Int × List UInt8)) × Bool × Int × Int × Int × Int × Int × Int × (List (Int × Int)) × Int × Int × Int × Int × Int × List UInt8 × Int) ⊕ (Bool ⊕ Unit)) :=
  (if ((decide (s8.2 = 0))) = true then (page_Store_Commit.impl ((s4.2.2.2.2.2.2.2.2.2.1, s4.2.2.2.2.2.2.2.2.2.2.2.1, s4.2.2.2.2.2.2.2.2.2.2.2.2.1, s4.2.2.2.2.2.2.2.2.2.2.2.2.2.1)) s8.1 ((r4.2.2.2.1.1, r4.2.2.2.1.2.1, r4.2.2.2.1.2.2.1, r4.2.2.2.1.2.2.2.1, r4.2.2.2.1.2.2.2.2.1, r4.2.2.2.1.2.2.2.2.2.1, r4.2.2.2.1.2.2.2.2.2.2)) r4.2.2.2.2.1 r4.2.2.2.2.2 r4.1).bind fun r13 => law4_PageKeeps.k8 s4 r4 l0 (r13.2.2.2.1.1, r13.2.2.2.2.1, r13.2.2.2.2.2, r13.2.2.2.1.2.1, r13.2.2.2.1.2.2.1, r13.2.2.2.1.2.2.2.1, r13.2.2.2.1.2.2.2.2.1, r13.2.2.2.1.2.2.2.2.2.1, r13.2.2.2.1.2.2.2.2.2.2, r13.2.1.1, r13.2.2.1, r13.2.1.2.1, r13.2.1.2.2.1, r13.2.1.2.2.2, r13.1) else law4_PageKeeps.k8 s4 r4 l0 (r4.2.2.2.1.1, r4.2.2.2.2.1, r4.2.2.2.2.2, r4.2.2.2.1.2.1, r4.2.2.2.1.2.2.1, r4.2.2.2.1.2.2.2.1, r4.2.2.2.1.2.2.2.2.1, r4.2.2.2.1.2.2.2.2.2.1, r4.2.2.2.1.2.2.2.2.2.2, s4.2.2.2.2.2.2.2.2.2.1, s8.1, s4.2.2.2.2.2.2.2.2.2.2.2.1, s4.2.2.2.2.2.2.2.2.2.2.2.2.1, s4.2.2.2.2.2.2.2.2.2.2.2.2.2.1, s8.2))
noncomputable def law4_PageKeeps.k13 (s4 : Int × (List (Int × (List UInt8))) × (List (Int × List UInt8)) × Bool × Int × Int × Int × Int × Int × Int × (List (Int × Int)) × Int × Int × Int × Int × Int × List UInt8 × Int) (r4 : Int × Int × (List (Int × Int)) × (Int × Bool × Int × Int × Int × Int × Int) × (List (Int × (List UInt8))) × (List (Int × List UInt8))) (l0 : List (List UInt8)) (s14 : Bool) : Option ((Int × (List (Int × (List UInt8))) × (List (Int × List UInt8)) × Bool × Int × Int × Int × Int × Int × Int × (List (Int × Int)) × Int × Int × Int × Int × Int × List UInt8 × Int) ⊕ (Bool ⊕ Unit)) :=
  (if s14 = true then (page_Store_Free.impl ((s4.2.2.2.2.2.2.2.2.2.1, s4.2.2.2.2.2.2.2.2.2.2.2.1, s4.2.2.2.2.2.2.2.2.2.2.2.2.1, s4.2.2.2.2.2.2.2.2.2.2.2.2.2.1)) r4.2.2.1 ((r4.2.2.2.1.1, r4.2.2.2.1.2.1, r4.2.2.2.1.2.2.1, r4.2.2.2.1.2.2.2.1, r4.2.2.2.1.2.2.2.2.1, r4.2.2.2.1.2.2.2.2.2.1, r4.2.2.2.1.2.2.2.2.2.2)) r4.2.2.2.2.1 r4.2.2.2.2.2 s4.2.2.2.2.2.2.2.2.2.2.2.2.2.2.1).bind fun r14 => law4_PageKeeps.k7 s4 r4 l0 (r14.2, r14.1) else law4_PageKeeps.k7 s4 r4 l0 (r4.2.2.1, r4.2.1))
noncomputable def law4_PageKeeps.k6 (s4 : Int × (List (Int × (List UInt8))) × (List (Int × List UInt8)) × Bool × Int × Int × Int × Int × Int × Int × (List (Int × Int)) × Int × Int × Int × Int × Int × List UInt8 × Int) (l0 : List (List UInt8)) (s7 : Int × Bool × Int × Int × Int × Int × Int) : Option ((Int × (List (Int × (List UInt8))) × (List (Int × List UInt8)) × Bool × Int × Int × Int × Int × Int × Int × (List (Int × Int)) × Int × Int × Int × Int × Int × List UInt8 × Int) ⊕ (Bool ⊕ Unit)) :=
  chk (0 ≤ s4.2.2.2.2.2.2.2.2.2.2.2.2.2.2.2.2.2 ∧ s4.2.2.2.2.2.2.2.2.2.2.2.2.2.2.2.2.2 < (l0.length : Int)) (chk (0 ≤ s4.2.2.2.2.2.2.2.2.2.2.2.2.2.2.2.2.2 ∧ s4.2.2.2.2.2.2.2.2.2.2.2.2.2.2.2.2.2 < (l0.length : Int)) (chk (0 ≤ (min (((((l0).getD (s4.2.2.2.2.2.2.2.2.2.2.2.2.2.2.2.2.2 : Int).toNat default)).length : Int)) 200) ∧ (min (((((l0).getD (s4.2.2.2.2.2.2.2.2.2.2.2.2.2.2.2.2.2 : Int).toNat default)).length : Int)) 200) ≤ ((((l0).getD (s4.2.2.2.2.2.2.2.2.2.2.2.2.2.2.2.2.2 : Int).toNat default)).length : Int)) ((page_Store_Put.impl ((s4.2.2.2.2.2.2.2.2.2.1, s4.2.2.2.2.2.2.2.2.2.2.2.1, s4.2.2.2.2.2.2.2.2.2.2.2.2.1, s4.2.2.2.2.2.2.2.2.2.2.2.2.2.1)) s4.2.2.2.2.2.2.2.2.2.2.1 ((s7.1, s7.2.1, s7.2.2.1, s7.2.2.2.1, s7.2.2.2.2.1, s7.2.2.2.2.2.1, s7.2.2.2.2.2.2)) s4.2.1 s4.2.2.1 (subl (((l0).getD (s4.2.2.2.2.2.2.2.2.2.2.2.2.2.2.2.2.2 : Int).toNat default)) 0 (min (((((l0).getD (s4.2.2.2.2.2.2.2.2.2.2.2.2.2.2.2.2.2 : Int).toNat default)).length : Int)) 200))).bind fun r4 => (if ((decide (r4.2.1 = 0))) = true then law4_PageKeeps.k13 s4 r4 l0 (!(decide (s4.2.2.2.2.2.2.2.2.2.2.2.2.2.2.1 = 0))) else law4_PageKeeps.k13 s4 r4 l0 false))))
noncomputable def law4_PageKeeps.k4 (s4 : Int × (List (Int × (List UInt8))) × (List (Int × List UInt8)) × Bool × Int × Int × Int × Int × Int × Int × (List (Int × Int)) × Int × Int × Int × Int × Int × List UInt8 × Int) (l1 : List (Int × Int × Int × Int)) (l0 : List (List UInt8)) (s5 : Bool) : Option ((Int × (List (Int × (List UInt8))) × (List (Int × List UInt8)) × Bool × Int × Int × Int × Int × Int × Int × (List (Int × Int)) × Int × Int × Int × Int × Int × List UInt8 × Int) ⊕ (Bool ⊕ Unit)) :=
  (if s5 = true then (if ((decide (s4.2.2.2.2.2.2.2.2.2.2.2.2.2.2.2.2.2 < ((l1.length : Int))))) = true then chk (0 ≤ s4.2.2.2.2.2.2.2.2.2.2.2.2.2.2.2.2.2 ∧ s4.2.2.2.2.2.2.2.2.2.2.2.2.2.2.2.2.2 < (l1.length : Int)) ((disk_Disk_Arm.impl ((s4.1, s4.2.2.2.1, s4.2.2.2.2.1, s4.2.2.2.2.2.1, s4.2.2.2.2.2.2.1, s4.2.2.2.2.2.2.2.1, s4.2.2.2.2.2.2.2.2.1)) s4.2.1 s4.2.2.1 (((l1).getD (s4.2.2.2.2.2.2.2.2.2.2.2.2.2.2.2.2.2 : Int).toNat default))).bind fun r15 => law4_PageKeeps.k6 s4 l0 (r15.1, r15.2.1, r15.2.2.1, r15.2.2.2.1, r15.2.2.2.2.1, r15.2.2.2.2.2.1, r15.2.2.2.2.2.2)) else law4_PageKeeps.k6 s4 l0 (s4.1, s4.2.2.2.1, s4.2.2.2.2.1, s4.2.2.2.2.2.1, s4.2.2.2.2.2.2.1, s4.2.2.2.2.2.2.2.1, s4.2.2.2.2.2.2.2.2.1)) else some (.inr (.inr ())))
noncomputable def law4_PageKeeps.st1 (l0 : List (List UInt8)) (l1 : List (Int × Int × Int × Int)) (s4 : Int × (List (Int × (List UInt8))) × (List (Int × List UInt8)) × Bool × Int × Int × Int × Int × Int × Int × (List (Int × Int)) × Int × Int × Int × Int × Int × List UInt8 × Int) : Option ((Int × (List (Int × (List UInt8))) × (List (Int × List UInt8)) × Bool × Int × Int × Int × Int × Int × Int × (List (Int × Int)) × Int × Int × Int × Int × Int × List UInt8 × Int) ⊕ (Bool ⊕ Unit)) :=
  (if ((decide (s4.2.2.2.2.2.2.2.2.2.2.2.2.2.2.2.2.2 < ((l0.length : Int))))) = true then law4_PageKeeps.k4 s4 l1 l0 (decide (s4.2.2.2.2.2.2.2.2.2.2.2.2.2.2.2.2.2 < 12)) else law4_PageKeeps.k4 s4 l1 l0 false)
noncomputable def law4_PageKeeps.k2 (l0 : List (List UInt8)) (l1 : List (Int × Int × Int × Int)) (r1p0 : (Int × Bool × Int × Int × Int × Int × Int) × (List (Int × (List UInt8))) × (List (Int × (List UInt8)))) (r2p0 : (Int × Int × Int × Int) × (List (Int × Int))) (s2 : Bool) : Option Bool :=
  (if s2 = true then some false else (loop (law4_PageKeeps.st1 l0 l1) (r1p0.1.1, r1p0.2.1, r1p0.2.2, r1p0.1.2.1, r1p0.1.2.2.1, r1p0.1.2.2.2.1, r1p0.1.2.2.2.2.1, r1p0.1.2.2.2.2.2.1, r1p0.1.2.2.2.2.2.2, r2p0.1.1, r2p0.2, r2p0.1.2.1, r2p0.1.2.2.1, r2p0.1.2.2.2, 0, 0, ([] : List UInt8), 0)).bind (fun e1 => match e1 with | .inl v => some v | .inr v => law4_PageKeeps.k3 v))
noncomputable def law4_PageKeeps.impl (l0 : List (List UInt8)) (l1 : List (Int × Int × Int × Int)) : Option Bool :=
  (disk_New.impl 12).bind fun r1 => (match r1 with | (none, r1p1) => (some false) | (some r1p0, r1p1) => ((page_Open.impl ((r1p0.1.1, r1p0.1.2.1, r1p0.1.2.2.1, r1p0.1.2.2.2.1, r1p0.1.2.2.2.2.1, r1p0.1.2.2.2.2.2.1, r1p0.1.2.2.2.2.2.2)) r1p0.2.1 r1p0.2.2).bind fun r2 => (match r2 with | (none, r2p1) => ((if ((decide (r2p1 = 0))) = true then law4_PageKeeps.k1 () else law4_PageKeeps.k1 ())) | (some r2p0, r2p1) => ((if ((decide (r2p1 = 0))) = true then law4_PageKeeps.k2 l0 l1 r1p0 r2p0 false else law4_PageKeeps.k2 l0 l1 r1p0 r2p0 true)))))
set_option maxRecDepth 100000 in
set_option maxHeartbeats 4000000 in
theorem law4_PageKeeps.c {B : World} {hs : List MP} {w : World} {i0 c0 : Nat} {A0 : Option Addr} {l0 : List (List UInt8)} {i1 c1 : Nat} {A1 : Option Addr} {l1 : List (Int × Int × Int × Int)} (hS : St B (hs) w) (h0 : (hs)[i0]? = some (Ro (Elt.slice E8) A0 c0 l0)) (h1 : (hs)[i1]? = some (Ro (Elt.pair E64 (Elt.pair EU64 (Elt.pair E64 E64))) A1 c1 l1)) {r : Bool} (hr : law4_PageKeeps.impl l0 l1 = some r) :
    Calls Try.prog 6 #[.slice A0 l0.length c0, .slice A1 l1.length c1] w fun e w' => ∃ x : Unit, e = .returned (.bool r) ∧ St B (hs) w' := by
 unfold law4_PageKeeps.impl at hr
 refine calls_T Try.func6 rfl rfl rfl hS ?_
 refine T.front i0 h0 ?_
 refine T.front (i1 + 1) h1 ?_
 refine T.seq ?_
 refine T.region ?_
 refine T.assign .list rfl (wants0 rfl) rfl rfl ?_
 refine T.nil ?_
 refine T.then_normal ?_
 refine T.seq ?_
 refine T.region ?_
 obtain ⟨r1, hg1, hr⟩ := inv_bind hr
 rcases r1 with ⟨_ | r1p0, r1p1⟩
 ·dsimp only at hr
  refine T.call (v := fun (x1 : (Nat) × (Nat) × (Option Addr × Nat) × (Ads)) => .tuple #[.pointer none, .int .i64 r1p1]) (hs' := fun x1 => Ro (Elt.pair E64 (Elt.pair EU64 (Elt.pair E64 E64))) A1 c1 l1 :: Ro (Elt.slice E8) A0 c0 l0 :: hs) .list (wants0 rfl) rfl (run_callF (vs := [_]) rfl Try.func7 rfl (by decide) rfl) (fun w hS => disk_New.c hS  hg1) (fun x1 => ?_)
  refine T.move .list rfl (wants0 rfl) rfl rfl ?_
  refine T.extract .list rfl (wants0 rfl) rfl rfl rfl ?_
  refine T.extract .list rfl (wants0 rfl) rfl rfl rfl ?_
  refine T.assign .list rfl (wants0 rfl) rfl rfl ?_
  refine T.assign .list rfl (wants0 rfl) rfl rfl ?_
  refine T.nil ?_
  refine T.then_normal ?_
  refine T.seq ?_
  refine T.seq ?_
  refine T.region ?_
  refine T.move .list rfl (wants0 rfl) rfl rfl ?_
  refine T.ptrEq (pt := 68) .list rfl (wants0 rfl) rfl rfl rfl (by kernel_rfl) (.inr rfl) rfl ?_
  refine T.nil ?_
  refine T.then_normal ?_
  refine T.condT rfl rfl ?_
  refine T.seq ?_
  refine T.region ?_
  refine T.assign .list rfl (wants0 rfl) rfl rfl ?_
  refine T.nil ?_
  refine T.then_normal ?_
  refine T.ret ?_
  refine T.then_ret ?_
  obtain rfl := inv_some hr
  refine T.pick [] 2 rfl rfl (Nat.le_add_left _ _) rfl ?_
  refine T.ret1 rfl rfl (fun w hS => ⟨(), rfl, hS⟩)
 ·dsimp only at hr
  refine T.call (v := fun (x2 : (Nat) × (Nat) × (Option Addr × Nat) × (Ads)) => .tuple #[.pointer (some ⟨x2.1, 0, none⟩), .int .i64 r1p1]) (hs' := fun x2 => Cl x2.1 68 [.int .i64 r1p0.1.1, .map (some x2.2.1), .slice x2.2.2.1.1 r1p0.2.2.length x2.2.2.1.2, .bool r1p0.1.2.1, .int .i64 r1p0.1.2.2.1, .int .i64 r1p0.1.2.2.2.1, .int .u64 r1p0.1.2.2.2.2.1, .int .i64 r1p0.1.2.2.2.2.2.1, .int .i64 r1p0.1.2.2.2.2.2.2] :: Mp (Elt.slice E8) x2.2.1 r1p0.2.1 :: Hb 82 x2.2.2.1.1 x2.2.2.1.2 x2.2.2.2 r1p0.2.2 :: Bb 5 x2.2.2.2 r1p0.2.2 :: Ro (Elt.pair E64 (Elt.pair EU64 (Elt.pair E64 E64))) A1 c1 l1 :: Ro (Elt.slice E8) A0 c0 l0 :: hs) .list (wants0 rfl) rfl (run_callF (vs := [_]) rfl Try.func7 rfl (by decide) rfl) (fun w hS => disk_New.c hS  hg1) (fun x2 => ?_)
  refine T.move .list rfl (wants0 rfl) rfl rfl ?_
  refine T.extract .list rfl (wants0 rfl) rfl rfl rfl ?_
  refine T.extract .list rfl (wants0 rfl) rfl rfl rfl ?_
  refine T.assign .list rfl (wants0 rfl) rfl rfl ?_
  refine T.assign .list rfl (wants0 rfl) rfl rfl ?_
  refine T.nil ?_
  refine T.then_normal ?_
  refine T.seq ?_
  refine T.seq ?_
  refine T.region ?_
  refine T.move .list rfl (wants0 rfl) rfl rfl ?_
  refine T.ptrEq (pt := 68) .list rfl (wants0 rfl) rfl rfl rfl (by kernel_rfl) (.inr rfl) rfl ?_
  refine T.nil ?_
  refine T.then_normal ?_
  refine T.condF rfl rfl ?_
  refine T.skip ?_
  refine T.then_normal ?_
  refine T.seq ?_
  refine T.region ?_
  refine T.move .list rfl (wants0 rfl) rfl rfl ?_
  obtain ⟨r2, hg2, hr⟩ := inv_bind hr
  rcases r2 with ⟨_ | r2p0, r2p1⟩
  ·dsimp only at hr
   refine T.pick [0, 1, 2, 3, 4, 5] 6 rfl rfl (Nat.le_add_left _ _) (hs' := Cl x2.1 68 [.int .i64 r1p0.1.1, .map (some x2.2.1), .slice x2.2.2.1.1 r1p0.2.2.length x2.2.2.1.2, .bool r1p0.1.2.1, .int .i64 r1p0.1.2.2.1, .int .i64 r1p0.1.2.2.2.1, .int .u64 r1p0.1.2.2.2.2.1, .int .i64 r1p0.1.2.2.2.2.2.1, .int .i64 r1p0.1.2.2.2.2.2.2] :: Mp (Elt.slice E8) x2.2.1 r1p0.2.1 :: Hb 82 x2.2.2.1.1 x2.2.2.1.2 x2.2.2.2 r1p0.2.2 :: Bb 5 x2.2.2.2 r1p0.2.2 :: Ro (Elt.pair E64 (Elt.pair EU64 (Elt.pair E64 E64))) A1 c1 l1 :: Ro (Elt.slice E8) A0 c0 l0 :: hs) rfl ?_
   refine T.call (v := fun (x3 : (Nat) × (Nat)) => .tuple #[.pointer none, .int .i64 r2p1]) (hs' := fun x3 => Cl x2.1 68 [.int .i64 r1p0.1.1, .map (some x2.2.1), .slice x2.2.2.1.1 r1p0.2.2.length x2.2.2.1.2, .bool r1p0.1.2.1, .int .i64 r1p0.1.2.2.1, .int .i64 r1p0.1.2.2.2.1, .int .u64 r1p0.1.2.2.2.2.1, .int .i64 r1p0.1.2.2.2.2.2.1, .int .i64 r1p0.1.2.2.2.2.2.2] :: Mp (Elt.slice E8) x2.2.1 r1p0.2.1 :: Hb 82 x2.2.2.1.1 x2.2.2.1.2 x2.2.2.2 r1p0.2.2 :: Bb 5 x2.2.2.2 r1p0.2.2 :: Ro (Elt.pair E64 (Elt.pair EU64 (Elt.pair E64 E64))) A1 c1 l1 :: Ro (Elt.slice E8) A0 c0 l0 :: hs) .list (wants0 rfl) rfl (run_callF (vs := [_]) rfl Try.func8 rfl (by decide) rfl) (fun w hS => page_Open.c hS (o0 := (r1p0.1.1, r1p0.1.2.1, r1p0.1.2.2.1, r1p0.1.2.2.2.1, r1p0.1.2.2.2.2.1, r1p0.1.2.2.2.2.2.1, r1p0.1.2.2.2.2.2.2)) (q0b := r1p0.2.1) (q0c := r1p0.2.2)  hg2) (fun x3 => ?_)
   refine T.move .list rfl (wants0 rfl) rfl rfl ?_
   refine T.extract .list rfl (wants0 rfl) rfl rfl rfl ?_
   refine T.extract .list rfl (wants0 rfl) rfl rfl rfl ?_
   refine T.assign .list rfl (wants0 rfl) rfl rfl ?_
   refine T.assign .list rfl (wants0 rfl) rfl rfl ?_
   refine T.nil ?_
   refine T.then_normal ?_
   refine T.seq ?_
   refine T.seqJ (fun (s1 : Unit) (x4 : Unit) => [(0, .slice A0 l0.length c0), (1, .slice A1 l1.length c1), (5, .pointer (some ⟨x2.1, 0, none⟩)), (7, .pointer none), (34, .bool true)]) (fun s1 x4 => Ro (Elt.slice E8) A0 c0 l0 :: Ro (Elt.pair E64 (Elt.pair EU64 (Elt.pair E64 E64))) A1 c1 l1 :: Cl x2.1 68 [.int .i64 r1p0.1.1, .map (some x2.2.1), .slice x2.2.2.1.1 r1p0.2.2.length x2.2.2.1.2, .bool r1p0.1.2.1, .int .i64 r1p0.1.2.2.1, .int .i64 r1p0.1.2.2.2.1, .int .u64 r1p0.1.2.2.2.2.1, .int .i64 r1p0.1.2.2.2.2.2.1, .int .i64 r1p0.1.2.2.2.2.2.2] :: Mp (Elt.slice E8) x2.2.1 r1p0.2.1 :: Hb 82 x2.2.2.1.1 x2.2.2.1.2 x2.2.2.2 r1p0.2.2 :: Bb 5 x2.2.2.2 r1p0.2.2 :: hs) (fun s1 => law4_PageKeeps.k1 s1 = some r) (fun s1 x4 hk1 => ?_) (fun J1 => ?_)
   ·unfold law4_PageKeeps.k1 at hk1
    refine T.condT rfl rfl ?_
    refine T.seq ?_
    refine T.region ?_
    refine T.assign .list rfl (wants0 rfl) rfl rfl ?_
    refine T.nil ?_
    refine T.then_normal ?_
    refine T.ret ?_
    refine T.then_ret ?_
    obtain rfl := inv_some hk1
    refine T.pick [] 6 rfl rfl (Nat.le_add_left _ _) rfl ?_
    refine T.ret1 rfl rfl (fun w hS => ⟨(), rfl, hS⟩)
   ·refine T.region ?_
    refine T.move .list rfl (wants0 rfl) rfl rfl ?_
    refine T.bin .list rfl (wants0 rfl) rfl rfl rfl rfl ?_
    refine T.move .list rfl (wants0 rfl) rfl rfl ?_
    refine T.bool (b := (decide (r2p1 = 0))) (fun hb1 => ?_) (fun hb1 => ?_)
    ·replace hr := inv_posB hb1 hr
     refine T.move .list rfl (wants1 rfl rfl rfl (not_t hb1)) rfl rfl ?_
     refine T.ptrEq (pt := 45) .list rfl (wants1 rfl rfl rfl (not_t hb1)) rfl rfl rfl (by kernel_rfl) (.inr rfl) rfl ?_
     refine T.pickF .list rfl (wants0 rfl) rfl rfl (not_t hb1) rfl ?_
     refine T.nil ?_
     refine T.then_normal ?_
     exact T.le (EnvLe.cons rfl (EnvLe.cons rfl (EnvLe.cons rfl (EnvLe.cons rfl (EnvLe.cons rfl EnvLe.nil))))) (T.pick [5, 4, 0, 1, 2, 3] 6 rfl rfl (Nat.le_add_left _ _) rfl (J1 () () hr))
    ·replace hr := inv_negB hb1 hr
     refine T.leave .list (wantsNot rfl rfl rfl (not_f hb1)) rfl ?_
     refine T.leave .list (wantsNot rfl rfl rfl (not_f hb1)) rfl ?_
     refine T.pickT .list rfl (wants0 rfl) rfl rfl (not_f hb1) rfl ?_
     refine T.nil ?_
     refine T.then_normal ?_
     exact T.le (EnvLe.cons rfl (EnvLe.cons rfl (EnvLe.cons rfl (EnvLe.cons rfl (EnvLe.cons rfl EnvLe.nil))))) (T.pick [5, 4, 0, 1, 2, 3] 6 rfl rfl (Nat.le_add_left _ _) rfl (J1 () () hr))
  ·dsimp only at hr
   refine T.pick [0, 1, 2, 3, 4, 5] 6 rfl rfl (Nat.le_add_left _ _) (hs' := Cl x2.1 68 [.int .i64 r1p0.1.1, .map (some x2.2.1), .slice x2.2.2.1.1 r1p0.2.2.length x2.2.2.1.2, .bool r1p0.1.2.1, .int .i64 r1p0.1.2.2.1, .int .i64 r1p0.1.2.2.2.1, .int .u64 r1p0.1.2.2.2.2.1, .int .i64 r1p0.1.2.2.2.2.2.1, .int .i64 r1p0.1.2.2.2.2.2.2] :: Mp (Elt.slice E8) x2.2.1 r1p0.2.1 :: Hb 82 x2.2.2.1.1 x2.2.2.1.2 x2.2.2.2 r1p0.2.2 :: Bb 5 x2.2.2.2 r1p0.2.2 :: Ro (Elt.pair E64 (Elt.pair EU64 (Elt.pair E64 E64))) A1 c1 l1 :: Ro (Elt.slice E8) A0 c0 l0 :: hs) rfl ?_
   refine T.call (v := fun (x5 : (Nat) × (Nat)) => .tuple #[.pointer (some ⟨x5.1, 0, none⟩), .int .i64 r2p1]) (hs' := fun x5 => Cl x2.1 68 [.int .i64 r1p0.1.1, .map (some x2.2.1), .slice x2.2.2.1.1 r1p0.2.2.length x2.2.2.1.2, .bool r1p0.1.2.1, .int .i64 r1p0.1.2.2.1, .int .i64 r1p0.1.2.2.2.1, .int .u64 r1p0.1.2.2.2.2.1, .int .i64 r1p0.1.2.2.2.2.2.1, .int .i64 r1p0.1.2.2.2.2.2.2] :: Mp (Elt.slice E8) x2.2.1 r1p0.2.1 :: Hb 82 x2.2.2.1.1 x2.2.2.1.2 x2.2.2.2 r1p0.2.2 :: Bb 5 x2.2.2.2 r1p0.2.2 :: Cl x5.1 45 [.int .i64 r2p0.1.1, .map (some x5.2), .pointer (some ⟨x2.1, 0, none⟩), .int .i64 r2p0.1.2.1, .int .u64 r2p0.1.2.2.1, .int .i64 r2p0.1.2.2.2] :: Mp E64 x5.2 r2p0.2 :: Ro (Elt.pair E64 (Elt.pair EU64 (Elt.pair E64 E64))) A1 c1 l1 :: Ro (Elt.slice E8) A0 c0 l0 :: hs) .list (wants0 rfl) rfl (run_callF (vs := [_]) rfl Try.func8 rfl (by decide) rfl) (fun w hS => page_Open.c hS (o0 := (r1p0.1.1, r1p0.1.2.1, r1p0.1.2.2.1, r1p0.1.2.2.2.1, r1p0.1.2.2.2.2.1, r1p0.1.2.2.2.2.2.1, r1p0.1.2.2.2.2.2.2)) (q0b := r1p0.2.1) (q0c := r1p0.2.2)  hg2) (fun x5 => ?_)
   refine T.move .list rfl (wants0 rfl) rfl rfl ?_
   refine T.extract .list rfl (wants0 rfl) rfl rfl rfl ?_
   refine T.extract .list rfl (wants0 rfl) rfl rfl rfl ?_
   refine T.assign .list rfl (wants0 rfl) rfl rfl ?_
   refine T.assign .list rfl (wants0 rfl) rfl rfl ?_
   refine T.nil ?_
   refine T.then_normal ?_
   refine T.seq ?_
   refine T.seqJ (fun (s2 : Bool) (x6 : Unit) => [(0, .slice A0 l0.length c0), (1, .slice A1 l1.length c1), (5, .pointer (some ⟨x2.1, 0, none⟩)), (7, .pointer (some ⟨x5.1, 0, none⟩)), (34, .bool s2)]) (fun s2 x6 => Ro (Elt.slice E8) A0 c0 l0 :: Ro (Elt.pair E64 (Elt.pair EU64 (Elt.pair E64 E64))) A1 c1 l1 :: Cl x2.1 68 [.int .i64 r1p0.1.1, .map (some x2.2.1), .slice x2.2.2.1.1 r1p0.2.2.length x2.2.2.1.2, .bool r1p0.1.2.1, .int .i64 r1p0.1.2.2.1, .int .i64 r1p0.1.2.2.2.1, .int .u64 r1p0.1.2.2.2.2.1, .int .i64 r1p0.1.2.2.2.2.2.1, .int .i64 r1p0.1.2.2.2.2.2.2] :: Mp (Elt.slice E8) x2.2.1 r1p0.2.1 :: Hb 82 x2.2.2.1.1 x2.2.2.1.2 x2.2.2.2 r1p0.2.2 :: Bb 5 x2.2.2.2 r1p0.2.2 :: Cl x5.1 45 [.int .i64 r2p0.1.1, .map (some x5.2), .pointer (some ⟨x2.1, 0, none⟩), .int .i64 r2p0.1.2.1, .int .u64 r2p0.1.2.2.1, .int .i64 r2p0.1.2.2.2] :: Mp E64 x5.2 r2p0.2 :: hs) (fun s2 => law4_PageKeeps.k2 l0 l1 r1p0 r2p0 s2 = some r) (fun s2 x6 hk2 => ?_) (fun J2 => ?_)
   ·unfold law4_PageKeeps.k2 at hk2
    refine T.cond rfl (fun hb2 => ?_) (fun hb2 => ?_)
    ·replace hk2 := inv_posB hb2 hk2
     refine T.seq ?_
     refine T.region ?_
     refine T.assign .list rfl (wants0 rfl) rfl rfl ?_
     refine T.nil ?_
     refine T.then_normal ?_
     refine T.ret ?_
     refine T.then_ret ?_
     obtain rfl := inv_some hk2
     refine T.pick [] 8 rfl rfl (Nat.le_add_left _ _) rfl ?_
     refine T.ret1 rfl rfl (fun w hS => ⟨(), rfl, hS⟩)
    ·replace hk2 := inv_negB hb2 hk2
     refine T.skip ?_
     refine T.then_normal ?_
     refine T.seq ?_
     refine T.region ?_
     refine T.assign .list rfl (wants0 rfl) rfl rfl ?_
     refine T.assign .list rfl (wants0 rfl) rfl rfl ?_
     refine T.nil ?_
     refine T.then_normal ?_
     refine T.seq ?_
     refine T.region ?_
     refine T.assign .list rfl (wants0 rfl) rfl rfl ?_
     refine T.nil ?_
     refine T.then_normal ?_
     refine T.seqJ (fun (s3 : Unit) (x7 : Unit) => []) (fun s3 x7 => hs) (fun s3 => law4_PageKeeps.k3 s3 = some r) (fun s3 x7 hk3 => ?_) (fun J3 => ?_)
     ·unfold law4_PageKeeps.k3 at hk3
      refine T.seq ?_
      refine T.region ?_
      obtain ⟨r3, hg3, hk3⟩ := inv_bind hk3
      refine T.call .list (wants0 rfl) rfl (run_callF (vs := []) rfl Try.func14 rfl (by decide) rfl) (fun w hS => law4_told.c hS  hg3) (fun x8 => ?_)
      refine T.assign .list rfl (wants0 rfl) rfl rfl ?_
      refine T.nil ?_
      refine T.then_normal ?_
      refine T.ret ?_
      obtain rfl := inv_some hk3
      refine T.pick [] 0 rfl rfl (Nat.le_add_left _ _) rfl ?_
      refine T.ret1 rfl rfl (fun w hS => ⟨(), rfl, hS⟩)
     ·refine T.seq ?_
      refine T.region ?_
      refine T.assign .list rfl (wants0 rfl) rfl rfl ?_
      refine T.nil ?_
      refine T.then_normal ?_
      refine T.block ?_
      obtain ⟨e1, hl1, hk2⟩ := inv_bind hk2
      refine T.le (EnvLe.cons rfl (EnvLe.cons rfl (EnvLe.cons rfl (EnvLe.cons rfl (EnvLe.cons rfl (EnvLe.cons rfl (EnvLe.cons rfl (EnvLe.cons rfl EnvLe.nil)))))))) (T.pick [0, 1, 2, 3, 4, 5, 6, 7] 8 rfl rfl (Nat.le_add_left _ _) rfl (T.loop (s0 := (r1p0.1.1, r1p0.2.1, r1p0.2.2, r1p0.1.2.1, r1p0.1.2.2.1, r1p0.1.2.2.2.1, r1p0.1.2.2.2.2.1, r1p0.1.2.2.2.2.2.1, r1p0.1.2.2.2.2.2.2, r2p0.1.1, r2p0.2, r2p0.1.2.1, r2p0.1.2.2.1, r2p0.1.2.2.2, 0, 0, ([] : List UInt8), 0)) (env := fun s4 x9 => [(0, .slice A0 l0.length c0), (1, .slice A1 l1.length c1), (5, .pointer (some ⟨x2.1, 0, none⟩)), (7, .pointer (some ⟨x9.2.2.1, 0, none⟩)), (9, .int .i64 s4.2.2.2.2.2.2.2.2.2.2.2.2.2.2.1), (10, .int .i64 s4.2.2.2.2.2.2.2.2.2.2.2.2.2.2.2.1), (11, str s4.2.2.2.2.2.2.2.2.2.2.2.2.2.2.2.2.1), (12, .int .i64 s4.2.2.2.2.2.2.2.2.2.2.2.2.2.2.2.2.2)]) (hs := fun (s4 : Int × (List (Int × (List UInt8))) × (List (Int × List UInt8)) × Bool × Int × Int × Int × Int × Int × Int × (List (Int × Int)) × Int × Int × Int × Int × Int × List UInt8 × Int) (x9 : (Option Addr × Nat) × (Ads) × (Nat) × (Nat)) => Ro (Elt.slice E8) A0 c0 l0 :: Ro (Elt.pair E64 (Elt.pair EU64 (Elt.pair E64 E64))) A1 c1 l1 :: Cl x2.1 68 [.int .i64 s4.1, .map (some x2.2.1), .slice x9.1.1 s4.2.2.1.length x9.1.2, .bool s4.2.2.2.1, .int .i64 s4.2.2.2.2.1, .int .i64 s4.2.2.2.2.2.1, .int .u64 s4.2.2.2.2.2.2.1, .int .i64 s4.2.2.2.2.2.2.2.1, .int .i64 s4.2.2.2.2.2.2.2.2.1] :: Mp (Elt.slice E8) x2.2.1 s4.2.1 :: Hb 82 x9.1.1 x9.1.2 x9.2.1 s4.2.2.1 :: Bb 5 x9.2.1 s4.2.2.1 :: Cl x9.2.2.1 45 [.int .i64 s4.2.2.2.2.2.2.2.2.2.1, .map (some x9.2.2.2), .pointer (some ⟨x2.1, 0, none⟩), .int .i64 s4.2.2.2.2.2.2.2.2.2.2.2.1, .int .u64 s4.2.2.2.2.2.2.2.2.2.2.2.2.1, .int .i64 s4.2.2.2.2.2.2.2.2.2.2.2.2.2.1] :: Mp E64 x9.2.2.2 s4.2.2.2.2.2.2.2.2.2.2.1 :: hs) hl1 ((x2.2.2.1.1, x2.2.2.1.2), x2.2.2.2, x5.1, x5.2) (fun K1 s4 x9 o1 he1 hm1 hx1 => ?_)))
      unfold law4_PageKeeps.st1 at he1
      refine T.seq ?_
      refine T.seqJ (fun (s5 : Bool) (x10 : Unit) => [(0, .slice A0 l0.length c0), (1, .slice A1 l1.length c1), (5, .pointer (some ⟨x2.1, 0, none⟩)), (7, .pointer (some ⟨x9.2.2.1, 0, none⟩)), (9, .int .i64 s4.2.2.2.2.2.2.2.2.2.2.2.2.2.2.1), (10, .int .i64 s4.2.2.2.2.2.2.2.2.2.2.2.2.2.2.2.1), (11, str s4.2.2.2.2.2.2.2.2.2.2.2.2.2.2.2.2.1), (12, .int .i64 s4.2.2.2.2.2.2.2.2.2.2.2.2.2.2.2.2.2), (42, .bool s5)]) (fun s5 x10 => Ro (Elt.slice E8) A0 c0 l0 :: Ro (Elt.pair E64 (Elt.pair EU64 (Elt.pair E64 E64))) A1 c1 l1 :: Cl x2.1 68 [.int .i64 s4.1, .map (some x2.2.1), .slice x9.1.1 s4.2.2.1.length x9.1.2, .bool s4.2.2.2.1, .int .i64 s4.2.2.2.2.1, .int .i64 s4.2.2.2.2.2.1, .int .u64 s4.2.2.2.2.2.2.1, .int .i64 s4.2.2.2.2.2.2.2.1, .int .i64 s4.2.2.2.2.2.2.2.2.1] :: Mp (Elt.slice E8) x2.2.1 s4.2.1 :: Hb 82 x9.1.1 x9.1.2 x9.2.1 s4.2.2.1 :: Bb 5 x9.2.1 s4.2.2.1 :: Cl x9.2.2.1 45 [.int .i64 s4.2.2.2.2.2.2.2.2.2.1, .map (some x9.2.2.2), .pointer (some ⟨x2.1, 0, none⟩), .int .i64 s4.2.2.2.2.2.2.2.2.2.2.2.1, .int .u64 s4.2.2.2.2.2.2.2.2.2.2.2.2.1, .int .i64 s4.2.2.2.2.2.2.2.2.2.2.2.2.2.1] :: Mp E64 x9.2.2.2 s4.2.2.2.2.2.2.2.2.2.2.1 :: hs) (fun s5 => law4_PageKeeps.k4 s4 l1 l0 s5 = some o1) (fun s5 x10 hk4 => ?_) (fun J4 => ?_)
      ·unfold law4_PageKeeps.k4 at hk4
       refine T.cond rfl (fun hb3 => ?_) (fun hb3 => ?_)
       ·replace hk4 := inv_posB hb3 hk4
        refine T.skip ?_
        refine T.then_normal ?_
        refine T.seqJ (fun (s6 : Int × (List (Int × (List UInt8))) × (List (Int × List UInt8)) × Bool × Int × Int × Int × Int × Int × Int × (List (Int × Int)) × Int × Int × Int × Int × Int × List UInt8) (x11 : (Option Addr × Nat) × (Ads) × (Nat) × (Nat)) => [(0, .slice A0 l0.length c0), (1, .slice A1 l1.length c1), (5, .pointer (some ⟨x2.1, 0, none⟩)), (7, .pointer (some ⟨x11.2.2.1, 0, none⟩)), (9, .int .i64 s6.2.2.2.2.2.2.2.2.2.2.2.2.2.2.1), (10, .int .i64 s6.2.2.2.2.2.2.2.2.2.2.2.2.2.2.2.1), (11, str s6.2.2.2.2.2.2.2.2.2.2.2.2.2.2.2.2), (12, .int .i64 s4.2.2.2.2.2.2.2.2.2.2.2.2.2.2.2.2.2)]) (fun s6 x11 => Ro (Elt.slice E8) A0 c0 l0 :: Ro (Elt.pair E64 (Elt.pair EU64 (Elt.pair E64 E64))) A1 c1 l1 :: Cl x2.1 68 [.int .i64 s6.1, .map (some x2.2.1), .slice x11.1.1 s6.2.2.1.length x11.1.2, .bool s6.2.2.2.1, .int .i64 s6.2.2.2.2.1, .int .i64 s6.2.2.2.2.2.1, .int .u64 s6.2.2.2.2.2.2.1, .int .i64 s6.2.2.2.2.2.2.2.1, .int .i64 s6.2.2.2.2.2.2.2.2.1] :: Mp (Elt.slice E8) x2.2.1 s6.2.1 :: Hb 82 x11.1.1 x11.1.2 x11.2.1 s6.2.2.1 :: Bb 5 x11.2.1 s6.2.2.1 :: Cl x11.2.2.1 45 [.int .i64 s6.2.2.2.2.2.2.2.2.2.1, .map (some x11.2.2.2), .pointer (some ⟨x2.1, 0, none⟩), .int .i64 s6.2.2.2.2.2.2.2.2.2.2.2.1, .int .u64 s6.2.2.2.2.2.2.2.2.2.2.2.2.1, .int .i64 s6.2.2.2.2.2.2.2.2.2.2.2.2.2.1] :: Mp E64 x11.2.2.2 s6.2.2.2.2.2.2.2.2.2.2.1 :: hs) (fun s6 => law4_PageKeeps.k5 s4 s6 = some o1) (fun s6 x11 hk5 => ?_) (fun J5 => ?_)
        ·unfold law4_PageKeeps.k5 at hk5
         refine T.region ?_
         refine T.move .list rfl (wants0 rfl) rfl rfl ?_
         refine T.bin .list rfl (wants0 rfl) rfl rfl rfl rfl ?_
         refine T.assign .list rfl (wants0 rfl) rfl rfl ?_
         refine T.nil ?_
         refine T.then_normal ?_
         obtain rfl := inv_some hk5
         exact T.le (EnvLe.cons rfl (EnvLe.cons rfl (EnvLe.cons rfl (EnvLe.cons rfl (EnvLe.cons rfl (EnvLe.cons rfl (EnvLe.cons rfl (EnvLe.cons rfl EnvLe.nil)))))))) (T.pick [0, 1, 2, 3, 4, 5, 6, 7] 8 rfl rfl (Nat.le_add_left _ _) rfl (hm1 (s6.1, s6.2.1, s6.2.2.1, s6.2.2.2.1, s6.2.2.2.2.1, s6.2.2.2.2.2.1, s6.2.2.2.2.2.2.1, s6.2.2.2.2.2.2.2.1, s6.2.2.2.2.2.2.2.2.1, s6.2.2.2.2.2.2.2.2.2.1, s6.2.2.2.2.2.2.2.2.2.2.1, s6.2.2.2.2.2.2.2.2.2.2.2.1, s6.2.2.2.2.2.2.2.2.2.2.2.2.1, s6.2.2.2.2.2.2.2.2.2.2.2.2.2.1, s6.2.2.2.2.2.2.2.2.2.2.2.2.2.2.1, s6.2.2.2.2.2.2.2.2.2.2.2.2.2.2.2.1, s6.2.2.2.2.2.2.2.2.2.2.2.2.2.2.2.2, IntKind.i64.wrap (s4.2.2.2.2.2.2.2.2.2.2.2.2.2.2.2.2.2 + 1)) rfl ((x11.1.1, x11.1.2), x11.2.1, x11.2.2.1, x11.2.2.2)))
        ·refine T.block ?_
         refine T.seqJ (fun (s7 : Int × Bool × Int × Int × Int × Int × Int) (x12 : Unit) => [(0, .slice A0 l0.length c0), (1, .slice A1 l1.length c1), (5, .pointer (some ⟨x2.1, 0, none⟩)), (7, .pointer (some ⟨x9.2.2.1, 0, none⟩)), (9, .int .i64 s4.2.2.2.2.2.2.2.2.2.2.2.2.2.2.1), (10, .int .i64 s4.2.2.2.2.2.2.2.2.2.2.2.2.2.2.2.1), (11, str s4.2.2.2.2.2.2.2.2.2.2.2.2.2.2.2.2.1), (12, .int .i64 s4.2.2.2.2.2.2.2.2.2.2.2.2.2.2.2.2.2)]) (fun s7 x12 => Ro (Elt.slice E8) A0 c0 l0 :: Ro (Elt.pair E64 (Elt.pair EU64 (Elt.pair E64 E64))) A1 c1 l1 :: Cl x2.1 68 [.int .i64 s7.1, .map (some x2.2.1), .slice x9.1.1 s4.2.2.1.length x9.1.2, .bool s7.2.1, .int .i64 s7.2.2.1, .int .i64 s7.2.2.2.1, .int .u64 s7.2.2.2.2.1, .int .i64 s7.2.2.2.2.2.1, .int .i64 s7.2.2.2.2.2.2] :: Mp (Elt.slice E8) x2.2.1 s4.2.1 :: Hb 82 x9.1.1 x9.1.2 x9.2.1 s4.2.2.1 :: Bb 5 x9.2.1 s4.2.2.1 :: Cl x9.2.2.1 45 [.int .i64 s4.2.2.2.2.2.2.2.2.2.1, .map (some x9.2.2.2), .pointer (some ⟨x2.1, 0, none⟩), .int .i64 s4.2.2.2.2.2.2.2.2.2.2.2.1, .int .u64 s4.2.2.2.2.2.2.2.2.2.2.2.2.1, .int .i64 s4.2.2.2.2.2.2.2.2.2.2.2.2.2.1] :: Mp E64 x9.2.2.2 s4.2.2.2.2.2.2.2.2.2.2.1 :: hs) (fun s7 => law4_PageKeeps.k6 s4 l0 s7 = some o1) (fun s7 x12 hk6 => ?_) (fun J6 => ?_)
         ·unfold law4_PageKeeps.k6 at hk6
          refine T.seq ?_
          refine T.plan [(0, 0), (1, 0), (2, 0), (4, 0), (5, 0), (6, 0), (3, 1), (7, 1), (8, 0), (9, 0), (10, 0), (11, 1), (12, 0)] mixed (by kernel_rfl) (by kernel_rfl) rfl (fun d _ _ _ _ h => by cases d <;> exact h) ?_
          refine T.move (.plan rfl) rfl (wants0 rfl) rfl rfl ?_
          refine T.move (.plan rfl) rfl (wants0 rfl) rfl rfl ?_
          obtain ⟨hc1, hk6⟩ := inv_chk hk6
          refine T.idxRo (.plan rfl) 0 rfl rfl (wants0 rfl) rfl rfl rfl hc1.1 hc1.2 (Nat.le_refl _) ?_
          refine T.move (.plan rfl) rfl (wants0 rfl) rfl rfl ?_
          refine T.move (.plan rfl) rfl (wants0 rfl) rfl rfl ?_
          obtain ⟨hc2, hk6⟩ := inv_chk hk6
          refine T.idxRo (.plan rfl) 0 rfl rfl (wants0 rfl) rfl rfl rfl hc2.1 hc2.2 (Nat.le_refl _) ?_
          refine T.ldSlice (.plan rfl) 0 rfl rfl (wants0 rfl) rfl rfl hc1.1 hc1.2 (fun x13 => ?_)
          refine T.ldSlice (.plan rfl) 1 rfl rfl (wants0 rfl) rfl rfl hc2.1 hc2.2 (fun x14 => ?_)
          refine T.lenSlice (.plan rfl) rfl (wants0 rfl) rfl rfl ?_
          refine T.min2 (.plan rfl) rfl (wants0 rfl) rfl rfl rfl ?_
          obtain ⟨hc3, hk6⟩ := inv_chk hk6
          refine T.cut0 (.plan rfl) 1 rfl rfl rfl (wants0 rfl) rfl rfl (.inl rfl) (.inr ⟨_, _, rfl, rfl⟩) hc3.1 hc3.2 ?_
          refine T.strRo (.plan rfl) 0 rfl rfl (wants0 rfl) rfl rfl rfl ?_
          refine T.assign (.plan rfl) rfl (wants0 rfl) rfl rfl ?_
          refine T.planEnd ?_
          refine T.then_normal ?_
          refine T.seq ?_
          refine T.region ?_
          refine T.move .list rfl (wants0 rfl) rfl rfl ?_
          refine T.move .list rfl (wants0 rfl) rfl rfl ?_
          refine T.bytesOf .list rfl (wants0 rfl) rfl (l := (subl (((l0).getD (s4.2.2.2.2.2.2.2.2.2.2.2.2.2.2.2.2.2 : Int).toNat default)) 0 (min (((((l0).getD (s4.2.2.2.2.2.2.2.2.2.2.2.2.2.2.2.2.2 : Int).toNat default)).length : Int)) 200))) rfl (fun q1 => ?_)
          refine T.pick [10, 11, 6, 7, 8, 9, 0, 1, 2, 3, 4, 5] 12 rfl rfl (Nat.le_add_left _ _) (hs' := Cl x9.2.2.1 45 [.int .i64 s4.2.2.2.2.2.2.2.2.2.1, .map (some x9.2.2.2), .pointer (some ⟨x2.1, 0, none⟩), .int .i64 s4.2.2.2.2.2.2.2.2.2.2.2.1, .int .u64 s4.2.2.2.2.2.2.2.2.2.2.2.2.1, .int .i64 s4.2.2.2.2.2.2.2.2.2.2.2.2.2.1] :: Mp E64 x9.2.2.2 s4.2.2.2.2.2.2.2.2.2.2.1 :: Cl x2.1 68 [.int .i64 s7.1, .map (some x2.2.1), .slice x9.1.1 s4.2.2.1.length x9.1.2, .bool s7.2.1, .int .i64 s7.2.2.1, .int .i64 s7.2.2.2.1, .int .u64 s7.2.2.2.2.1, .int .i64 s7.2.2.2.2.2.1, .int .i64 s7.2.2.2.2.2.2] :: Mp (Elt.slice E8) x2.2.1 s4.2.1 :: Hb 82 x9.1.1 x9.1.2 x9.2.1 s4.2.2.1 :: Bb 5 x9.2.1 s4.2.2.1 :: Ro E8 (some ⟨q1.1, 0, none⟩) q1.2 (subl (((l0).getD (s4.2.2.2.2.2.2.2.2.2.2.2.2.2.2.2.2.2 : Int).toNat default)) 0 (min (((((l0).getD (s4.2.2.2.2.2.2.2.2.2.2.2.2.2.2.2.2.2 : Int).toNat default)).length : Int)) 200)) :: Ro E8 x13.1 x13.2 (subl (((l0).getD (s4.2.2.2.2.2.2.2.2.2.2.2.2.2.2.2.2.2 : Int).toNat default)) 0 (min (((((l0).getD (s4.2.2.2.2.2.2.2.2.2.2.2.2.2.2.2.2.2 : Int).toNat default)).length : Int)) 200)) :: Ro E8 x14.1 x14.2 (((l0).getD (s4.2.2.2.2.2.2.2.2.2.2.2.2.2.2.2.2.2 : Int).toNat default)) :: Ro E8 x13.1 x13.2 (((l0).getD (s4.2.2.2.2.2.2.2.2.2.2.2.2.2.2.2.2.2 : Int).toNat default)) :: Ro (Elt.slice E8) A0 c0 l0 :: Ro (Elt.pair E64 (Elt.pair EU64 (Elt.pair E64 E64))) A1 c1 l1 :: hs) rfl ?_
          obtain ⟨r4, hg4, hk6⟩ := inv_bind hk6
          refine T.call .list (wants0 rfl) rfl (run_callF (vs := [_, _]) rfl Try.func9 rfl (by decide) rfl) (fun w hS => page_Store_Put.c hS (i1 := 6) (o0 := (s4.2.2.2.2.2.2.2.2.2.1, s4.2.2.2.2.2.2.2.2.2.2.2.1, s4.2.2.2.2.2.2.2.2.2.2.2.2.1, s4.2.2.2.2.2.2.2.2.2.2.2.2.2.1)) (q0b := s4.2.2.2.2.2.2.2.2.2.2.1) (o0c := (s7.1, s7.2.1, s7.2.2.1, s7.2.2.2.1, s7.2.2.2.2.1, s7.2.2.2.2.2.1, s7.2.2.2.2.2.2)) (q0cb := s4.2.1) (q0cc := s4.2.2.1) rfl hg4) (fun x15 => ?_)
          refine T.move .list rfl (wants0 rfl) rfl rfl ?_
          refine T.extract .list rfl (wants0 rfl) rfl rfl rfl ?_
          refine T.extract .list rfl (wants0 rfl) rfl rfl rfl ?_
          refine T.assign .list rfl (wants0 rfl) rfl rfl ?_
          refine T.assign .list rfl (wants0 rfl) rfl rfl ?_
          refine T.nil ?_
          refine T.then_normal ?_
          refine T.seqJ (fun (s8 : (List (Int × Int)) × Int) (x16 : Unit) => [(0, .slice A0 l0.length c0), (1, .slice A1 l1.length c1), (5, .pointer (some ⟨x2.1, 0, none⟩)), (7, .pointer (some ⟨x9.2.2.1, 0, none⟩)), (9, .int .i64 s4.2.2.2.2.2.2.2.2.2.2.2.2.2.2.1), (10, .int .i64 s4.2.2.2.2.2.2.2.2.2.2.2.2.2.2.2.1), (11, str s4.2.2.2.2.2.2.2.2.2.2.2.2.2.2.2.2.1), (12, .int .i64 s4.2.2.2.2.2.2.2.2.2.2.2.2.2.2.2.2.2), (13, str (subl (((l0).getD (s4.2.2.2.2.2.2.2.2.2.2.2.2.2.2.2.2.2 : Int).toNat default)) 0 (min (((((l0).getD (s4.2.2.2.2.2.2.2.2.2.2.2.2.2.2.2.2.2 : Int).toNat default)).length : Int)) 200))), (14, .int .i64 r4.1), (15, .int .i64 s8.2)]) (fun s8 x16 => Ro (Elt.slice E8) A0 c0 l0 :: Ro (Elt.pair E64 (Elt.pair EU64 (Elt.pair E64 E64))) A1 c1 l1 :: Cl x2.1 68 [.int .i64 r4.2.2.2.1.1, .map (some x2.2.1), .slice x15.1.1 r4.2.2.2.2.2.length x15.1.2, .bool r4.2.2.2.1.2.1, .int .i64 r4.2.2.2.1.2.2.1, .int .i64 r4.2.2.2.1.2.2.2.1, .int .u64 r4.2.2.2.1.2.2.2.2.1, .int .i64 r4.2.2.2.1.2.2.2.2.2.1, .int .i64 r4.2.2.2.1.2.2.2.2.2.2] :: Mp (Elt.slice E8) x2.2.1 r4.2.2.2.2.1 :: Hb 82 x15.1.1 x15.1.2 x15.2 r4.2.2.2.2.2 :: Bb 5 x15.2 r4.2.2.2.2.2 :: Cl x9.2.2.1 45 [.int .i64 s4.2.2.2.2.2.2.2.2.2.1, .map (some x9.2.2.2), .pointer (some ⟨x2.1, 0, none⟩), .int .i64 s4.2.2.2.2.2.2.2.2.2.2.2.1, .int .u64 s4.2.2.2.2.2.2.2.2.2.2.2.2.1, .int .i64 s4.2.2.2.2.2.2.2.2.2.2.2.2.2.1] :: Mp E64 x9.2.2.2 s8.1 :: hs) (fun s8 => law4_PageKeeps.k7 s4 r4 l0 s8 = some o1) (fun s8 x16 hk7 => ?_) (fun J7 => ?_)
          ·unfold law4_PageKeeps.k7 at hk7
           refine T.seqJ (fun (s9 : Int × (List (Int × (List UInt8))) × (List (Int × List UInt8)) × Bool × Int × Int × Int × Int × Int × Int × (List (Int × Int)) × Int × Int × Int × Int) (x17 : (Option Addr × Nat) × (Ads)) => [(0, .slice A0 l0.length c0), (1, .slice A1 l1.length c1), (5, .pointer (some ⟨x2.1, 0, none⟩)), (7, .pointer (some ⟨x9.2.2.1, 0, none⟩)), (9, .int .i64 s4.2.2.2.2.2.2.2.2.2.2.2.2.2.2.1), (10, .int .i64 s4.2.2.2.2.2.2.2.2.2.2.2.2.2.2.2.1), (11, str s4.2.2.2.2.2.2.2.2.2.2.2.2.2.2.2.2.1), (12, .int .i64 s4.2.2.2.2.2.2.2.2.2.2.2.2.2.2.2.2.2), (13, str (subl (((l0).getD (s4.2.2.2.2.2.2.2.2.2.2.2.2.2.2.2.2.2 : Int).toNat default)) 0 (min (((((l0).getD (s4.2.2.2.2.2.2.2.2.2.2.2.2.2.2.2.2.2 : Int).toNat default)).length : Int)) 200))), (14, .int .i64 r4.1), (15, .int .i64 s9.2.2.2.2.2.2.2.2.2.2.2.2.2.2)]) (fun s9 x17 => Ro (Elt.slice E8) A0 c0 l0 :: Ro (Elt.pair E64 (Elt.pair EU64 (Elt.pair E64 E64))) A1 c1 l1 :: Cl x2.1 68 [.int .i64 s9.1, .map (some x2.2.1), .slice x17.1.1 s9.2.2.1.length x17.1.2, .bool s9.2.2.2.1, .int .i64 s9.2.2.2.2.1, .int .i64 s9.2.2.2.2.2.1, .int .u64 s9.2.2.2.2.2.2.1, .int .i64 s9.2.2.2.2.2.2.2.1, .int .i64 s9.2.2.2.2.2.2.2.2.1] :: Mp (Elt.slice E8) x2.2.1 s9.2.1 :: Hb 82 x17.1.1 x17.1.2 x17.2 s9.2.2.1 :: Bb 5 x17.2 s9.2.2.1 :: Cl x9.2.2.1 45 [.int .i64 s9.2.2.2.2.2.2.2.2.2.1, .map (some x9.2.2.2), .pointer (some ⟨x2.1, 0, none⟩), .int .i64 s9.2.2.2.2.2.2.2.2.2.2.2.1, .int .u64 s9.2.2.2.2.2.2.2.2.2.2.2.2.1, .int .i64 s9.2.2.2.2.2.2.2.2.2.2.2.2.2.1] :: Mp E64 x9.2.2.2 s9.2.2.2.2.2.2.2.2.2.2.1 :: hs) (fun s9 => law4_PageKeeps.k8 s4 r4 l0 s9 = some o1) (fun s9 x17 hk8 => ?_) (fun J8 => ?_)
           ·unfold law4_PageKeeps.k8 at hk8
            refine T.seq ?_
            refine T.seq ?_
            refine T.region ?_
            refine T.move .list rfl (wants0 rfl) rfl rfl ?_
            refine T.bin .list rfl (wants0 rfl) rfl rfl rfl rfl ?_
            refine T.nil ?_
            refine T.then_normal ?_
            refine T.cond rfl (fun hb4 => ?_) (fun hb4 => ?_)
            ·replace hk8 := inv_posB hb4 hk8
             refine T.seq ?_
             refine T.region ?_
             refine T.move .list rfl (wants0 rfl) rfl rfl ?_
             refine T.move .list rfl (wants0 rfl) rfl rfl ?_
             refine T.bin .list rfl (wants0 rfl) rfl rfl rfl rfl ?_
             refine T.move .list rfl (wants0 rfl) rfl rfl ?_
             refine T.assign .list rfl (wants0 rfl) rfl rfl ?_
             refine T.assign .list rfl (wants0 rfl) rfl rfl ?_
             refine T.assign .list rfl (wants0 rfl) rfl rfl ?_
             refine T.nil ?_
             refine T.then_normal ?_
             refine T.exit ?_
             refine T.then_exit ?_
             refine T.in_hit ?_
             refine T.then_normal ?_
             exact T.le (EnvLe.cons rfl (EnvLe.cons rfl (EnvLe.cons rfl (EnvLe.cons rfl (EnvLe.cons rfl (EnvLe.cons rfl (EnvLe.cons rfl (EnvLe.cons rfl EnvLe.nil)))))))) (T.pick [0, 1, 2, 3, 4, 5, 6, 7] 8 rfl rfl (Nat.le_add_left _ _) rfl (J5 (s9.1, s9.2.1, s9.2.2.1, s9.2.2.2.1, s9.2.2.2.2.1, s9.2.2.2.2.2.1, s9.2.2.2.2.2.2.1, s9.2.2.2.2.2.2.2.1, s9.2.2.2.2.2.2.2.2.1, s9.2.2.2.2.2.2.2.2.2.1, s9.2.2.2.2.2.2.2.2.2.2.1, s9.2.2.2.2.2.2.2.2.2.2.2.1, s9.2.2.2.2.2.2.2.2.2.2.2.2.1, s9.2.2.2.2.2.2.2.2.2.2.2.2.2.1, r4.1, IntKind.i64.wrap (s4.2.2.2.2.2.2.2.2.2.2.2.2.2.2.2.1 + 1), subl (((l0).getD (s4.2.2.2.2.2.2.2.2.2.2.2.2.2.2.2.2.2 : Int).toNat default)) 0 (min (((((l0).getD (s4.2.2.2.2.2.2.2.2.2.2.2.2.2.2.2.2.2 : Int).toNat default)).length : Int)) 200)) ((x17.1.1, x17.1.2), x17.2, x9.2.2.1, x9.2.2.2) hk8))
            ·replace hk8 := inv_negB hb4 hk8
             refine T.skip ?_
             refine T.then_normal ?_
             refine T.seq ?_
             refine T.seq ?_
             refine T.region ?_
             refine T.move .list rfl (wants0 rfl) rfl rfl ?_
             refine T.pick [2, 3, 4, 5, 0, 1, 6, 7] 8 rfl rfl (Nat.le_add_left _ _) (hs' := Cl x2.1 68 [.int .i64 s9.1, .map (some x2.2.1), .slice x17.1.1 s9.2.2.1.length x17.1.2, .bool s9.2.2.2.1, .int .i64 s9.2.2.2.2.1, .int .i64 s9.2.2.2.2.2.1, .int .u64 s9.2.2.2.2.2.2.1, .int .i64 s9.2.2.2.2.2.2.2.1, .int .i64 s9.2.2.2.2.2.2.2.2.1] :: Mp (Elt.slice E8) x2.2.1 s9.2.1 :: Hb 82 x17.1.1 x17.1.2 x17.2 s9.2.2.1 :: Bb 5 x17.2 s9.2.2.1 :: Ro (Elt.slice E8) A0 c0 l0 :: Ro (Elt.pair E64 (Elt.pair EU64 (Elt.pair E64 E64))) A1 c1 l1 :: Cl x9.2.2.1 45 [.int .i64 s9.2.2.2.2.2.2.2.2.2.1, .map (some x9.2.2.2), .pointer (some ⟨x2.1, 0, none⟩), .int .i64 s9.2.2.2.2.2.2.2.2.2.2.2.1, .int .u64 s9.2.2.2.2.2.2.2.2.2.2.2.2.1, .int .i64 s9.2.2.2.2.2.2.2.2.2.2.2.2.2.1] :: Mp E64 x9.2.2.2 s9.2.2.2.2.2.2.2.2.2.2.1 :: hs) rfl ?_
             obtain ⟨r5, hg5, hk8⟩ := inv_bind hk8
             refine T.call .list (wants0 rfl) rfl (run_callF (vs := [_]) rfl Try.func23 rfl (by decide) rfl) (fun w hS => disk_Disk_Down.c hS (o0 := (s9.1, s9.2.2.2.1, s9.2.2.2.2.1, s9.2.2.2.2.2.1, s9.2.2.2.2.2.2.1, s9.2.2.2.2.2.2.2.1, s9.2.2.2.2.2.2.2.2.1)) (q0b := s9.2.1) (q0c := s9.2.2.1)  hg5) (fun x18 => ?_)
             refine T.not .list rfl (wants0 rfl) rfl rfl ?_
             refine T.nil ?_
             refine T.then_normal ?_
             refine T.cond rfl (fun hb5 => ?_) (fun hb5 => ?_)
             ·replace hk8 := inv_posB hb5 hk8
              refine T.seq ?_
              refine T.region ?_
              refine T.assign .list rfl (wants0 rfl) rfl rfl ?_
              refine T.nil ?_
              refine T.then_normal ?_
              refine T.ret ?_
              refine T.then_ret ?_
              refine T.in_ret ?_
              refine T.then_ret ?_
              refine T.then_ret ?_
              obtain rfl := inv_some hk8
              obtain rfl := hx1 _ rfl
              refine T.in_ret ?_
              refine T.then_ret ?_
              obtain rfl := inv_some hk2
              refine T.pick [] 8 rfl rfl (Nat.le_add_left _ _) rfl ?_
              refine T.ret1 rfl rfl (fun w hS => ⟨(), rfl, hS⟩)
             ·replace hk8 := inv_negB hb5 hk8
              refine T.skip ?_
              refine T.then_normal ?_
              refine T.seq ?_
              refine T.region ?_
              refine T.move .list rfl (wants0 rfl) rfl rfl ?_
              refine T.pick [0, 1, 2, 3, 4, 5, 6, 7] 8 rfl rfl (Nat.le_add_left _ _) (hs' := Cl x2.1 68 [.int .i64 s9.1, .map (some x2.2.1), .slice x17.1.1 s9.2.2.1.length x17.1.2, .bool s9.2.2.2.1, .int .i64 s9.2.2.2.2.1, .int .i64 s9.2.2.2.2.2.1, .int .u64 s9.2.2.2.2.2.2.1, .int .i64 s9.2.2.2.2.2.2.2.1, .int .i64 s9.2.2.2.2.2.2.2.2.1] :: Mp (Elt.slice E8) x2.2.1 s9.2.1 :: Hb 82 x17.1.1 x17.1.2 x17.2 s9.2.2.1 :: Bb 5 x17.2 s9.2.2.1 :: Ro (Elt.slice E8) A0 c0 l0 :: Ro (Elt.pair E64 (Elt.pair EU64 (Elt.pair E64 E64))) A1 c1 l1 :: Cl x9.2.2.1 45 [.int .i64 s9.2.2.2.2.2.2.2.2.2.1, .map (some x9.2.2.2), .pointer (some ⟨x2.1, 0, none⟩), .int .i64 s9.2.2.2.2.2.2.2.2.2.2.2.1, .int .u64 s9.2.2.2.2.2.2.2.2.2.2.2.2.1, .int .i64 s9.2.2.2.2.2.2.2.2.2.2.2.2.2.1] :: Mp E64 x9.2.2.2 s9.2.2.2.2.2.2.2.2.2.2.1 :: hs) rfl ?_
              obtain ⟨r6, hg6, hk8⟩ := inv_bind hk8
              refine T.call .list (wants0 rfl) rfl (run_callF (vs := [_]) rfl Try.func20 rfl (by decide) rfl) (fun w hS => disk_Disk_Restart.c hS (o0 := (s9.1, s9.2.2.2.1, s9.2.2.2.2.1, s9.2.2.2.2.2.1, s9.2.2.2.2.2.2.1, s9.2.2.2.2.2.2.2.1, s9.2.2.2.2.2.2.2.2.1)) (q0b := s9.2.1) (q0c := s9.2.2.1)  hg6) (fun x19 => ?_)
              refine T.nil ?_
              refine T.then_normal ?_
              refine T.seq ?_
              refine T.region ?_
              refine T.move .list rfl (wants0 rfl) rfl rfl ?_
              obtain ⟨r7, hg7, hk8⟩ := inv_bind hk8
              rcases r7 with ⟨_ | r7p0, r7p1⟩
              ·dsimp only at hk8
               refine T.pick [0, 1, 2, 3, 4, 5, 6, 7] 8 rfl rfl (Nat.le_add_left _ _) (hs' := Cl x2.1 68 [.int .i64 r6.1, .map (some x2.2.1), .slice x17.1.1 s9.2.2.1.length x17.1.2, .bool r6.2.1, .int .i64 r6.2.2.1, .int .i64 r6.2.2.2.1, .int .u64 r6.2.2.2.2.1, .int .i64 r6.2.2.2.2.2.1, .int .i64 r6.2.2.2.2.2.2] :: Mp (Elt.slice E8) x2.2.1 s9.2.1 :: Hb 82 x17.1.1 x17.1.2 x17.2 s9.2.2.1 :: Bb 5 x17.2 s9.2.2.1 :: Ro (Elt.slice E8) A0 c0 l0 :: Ro (Elt.pair E64 (Elt.pair EU64 (Elt.pair E64 E64))) A1 c1 l1 :: Cl x9.2.2.1 45 [.int .i64 s9.2.2.2.2.2.2.2.2.2.1, .map (some x9.2.2.2), .pointer (some ⟨x2.1, 0, none⟩), .int .i64 s9.2.2.2.2.2.2.2.2.2.2.2.1, .int .u64 s9.2.2.2.2.2.2.2.2.2.2.2.2.1, .int .i64 s9.2.2.2.2.2.2.2.2.2.2.2.2.2.1] :: Mp E64 x9.2.2.2 s9.2.2.2.2.2.2.2.2.2.2.1 :: hs) rfl ?_
               refine T.call (v := fun (x20 : (Nat) × (Nat)) => .tuple #[.pointer none, .int .i64 r7p1]) (hs' := fun x20 => Cl x2.1 68 [.int .i64 r6.1, .map (some x2.2.1), .slice x17.1.1 s9.2.2.1.length x17.1.2, .bool r6.2.1, .int .i64 r6.2.2.1, .int .i64 r6.2.2.2.1, .int .u64 r6.2.2.2.2.1, .int .i64 r6.2.2.2.2.2.1, .int .i64 r6.2.2.2.2.2.2] :: Mp (Elt.slice E8) x2.2.1 s9.2.1 :: Hb 82 x17.1.1 x17.1.2 x17.2 s9.2.2.1 :: Bb 5 x17.2 s9.2.2.1 :: Ro (Elt.slice E8) A0 c0 l0 :: Ro (Elt.pair E64 (Elt.pair EU64 (Elt.pair E64 E64))) A1 c1 l1 :: Cl x9.2.2.1 45 [.int .i64 s9.2.2.2.2.2.2.2.2.2.1, .map (some x9.2.2.2), .pointer (some ⟨x2.1, 0, none⟩), .int .i64 s9.2.2.2.2.2.2.2.2.2.2.2.1, .int .u64 s9.2.2.2.2.2.2.2.2.2.2.2.2.1, .int .i64 s9.2.2.2.2.2.2.2.2.2.2.2.2.2.1] :: Mp E64 x9.2.2.2 s9.2.2.2.2.2.2.2.2.2.2.1 :: hs) .list (wants0 rfl) rfl (run_callF (vs := [_]) rfl Try.func8 rfl (by decide) rfl) (fun w hS => page_Open.c hS (o0 := (r6.1, r6.2.1, r6.2.2.1, r6.2.2.2.1, r6.2.2.2.2.1, r6.2.2.2.2.2.1, r6.2.2.2.2.2.2)) (q0b := s9.2.1) (q0c := s9.2.2.1)  hg7) (fun x20 => ?_)
               refine T.move .list rfl (wants0 rfl) rfl rfl ?_
               refine T.extract .list rfl (wants0 rfl) rfl rfl rfl ?_
               refine T.extract .list rfl (wants0 rfl) rfl rfl rfl ?_
               refine T.assign .list rfl (wants0 rfl) rfl rfl ?_
               refine T.assign .list rfl (wants0 rfl) rfl rfl ?_
               refine T.nil ?_
               refine T.then_normal ?_
               refine T.seq ?_
               refine T.seqJ (fun (s10 : Unit) (x21 : Unit) => [(0, .slice A0 l0.length c0), (1, .slice A1 l1.length c1), (5, .pointer (some ⟨x2.1, 0, none⟩)), (7, .pointer none), (9, .int .i64 s4.2.2.2.2.2.2.2.2.2.2.2.2.2.2.1), (10, .int .i64 s4.2.2.2.2.2.2.2.2.2.2.2.2.2.2.2.1), (11, str s4.2.2.2.2.2.2.2.2.2.2.2.2.2.2.2.2.1), (12, .int .i64 s4.2.2.2.2.2.2.2.2.2.2.2.2.2.2.2.2.2), (13, str (subl (((l0).getD (s4.2.2.2.2.2.2.2.2.2.2.2.2.2.2.2.2.2 : Int).toNat default)) 0 (min (((((l0).getD (s4.2.2.2.2.2.2.2.2.2.2.2.2.2.2.2.2.2 : Int).toNat default)).length : Int)) 200))), (109, .bool true)]) (fun s10 x21 => Ro (Elt.slice E8) A0 c0 l0 :: Ro (Elt.pair E64 (Elt.pair EU64 (Elt.pair E64 E64))) A1 c1 l1 :: Cl x2.1 68 [.int .i64 r6.1, .map (some x2.2.1), .slice x17.1.1 s9.2.2.1.length x17.1.2, .bool r6.2.1, .int .i64 r6.2.2.1, .int .i64 r6.2.2.2.1, .int .u64 r6.2.2.2.2.1, .int .i64 r6.2.2.2.2.2.1, .int .i64 r6.2.2.2.2.2.2] :: Mp (Elt.slice E8) x2.2.1 s9.2.1 :: Hb 82 x17.1.1 x17.1.2 x17.2 s9.2.2.1 :: Bb 5 x17.2 s9.2.2.1 :: hs) (fun s10 => law4_PageKeeps.k9 s10 = some o1) (fun s10 x21 hk9 => ?_) (fun J9 => ?_)
               ·unfold law4_PageKeeps.k9 at hk9
                refine T.condT rfl rfl ?_
                refine T.seq ?_
                refine T.region ?_
                refine T.assign .list rfl (wants0 rfl) rfl rfl ?_
                refine T.nil ?_
                refine T.then_normal ?_
                refine T.ret ?_
                refine T.then_ret ?_
                refine T.in_ret ?_
                refine T.then_ret ?_
                refine T.then_ret ?_
                obtain rfl := inv_some hk9
                obtain rfl := hx1 _ rfl
                refine T.in_ret ?_
                refine T.then_ret ?_
                obtain rfl := inv_some hk2
                refine T.pick [] 6 rfl rfl (Nat.le_add_left _ _) rfl ?_
                refine T.ret1 rfl rfl (fun w hS => ⟨(), rfl, hS⟩)
               ·refine T.region ?_
                refine T.move .list rfl (wants0 rfl) rfl rfl ?_
                refine T.bin .list rfl (wants0 rfl) rfl rfl rfl rfl ?_
                refine T.move .list rfl (wants0 rfl) rfl rfl ?_
                refine T.bool (b := (decide (r7p1 = 0))) (fun hb6 => ?_) (fun hb6 => ?_)
                ·replace hk8 := inv_posB hb6 hk8
                 refine T.move .list rfl (wants1 rfl rfl rfl (not_t hb6)) rfl rfl ?_
                 refine T.ptrEq (pt := 45) .list rfl (wants1 rfl rfl rfl (not_t hb6)) rfl rfl rfl (by kernel_rfl) (.inr rfl) rfl ?_
                 refine T.pickF .list rfl (wants0 rfl) rfl rfl (not_t hb6) rfl ?_
                 refine T.nil ?_
                 refine T.then_normal ?_
                 exact T.le (EnvLe.cons rfl (EnvLe.cons rfl (EnvLe.cons rfl (EnvLe.cons rfl (EnvLe.cons rfl (EnvLe.cons rfl (EnvLe.cons rfl (EnvLe.cons rfl (EnvLe.cons rfl (EnvLe.cons rfl EnvLe.nil)))))))))) (T.pick [4, 5, 0, 1, 2, 3] 8 rfl rfl (Nat.le_add_left _ _) rfl (J9 () () hk8))
                ·replace hk8 := inv_negB hb6 hk8
                 refine T.leave .list (wantsNot rfl rfl rfl (not_f hb6)) rfl ?_
                 refine T.leave .list (wantsNot rfl rfl rfl (not_f hb6)) rfl ?_
                 refine T.pickT .list rfl (wants0 rfl) rfl rfl (not_f hb6) rfl ?_
                 refine T.nil ?_
                 refine T.then_normal ?_
                 exact T.le (EnvLe.cons rfl (EnvLe.cons rfl (EnvLe.cons rfl (EnvLe.cons rfl (EnvLe.cons rfl (EnvLe.cons rfl (EnvLe.cons rfl (EnvLe.cons rfl (EnvLe.cons rfl (EnvLe.cons rfl EnvLe.nil)))))))))) (T.pick [4, 5, 0, 1, 2, 3] 8 rfl rfl (Nat.le_add_left _ _) rfl (J9 () () hk8))
              ·dsimp only at hk8
               refine T.pick [0, 1, 2, 3, 4, 5, 6, 7] 8 rfl rfl (Nat.le_add_left _ _) (hs' := Cl x2.1 68 [.int .i64 r6.1, .map (some x2.2.1), .slice x17.1.1 s9.2.2.1.length x17.1.2, .bool r6.2.1, .int .i64 r6.2.2.1, .int .i64 r6.2.2.2.1, .int .u64 r6.2.2.2.2.1, .int .i64 r6.2.2.2.2.2.1, .int .i64 r6.2.2.2.2.2.2] :: Mp (Elt.slice E8) x2.2.1 s9.2.1 :: Hb 82 x17.1.1 x17.1.2 x17.2 s9.2.2.1 :: Bb 5 x17.2 s9.2.2.1 :: Ro (Elt.slice E8) A0 c0 l0 :: Ro (Elt.pair E64 (Elt.pair EU64 (Elt.pair E64 E64))) A1 c1 l1 :: Cl x9.2.2.1 45 [.int .i64 s9.2.2.2.2.2.2.2.2.2.1, .map (some x9.2.2.2), .pointer (some ⟨x2.1, 0, none⟩), .int .i64 s9.2.2.2.2.2.2.2.2.2.2.2.1, .int .u64 s9.2.2.2.2.2.2.2.2.2.2.2.2.1, .int .i64 s9.2.2.2.2.2.2.2.2.2.2.2.2.2.1] :: Mp E64 x9.2.2.2 s9.2.2.2.2.2.2.2.2.2.2.1 :: hs) rfl ?_
               refine T.call (v := fun (x22 : (Nat) × (Nat)) => .tuple #[.pointer (some ⟨x22.1, 0, none⟩), .int .i64 r7p1]) (hs' := fun x22 => Cl x2.1 68 [.int .i64 r6.1, .map (some x2.2.1), .slice x17.1.1 s9.2.2.1.length x17.1.2, .bool r6.2.1, .int .i64 r6.2.2.1, .int .i64 r6.2.2.2.1, .int .u64 r6.2.2.2.2.1, .int .i64 r6.2.2.2.2.2.1, .int .i64 r6.2.2.2.2.2.2] :: Mp (Elt.slice E8) x2.2.1 s9.2.1 :: Hb 82 x17.1.1 x17.1.2 x17.2 s9.2.2.1 :: Bb 5 x17.2 s9.2.2.1 :: Cl x22.1 45 [.int .i64 r7p0.1.1, .map (some x22.2), .pointer (some ⟨x2.1, 0, none⟩), .int .i64 r7p0.1.2.1, .int .u64 r7p0.1.2.2.1, .int .i64 r7p0.1.2.2.2] :: Mp E64 x22.2 r7p0.2 :: Ro (Elt.slice E8) A0 c0 l0 :: Ro (Elt.pair E64 (Elt.pair EU64 (Elt.pair E64 E64))) A1 c1 l1 :: Cl x9.2.2.1 45 [.int .i64 s9.2.2.2.2.2.2.2.2.2.1, .map (some x9.2.2.2), .pointer (some ⟨x2.1, 0, none⟩), .int .i64 s9.2.2.2.2.2.2.2.2.2.2.2.1, .int .u64 s9.2.2.2.2.2.2.2.2.2.2.2.2.1, .int .i64 s9.2.2.2.2.2.2.2.2.2.2.2.2.2.1] :: Mp E64 x9.2.2.2 s9.2.2.2.2.2.2.2.2.2.2.1 :: hs) .list (wants0 rfl) rfl (run_callF (vs := [_]) rfl Try.func8 rfl (by decide) rfl) (fun w hS => page_Open.c hS (o0 := (r6.1, r6.2.1, r6.2.2.1, r6.2.2.2.1, r6.2.2.2.2.1, r6.2.2.2.2.2.1, r6.2.2.2.2.2.2)) (q0b := s9.2.1) (q0c := s9.2.2.1)  hg7) (fun x22 => ?_)
               refine T.move .list rfl (wants0 rfl) rfl rfl ?_
               refine T.extract .list rfl (wants0 rfl) rfl rfl rfl ?_
               refine T.extract .list rfl (wants0 rfl) rfl rfl rfl ?_
               refine T.assign .list rfl (wants0 rfl) rfl rfl ?_
               refine T.assign .list rfl (wants0 rfl) rfl rfl ?_
               refine T.nil ?_
               refine T.then_normal ?_
               refine T.seq ?_
               refine T.seqJ (fun (s11 : Bool) (x23 : Unit) => [(0, .slice A0 l0.length c0), (1, .slice A1 l1.length c1), (5, .pointer (some ⟨x2.1, 0, none⟩)), (7, .pointer (some ⟨x22.1, 0, none⟩)), (9, .int .i64 s4.2.2.2.2.2.2.2.2.2.2.2.2.2.2.1), (10, .int .i64 s4.2.2.2.2.2.2.2.2.2.2.2.2.2.2.2.1), (11, str s4.2.2.2.2.2.2.2.2.2.2.2.2.2.2.2.2.1), (12, .int .i64 s4.2.2.2.2.2.2.2.2.2.2.2.2.2.2.2.2.2), (13, str (subl (((l0).getD (s4.2.2.2.2.2.2.2.2.2.2.2.2.2.2.2.2.2 : Int).toNat default)) 0 (min (((((l0).getD (s4.2.2.2.2.2.2.2.2.2.2.2.2.2.2.2.2.2 : Int).toNat default)).length : Int)) 200))), (109, .bool s11)]) (fun s11 x23 => Ro (Elt.slice E8) A0 c0 l0 :: Ro (Elt.pair E64 (Elt.pair EU64 (Elt.pair E64 E64))) A1 c1 l1 :: Cl x2.1 68 [.int .i64 r6.1, .map (some x2.2.1), .slice x17.1.1 s9.2.2.1.length x17.1.2, .bool r6.2.1, .int .i64 r6.2.2.1, .int .i64 r6.2.2.2.1, .int .u64 r6.2.2.2.2.1, .int .i64 r6.2.2.2.2.2.1, .int .i64 r6.2.2.2.2.2.2] :: Mp (Elt.slice E8) x2.2.1 s9.2.1 :: Hb 82 x17.1.1 x17.1.2 x17.2 s9.2.2.1 :: Bb 5 x17.2 s9.2.2.1 :: Cl x22.1 45 [.int .i64 r7p0.1.1, .map (some x22.2), .pointer (some ⟨x2.1, 0, none⟩), .int .i64 r7p0.1.2.1, .int .u64 r7p0.1.2.2.1, .int .i64 r7p0.1.2.2.2] :: Mp E64 x22.2 r7p0.2 :: hs) (fun s11 => law4_PageKeeps.k10 r7p0 r6 s9 s4 l0 s11 = some o1) (fun s11 x23 hk10 => ?_) (fun J10 => ?_)
               ·unfold law4_PageKeeps.k10 at hk10
                refine T.cond rfl (fun hb7 => ?_) (fun hb7 => ?_)
                ·replace hk10 := inv_posB hb7 hk10
                 refine T.seq ?_
                 refine T.region ?_
                 refine T.assign .list rfl (wants0 rfl) rfl rfl ?_
                 refine T.nil ?_
                 refine T.then_normal ?_
                 refine T.ret ?_
                 refine T.then_ret ?_
                 refine T.in_ret ?_
                 refine T.then_ret ?_
                 refine T.then_ret ?_
                 obtain rfl := inv_some hk10
                 obtain rfl := hx1 _ rfl
                 refine T.in_ret ?_
                 refine T.then_ret ?_
                 obtain rfl := inv_some hk2
                 refine T.pick [] 8 rfl rfl (Nat.le_add_left _ _) rfl ?_
                 refine T.ret1 rfl rfl (fun w hS => ⟨(), rfl, hS⟩)
                ·replace hk10 := inv_negB hb7 hk10
                 refine T.skip ?_
                 refine T.then_normal ?_
                 refine T.seqJ (fun (s12 : Int × Int × List UInt8) (x24 : Unit) => [(0, .slice A0 l0.length c0), (1, .slice A1 l1.length c1), (5, .pointer (some ⟨x2.1, 0, none⟩)), (7, .pointer (some ⟨x22.1, 0, none⟩)), (9, .int .i64 s12.1), (10, .int .i64 s12.2.1), (11, str s12.2.2), (12, .int .i64 s4.2.2.2.2.2.2.2.2.2.2.2.2.2.2.2.2.2)]) (fun s12 x24 => Ro (Elt.slice E8) A0 c0 l0 :: Ro (Elt.pair E64 (Elt.pair EU64 (Elt.pair E64 E64))) A1 c1 l1 :: Cl x2.1 68 [.int .i64 r6.1, .map (some x2.2.1), .slice x17.1.1 s9.2.2.1.length x17.1.2, .bool r6.2.1, .int .i64 r6.2.2.1, .int .i64 r6.2.2.2.1, .int .u64 r6.2.2.2.2.1, .int .i64 r6.2.2.2.2.2.1, .int .i64 r6.2.2.2.2.2.2] :: Mp (Elt.slice E8) x2.2.1 s9.2.1 :: Hb 82 x17.1.1 x17.1.2 x17.2 s9.2.2.1 :: Bb 5 x17.2 s9.2.2.1 :: Cl x22.1 45 [.int .i64 r7p0.1.1, .map (some x22.2), .pointer (some ⟨x2.1, 0, none⟩), .int .i64 r7p0.1.2.1, .int .u64 r7p0.1.2.2.1, .int .i64 r7p0.1.2.2.2] :: Mp E64 x22.2 r7p0.2 :: hs) (fun s12 => law4_PageKeeps.k11 r7p0 r6 s9 s4 s12 = some o1) (fun s12 x24 hk11 => ?_) (fun J11 => ?_)
                 ·unfold law4_PageKeeps.k11 at hk11
                  refine T.seq ?_
                  refine T.region ?_
                  refine T.move .list rfl (wants0 rfl) rfl rfl ?_
                  refine T.bin .list rfl (wants0 rfl) rfl rfl rfl rfl ?_
                  refine T.nil ?_
                  refine T.then_normal ?_
                  refine T.cond rfl (fun hb8 => ?_) (fun hb8 => ?_)
                  ·replace hk11 := inv_posB hb8 hk11
                   refine T.seq ?_
                   refine T.region ?_
                   refine T.move .list rfl (wants0 rfl) rfl rfl ?_
                   refine T.move .list rfl (wants0 rfl) rfl rfl ?_
                   refine T.pick [6, 7, 2, 3, 4, 5, 0, 1] 8 rfl rfl (Nat.le_add_left _ _) (hs' := Cl x22.1 45 [.int .i64 r7p0.1.1, .map (some x22.2), .pointer (some ⟨x2.1, 0, none⟩), .int .i64 r7p0.1.2.1, .int .u64 r7p0.1.2.2.1, .int .i64 r7p0.1.2.2.2] :: Mp E64 x22.2 r7p0.2 :: Cl x2.1 68 [.int .i64 r6.1, .map (some x2.2.1), .slice x17.1.1 s9.2.2.1.length x17.1.2, .bool r6.2.1, .int .i64 r6.2.2.1, .int .i64 r6.2.2.2.1, .int .u64 r6.2.2.2.2.1, .int .i64 r6.2.2.2.2.2.1, .int .i64 r6.2.2.2.2.2.2] :: Mp (Elt.slice E8) x2.2.1 s9.2.1 :: Hb 82 x17.1.1 x17.1.2 x17.2 s9.2.2.1 :: Bb 5 x17.2 s9.2.2.1 :: Ro (Elt.slice E8) A0 c0 l0 :: Ro (Elt.pair E64 (Elt.pair EU64 (Elt.pair E64 E64))) A1 c1 l1 :: hs) rfl ?_
                   obtain ⟨r8, hg8, hk11⟩ := inv_bind hk11
                   refine T.call .list (wants0 rfl) rfl (run_callF (vs := [_, _]) rfl Try.func13 rfl (by decide) rfl) (fun w hS => page_Store_Get.c hS (o0 := (r7p0.1.1, r7p0.1.2.1, r7p0.1.2.2.1, r7p0.1.2.2.2)) (q0b := r7p0.2) (o0c := (r6.1, r6.2.1, r6.2.2.1, r6.2.2.2.1, r6.2.2.2.2.1, r6.2.2.2.2.2.1, r6.2.2.2.2.2.2)) (q0cb := s9.2.1) (q0cc := s9.2.2.1)  hg8) (fun x25 => ?_)
                   refine T.move .list rfl (wants0 rfl) rfl rfl ?_
                   refine T.extract .list rfl (wants0 rfl) rfl rfl rfl ?_
                   refine T.extract .list rfl (wants0 rfl) rfl rfl rfl ?_
                   refine T.assign .list rfl (wants0 rfl) rfl rfl ?_
                   refine T.assign .list rfl (wants0 rfl) rfl rfl ?_
                   refine T.nil ?_
                   refine T.then_normal ?_
                   refine T.seqJ (fun (s13 : (List (Int × Int)) × Bool) (x26 : Unit) => [(0, .slice A0 l0.length c0), (1, .slice A1 l1.length c1), (5, .pointer (some ⟨x2.1, 0, none⟩)), (7, .pointer (some ⟨x22.1, 0, none⟩)), (9, .int .i64 s12.1), (10, .int .i64 s12.2.1), (11, str s12.2.2), (12, .int .i64 s4.2.2.2.2.2.2.2.2.2.2.2.2.2.2.2.2.2), (150, .bool s13.2)]) (fun s13 x26 => Ro (Elt.slice E8) A0 c0 l0 :: Ro (Elt.pair E64 (Elt.pair EU64 (Elt.pair E64 E64))) A1 c1 l1 :: Cl x2.1 68 [.int .i64 r6.1, .map (some x2.2.1), .slice x17.1.1 s9.2.2.1.length x17.1.2, .bool r6.2.1, .int .i64 r6.2.2.1, .int .i64 r6.2.2.2.1, .int .u64 r6.2.2.2.2.1, .int .i64 r6.2.2.2.2.2.1, .int .i64 r6.2.2.2.2.2.2] :: Mp (Elt.slice E8) x2.2.1 s9.2.1 :: Hb 82 x17.1.1 x17.1.2 x17.2 s9.2.2.1 :: Bb 5 x17.2 s9.2.2.1 :: Cl x22.1 45 [.int .i64 r7p0.1.1, .map (some x22.2), .pointer (some ⟨x2.1, 0, none⟩), .int .i64 r7p0.1.2.1, .int .u64 r7p0.1.2.2.1, .int .i64 r7p0.1.2.2.2] :: Mp E64 x22.2 s13.1 :: hs) (fun s13 => law4_PageKeeps.k12 s4 r6 s9 r7p0 s12 s13 = some o1) (fun s13 x26 hk12 => ?_) (fun J12 => ?_)
                   ·unfold law4_PageKeeps.k12 at hk12
                    refine T.cond rfl (fun hb9 => ?_) (fun hb9 => ?_)
                    ·replace hk12 := inv_posB hb9 hk12
                     refine T.seq ?_
                     refine T.region ?_
                     refine T.assign .list rfl (wants0 rfl) rfl rfl ?_
                     refine T.nil ?_
                     refine T.then_normal ?_
                     refine T.ret ?_
                     refine T.in_ret ?_
                     refine T.then_ret ?_
                     refine T.then_ret ?_
                     obtain rfl := inv_some hk12
                     obtain rfl := hx1 _ rfl
                     refine T.in_ret ?_
                     refine T.then_ret ?_
                     obtain rfl := inv_some hk2
                     refine T.pick [] 8 rfl rfl (Nat.le_add_left _ _) rfl ?_
                     refine T.ret1 rfl rfl (fun w hS => ⟨(), rfl, hS⟩)
                    ·replace hk12 := inv_negB hb9 hk12
                     refine T.skip ?_
                     refine T.in_normal ?_
                     refine T.then_normal ?_
                     exact T.le (EnvLe.cons rfl (EnvLe.cons rfl (EnvLe.cons rfl (EnvLe.cons rfl (EnvLe.cons rfl (EnvLe.cons rfl (EnvLe.cons rfl (EnvLe.cons rfl EnvLe.nil)))))))) (T.pick [0, 1, 2, 3, 4, 5, 6, 7] 8 rfl rfl (Nat.le_add_left _ _) rfl (J5 (r6.1, s9.2.1, s9.2.2.1, r6.2.1, r6.2.2.1, r6.2.2.2.1, r6.2.2.2.2.1, r6.2.2.2.2.2.1, r6.2.2.2.2.2.2, r7p0.1.1, s13.1, r7p0.1.2.1, r7p0.1.2.2.1, r7p0.1.2.2.2, s12.1, s12.2.1, s12.2.2) ((x17.1.1, x17.1.2), x17.2, x22.1, x22.2) hk12))
                   ·refine T.region ?_
                    refine T.move .list rfl (wants0 rfl) rfl rfl ?_
                    refine T.bin .list rfl (wants0 rfl) rfl rfl rfl rfl ?_
                    refine T.move .list rfl (wants0 rfl) rfl rfl ?_
                    refine T.bool (b := (decide (r8.2 = 0))) (fun hb10 => ?_) (fun hb10 => ?_)
                    ·replace hk11 := inv_posB hb10 hk11
                     refine T.move .list rfl (wants1 rfl rfl rfl (not_t hb10)) rfl rfl ?_
                     refine T.strRo .list 0 rfl rfl (wants1 rfl rfl rfl (not_t hb10)) rfl rfl rfl ?_
                     refine T.move .list rfl (wants1 rfl rfl rfl (not_t hb10)) rfl rfl ?_
                     refine T.strNe .list rfl (wants1 rfl rfl rfl (not_t hb10)) rfl (l := r8.1) (l' := s12.2.2) rfl rfl ?_
                     refine T.pickF .list rfl (wants0 rfl) rfl rfl (not_t hb10) rfl ?_
                     refine T.move .list rfl (wants0 rfl) rfl rfl ?_
                     refine T.bool (b := (decide (r8.1 = s12.2.2))) (fun hb11 => ?_) (fun hb11 => ?_)
                     ·replace hk11 := inv_posB hb11 hk11
                      refine T.move .list rfl (wants1 rfl rfl rfl (not_t hb11)) rfl rfl ?_
                      refine T.move .list rfl (wants1 rfl rfl rfl (not_t hb11)) rfl rfl ?_
                      refine T.lit (E := E64) .list (vals := [(0, .int .i64 s12.1)]) (cells := #[.int .i64 s12.1]) rfl (wants1 rfl rfl rfl (not_t hb11)) rfl rfl rfl rfl rfl (by kernel_rfl) ([s12.1] : List Int) rfl (fun _ _ _ _ _ => (Encs.c1 (enc := (Value.int .i64)) (h1 := fun _ => rfl) rfl rfl)) (fun b1 => ?_)
                      refine T.freeze 0 rfl rfl rfl ?_
                      refine T.pick [2, 3, 4, 5, 6, 7, 0, 1, 8, 9] 10 rfl rfl (Nat.le_add_left _ _) (hs' := Cl x22.1 45 [.int .i64 r7p0.1.1, .map (some x22.2), .pointer (some ⟨x2.1, 0, none⟩), .int .i64 r7p0.1.2.1, .int .u64 r7p0.1.2.2.1, .int .i64 r7p0.1.2.2.2] :: Mp E64 x22.2 r7p0.2 :: Cl x2.1 68 [.int .i64 r6.1, .map (some x2.2.1), .slice x17.1.1 s9.2.2.1.length x17.1.2, .bool r6.2.1, .int .i64 r6.2.2.1, .int .i64 r6.2.2.2.1, .int .u64 r6.2.2.2.2.1, .int .i64 r6.2.2.2.2.2.1, .int .i64 r6.2.2.2.2.2.2] :: Mp (Elt.slice E8) x2.2.1 s9.2.1 :: Hb 82 x17.1.1 x17.1.2 x17.2 s9.2.2.1 :: Bb 5 x17.2 s9.2.2.1 :: Ro E64 (some ⟨b1, 0, none⟩) 1 (([s12.1] : List Int)) :: Ro E8 x25.1 x25.2 r8.1 :: Ro (Elt.slice E8) A0 c0 l0 :: Ro (Elt.pair E64 (Elt.pair EU64 (Elt.pair E64 E64))) A1 c1 l1 :: hs) rfl ?_
                      obtain ⟨r9, hg9, hk11⟩ := inv_bind hk11
                      refine T.call .list (wants1 rfl rfl rfl (not_t hb11)) rfl (run_callF (vs := [_, _]) rfl Try.func18 rfl (by decide) rfl) (fun w hS => page_Store_Hold.c hS (i1 := 6) (o0 := (r7p0.1.1, r7p0.1.2.1, r7p0.1.2.2.1, r7p0.1.2.2.2)) (q0b := r7p0.2) (o0c := (r6.1, r6.2.1, r6.2.2.1, r6.2.2.2.1, r6.2.2.2.2.1, r6.2.2.2.2.2.1, r6.2.2.2.2.2.2)) (q0cb := s9.2.1) (q0cc := s9.2.2.1) rfl hg9) (fun x27 => ?_)
                      refine T.bin .list rfl (wants1 rfl rfl rfl (not_t hb11)) rfl rfl rfl rfl ?_
                      refine T.pickF .list rfl (wants0 rfl) rfl rfl (not_t hb11) rfl ?_
                      refine T.nil ?_
                      refine T.then_normal ?_
                      exact T.le (EnvLe.cons rfl (EnvLe.cons rfl (EnvLe.cons rfl (EnvLe.cons rfl (EnvLe.cons rfl (EnvLe.cons rfl (EnvLe.cons rfl (EnvLe.cons rfl (EnvLe.cons rfl EnvLe.nil))))))))) (T.pick [8, 9, 2, 3, 4, 5, 0, 1] 10 rfl rfl (Nat.le_add_left _ _) rfl (J12 (r9.2, (!(decide (r9.1 = 0)))) () hk11))
                     ·replace hk11 := inv_negB hb11 hk11
                      refine T.leave .list (wantsNot rfl rfl rfl (not_f hb11)) rfl ?_
                      refine T.leave .list (wantsNot rfl rfl rfl (not_f hb11)) rfl ?_
                      refine T.leave .list (wantsNot rfl rfl rfl (not_f hb11)) rfl ?_
                      refine T.leave .list (wantsNot rfl rfl rfl (not_f hb11)) rfl ?_
                      refine T.leave .list (wantsNot rfl rfl rfl (not_f hb11)) rfl ?_
                      refine T.pickT .list rfl (wants0 rfl) rfl rfl (not_f hb11) rfl ?_
                      refine T.nil ?_
                      refine T.then_normal ?_
                      exact T.le (EnvLe.cons rfl (EnvLe.cons rfl (EnvLe.cons rfl (EnvLe.cons rfl (EnvLe.cons rfl (EnvLe.cons rfl (EnvLe.cons rfl (EnvLe.cons rfl (EnvLe.cons rfl EnvLe.nil))))))))) (T.pick [7, 8, 3, 4, 5, 6, 1, 2] 9 rfl rfl (Nat.le_add_left _ _) rfl (J12 (r7p0.2, true) () hk11))
                    ·replace hk11 := inv_negB hb10 hk11
                     refine T.leave .list (wantsNot rfl rfl rfl (not_f hb10)) rfl ?_
                     refine T.leave .list (wantsNot rfl rfl rfl (not_f hb10)) rfl ?_
                     refine T.leave .list (wantsNot rfl rfl rfl (not_f hb10)) rfl ?_
                     refine T.leave .list (wantsNot rfl rfl rfl (not_f hb10)) rfl ?_
                     refine T.pickT .list rfl (wants0 rfl) rfl rfl (not_f hb10) rfl ?_
                     refine T.move .list rfl (wants0 rfl) rfl rfl ?_
                     refine T.leave .list (wantsNot rfl rfl rfl rfl) rfl ?_
                     refine T.leave .list (wantsNot rfl rfl rfl rfl) rfl ?_
                     refine T.leave .list (wantsNot rfl rfl rfl rfl) rfl ?_
                     refine T.leave .list (wantsNot rfl rfl rfl rfl) rfl ?_
                     refine T.leave .list (wantsNot rfl rfl rfl rfl) rfl ?_
                     refine T.pickT .list rfl (wants0 rfl) rfl rfl rfl rfl ?_
                     refine T.nil ?_
                     refine T.then_normal ?_
                     exact T.le (EnvLe.cons rfl (EnvLe.cons rfl (EnvLe.cons rfl (EnvLe.cons rfl (EnvLe.cons rfl (EnvLe.cons rfl (EnvLe.cons rfl (EnvLe.cons rfl (EnvLe.cons rfl EnvLe.nil))))))))) (T.pick [7, 8, 3, 4, 5, 6, 1, 2] 9 rfl rfl (Nat.le_add_left _ _) rfl (J12 (r7p0.2, true) () hk11))
                  ·replace hk11 := inv_negB hb8 hk11
                   refine T.skip ?_
                   refine T.in_normal ?_
                   refine T.then_normal ?_
                   exact T.le (EnvLe.cons rfl (EnvLe.cons rfl (EnvLe.cons rfl (EnvLe.cons rfl (EnvLe.cons rfl (EnvLe.cons rfl (EnvLe.cons rfl (EnvLe.cons rfl EnvLe.nil)))))))) (T.pick [0, 1, 2, 3, 4, 5, 6, 7] 8 rfl rfl (Nat.le_add_left _ _) rfl (J5 (r6.1, s9.2.1, s9.2.2.1, r6.2.1, r6.2.2.1, r6.2.2.2.1, r6.2.2.2.2.1, r6.2.2.2.2.2.1, r6.2.2.2.2.2.2, r7p0.1.1, r7p0.2, r7p0.1.2.1, r7p0.1.2.2.1, r7p0.1.2.2.2, s12.1, s12.2.1, s12.2.2) ((x17.1.1, x17.1.2), x17.2, x22.1, x22.2) hk11))
                 ·refine T.seq ?_
                  refine T.region ?_
                  refine T.move .list rfl (wants0 rfl) rfl rfl ?_
                  refine T.pick [6, 7, 2, 3, 4, 5, 0, 1] 8 rfl rfl (Nat.le_add_left _ _) (hs' := Cl x22.1 45 [.int .i64 r7p0.1.1, .map (some x22.2), .pointer (some ⟨x2.1, 0, none⟩), .int .i64 r7p0.1.2.1, .int .u64 r7p0.1.2.2.1, .int .i64 r7p0.1.2.2.2] :: Mp E64 x22.2 r7p0.2 :: Cl x2.1 68 [.int .i64 r6.1, .map (some x2.2.1), .slice x17.1.1 s9.2.2.1.length x17.1.2, .bool r6.2.1, .int .i64 r6.2.2.1, .int .i64 r6.2.2.2.1, .int .u64 r6.2.2.2.2.1, .int .i64 r6.2.2.2.2.2.1, .int .i64 r6.2.2.2.2.2.2] :: Mp (Elt.slice E8) x2.2.1 s9.2.1 :: Hb 82 x17.1.1 x17.1.2 x17.2 s9.2.2.1 :: Bb 5 x17.2 s9.2.2.1 :: Ro (Elt.slice E8) A0 c0 l0 :: Ro (Elt.pair E64 (Elt.pair EU64 (Elt.pair E64 E64))) A1 c1 l1 :: hs) rfl ?_
                  obtain ⟨r10, hg10, hk10⟩ := inv_bind hk10
                  refine T.call .list (wants0 rfl) rfl (run_callF (vs := [_]) rfl Try.func15 rfl (by decide) rfl) (fun w hS => page_Store_Number.c hS (o0 := (r7p0.1.1, r7p0.1.2.1, r7p0.1.2.2.1, r7p0.1.2.2.2)) (q0b := r7p0.2) (o0c := (r6.1, r6.2.1, r6.2.2.1, r6.2.2.2.1, r6.2.2.2.2.1, r6.2.2.2.2.2.1, r6.2.2.2.2.2.2)) (q0cb := s9.2.1) (q0cc := s9.2.2.1)  hg10) (fun x28 => ?_)
                  refine T.nil ?_
                  refine T.then_normal ?_
                  refine T.block ?_
                  refine T.seq ?_
                  refine T.region ?_
                  refine T.move .list rfl (wants0 rfl) rfl rfl ?_
                  refine T.bin .list rfl (wants0 rfl) rfl rfl rfl rfl ?_
                  refine T.assign .list rfl (wants0 rfl) rfl rfl ?_
                  refine T.nil ?_
                  refine T.then_normal ?_
                  refine T.cond rfl (fun hb12 => ?_) (fun hb12 => ?_)
                  ·replace hk10 := inv_posB hb12 hk10
                   refine T.seq ?_
                   refine T.region ?_
                   refine T.move .list rfl (wants0 rfl) rfl rfl ?_
                   refine T.pick [0, 1, 2, 3, 4, 5, 6, 7] 8 rfl rfl (Nat.le_add_left _ _) (hs' := Cl x22.1 45 [.int .i64 r7p0.1.1, .map (some x22.2), .pointer (some ⟨x2.1, 0, none⟩), .int .i64 r7p0.1.2.1, .int .u64 r7p0.1.2.2.1, .int .i64 r7p0.1.2.2.2] :: Mp E64 x22.2 r7p0.2 :: Cl x2.1 68 [.int .i64 r6.1, .map (some x2.2.1), .slice x17.1.1 s9.2.2.1.length x17.1.2, .bool r6.2.1, .int .i64 r6.2.2.1, .int .i64 r6.2.2.2.1, .int .u64 r6.2.2.2.2.1, .int .i64 r6.2.2.2.2.2.1, .int .i64 r6.2.2.2.2.2.2] :: Mp (Elt.slice E8) x2.2.1 s9.2.1 :: Hb 82 x17.1.1 x17.1.2 x17.2 s9.2.2.1 :: Bb 5 x17.2 s9.2.2.1 :: Ro (Elt.slice E8) A0 c0 l0 :: Ro (Elt.pair E64 (Elt.pair EU64 (Elt.pair E64 E64))) A1 c1 l1 :: hs) rfl ?_
                   obtain ⟨r11, hg11, hk10⟩ := inv_bind hk10
                   refine T.call .list (wants0 rfl) rfl (run_callF (vs := [_]) rfl Try.func21 rfl (by decide) rfl) (fun w hS => page_Store_Root.c hS (o0 := (r7p0.1.1, r7p0.1.2.1, r7p0.1.2.2.1, r7p0.1.2.2.2)) (q0b := r7p0.2) (o0c := (r6.1, r6.2.1, r6.2.2.1, r6.2.2.2.1, r6.2.2.2.2.1, r6.2.2.2.2.2.1, r6.2.2.2.2.2.2)) (q0cb := s9.2.1) (q0cc := s9.2.2.1)  hg11) (fun x29 => ?_)
                   refine T.move .list rfl (wants0 rfl) rfl rfl ?_
                   refine T.bin .list rfl (wants0 rfl) rfl rfl rfl rfl ?_
                   refine T.nil ?_
                   refine T.then_normal ?_
                   refine T.cond rfl (fun hb13 => ?_) (fun hb13 => ?_)
                   ·replace hk10 := inv_posB hb13 hk10
                    refine T.seq ?_
                    refine T.region ?_
                    refine T.assign .list rfl (wants0 rfl) rfl rfl ?_
                    refine T.nil ?_
                    refine T.then_normal ?_
                    refine T.ret ?_
                    refine T.in_ret ?_
                    refine T.then_ret ?_
                    refine T.in_ret ?_
                    refine T.then_ret ?_
                    refine T.then_ret ?_
                    obtain rfl := inv_some hk10
                    obtain rfl := hx1 _ rfl
                    refine T.in_ret ?_
                    refine T.then_ret ?_
                    obtain rfl := inv_some hk2
                    refine T.pick [] 8 rfl rfl (Nat.le_add_left _ _) rfl ?_
                    refine T.ret1 rfl rfl (fun w hS => ⟨(), rfl, hS⟩)
                   ·replace hk10 := inv_negB hb13 hk10
                    refine T.skip ?_
                    refine T.in_normal ?_
                    refine T.then_normal ?_
                    exact T.le (EnvLe.cons rfl (EnvLe.cons rfl (EnvLe.cons rfl (EnvLe.cons rfl (EnvLe.cons rfl (EnvLe.cons rfl (EnvLe.cons rfl (EnvLe.cons rfl EnvLe.nil)))))))) (T.pick [6, 7, 2, 3, 4, 5, 0, 1] 8 rfl rfl (Nat.le_add_left _ _) rfl (J11 (s4.2.2.2.2.2.2.2.2.2.2.2.2.2.2.1, s4.2.2.2.2.2.2.2.2.2.2.2.2.2.2.2.1, s4.2.2.2.2.2.2.2.2.2.2.2.2.2.2.2.2.1) () hk10))
                  ·replace hk10 := inv_negB hb12 hk10
                   refine T.seq ?_
                   refine T.region ?_
                   refine T.move .list rfl (wants0 rfl) rfl rfl ?_
                   refine T.bin .list rfl (wants0 rfl) rfl rfl rfl rfl ?_
                   refine T.bin .list rfl (wants0 rfl) rfl rfl rfl rfl ?_
                   refine T.assign .list rfl (wants0 rfl) rfl rfl ?_
                   refine T.nil ?_
                   refine T.then_normal ?_
                   refine T.cond rfl (fun hb14 => ?_) (fun hb14 => ?_)
                   ·replace hk10 := inv_posB hb14 hk10
                    refine T.region ?_
                    refine T.move .list rfl (wants0 rfl) rfl rfl ?_
                    refine T.pick [0, 1, 2, 3, 4, 5, 6, 7] 8 rfl rfl (Nat.le_add_left _ _) (hs' := Cl x22.1 45 [.int .i64 r7p0.1.1, .map (some x22.2), .pointer (some ⟨x2.1, 0, none⟩), .int .i64 r7p0.1.2.1, .int .u64 r7p0.1.2.2.1, .int .i64 r7p0.1.2.2.2] :: Mp E64 x22.2 r7p0.2 :: Cl x2.1 68 [.int .i64 r6.1, .map (some x2.2.1), .slice x17.1.1 s9.2.2.1.length x17.1.2, .bool r6.2.1, .int .i64 r6.2.2.1, .int .i64 r6.2.2.2.1, .int .u64 r6.2.2.2.2.1, .int .i64 r6.2.2.2.2.2.1, .int .i64 r6.2.2.2.2.2.2] :: Mp (Elt.slice E8) x2.2.1 s9.2.1 :: Hb 82 x17.1.1 x17.1.2 x17.2 s9.2.2.1 :: Bb 5 x17.2 s9.2.2.1 :: Ro (Elt.slice E8) A0 c0 l0 :: Ro (Elt.pair E64 (Elt.pair EU64 (Elt.pair E64 E64))) A1 c1 l1 :: hs) rfl ?_
                    obtain ⟨r12, hg12, hk10⟩ := inv_bind hk10
                    refine T.call .list (wants0 rfl) rfl (run_callF (vs := [_]) rfl Try.func21 rfl (by decide) rfl) (fun w hS => page_Store_Root.c hS (o0 := (r7p0.1.1, r7p0.1.2.1, r7p0.1.2.2.1, r7p0.1.2.2.2)) (q0b := r7p0.2) (o0c := (r6.1, r6.2.1, r6.2.2.1, r6.2.2.2.1, r6.2.2.2.2.1, r6.2.2.2.2.2.1, r6.2.2.2.2.2.2)) (q0cb := s9.2.1) (q0cc := s9.2.2.1)  hg12) (fun x30 => ?_)
                    refine T.move .list rfl (wants0 rfl) rfl rfl ?_
                    refine T.bin .list rfl (wants0 rfl) rfl rfl rfl rfl ?_
                    refine T.move .list rfl (wants0 rfl) rfl rfl ?_
                    refine T.assign .list rfl (wants0 rfl) rfl rfl ?_
                    refine T.assign .list rfl (wants0 rfl) rfl rfl ?_
                    refine T.assign .list rfl (wants0 rfl) rfl rfl ?_
                    refine T.nil ?_
                    refine T.in_normal ?_
                    refine T.then_normal ?_
                    exact T.le (EnvLe.cons rfl (EnvLe.cons rfl (EnvLe.cons rfl (EnvLe.cons rfl (EnvLe.cons rfl (EnvLe.cons rfl (EnvLe.cons rfl (EnvLe.cons rfl EnvLe.nil)))))))) (T.pick [6, 7, 2, 3, 4, 5, 0, 1] 8 rfl rfl (Nat.le_add_left _ _) rfl (J11 (r12, IntKind.i64.wrap (s4.2.2.2.2.2.2.2.2.2.2.2.2.2.2.2.1 + 1), subl (((l0).getD (s4.2.2.2.2.2.2.2.2.2.2.2.2.2.2.2.2.2 : Int).toNat default)) 0 (min (((((l0).getD (s4.2.2.2.2.2.2.2.2.2.2.2.2.2.2.2.2.2 : Int).toNat default)).length : Int)) 200)) () hk10))
                   ·replace hk10 := inv_negB hb14 hk10
                    refine T.seq ?_
                    refine T.region ?_
                    refine T.assign .list rfl (wants0 rfl) rfl rfl ?_
                    refine T.nil ?_
                    refine T.then_normal ?_
                    refine T.ret ?_
                    refine T.in_ret ?_
                    refine T.then_ret ?_
                    refine T.in_ret ?_
                    refine T.then_ret ?_
                    refine T.then_ret ?_
                    obtain rfl := inv_some hk10
                    obtain rfl := hx1 _ rfl
                    refine T.in_ret ?_
                    refine T.then_ret ?_
                    obtain rfl := inv_some hk2
                    refine T.pick [] 8 rfl rfl (Nat.le_add_left _ _) rfl ?_
                    refine T.ret1 rfl rfl (fun w hS => ⟨(), rfl, hS⟩)
               ·refine T.region ?_
                refine T.move .list rfl (wants0 rfl) rfl rfl ?_
                refine T.bin .list rfl (wants0 rfl) rfl rfl rfl rfl ?_
                refine T.move .list rfl (wants0 rfl) rfl rfl ?_
                refine T.bool (b := (decide (r7p1 = 0))) (fun hb15 => ?_) (fun hb15 => ?_)
                ·replace hk8 := inv_posB hb15 hk8
                 refine T.move .list rfl (wants1 rfl rfl rfl (not_t hb15)) rfl rfl ?_
                 refine T.ptrEq (pt := 45) .list rfl (wants1 rfl rfl rfl (not_t hb15)) rfl rfl rfl (by kernel_rfl) (.inr rfl) rfl ?_
                 refine T.pickF .list rfl (wants0 rfl) rfl rfl (not_t hb15) rfl ?_
                 refine T.nil ?_
                 refine T.then_normal ?_
                 exact T.le (EnvLe.cons rfl (EnvLe.cons rfl (EnvLe.cons rfl (EnvLe.cons rfl (EnvLe.cons rfl (EnvLe.cons rfl (EnvLe.cons rfl (EnvLe.cons rfl (EnvLe.cons rfl (EnvLe.cons rfl EnvLe.nil)))))))))) (T.pick [6, 7, 0, 1, 2, 3, 4, 5] 10 rfl rfl (Nat.le_add_left _ _) rfl (J10 false () hk8))
                ·replace hk8 := inv_negB hb15 hk8
                 refine T.leave .list (wantsNot rfl rfl rfl (not_f hb15)) rfl ?_
                 refine T.leave .list (wantsNot rfl rfl rfl (not_f hb15)) rfl ?_
                 refine T.pickT .list rfl (wants0 rfl) rfl rfl (not_f hb15) rfl ?_
                 refine T.nil ?_
                 refine T.then_normal ?_
                 exact T.le (EnvLe.cons rfl (EnvLe.cons rfl (EnvLe.cons rfl (EnvLe.cons rfl (EnvLe.cons rfl (EnvLe.cons rfl (EnvLe.cons rfl (EnvLe.cons rfl (EnvLe.cons rfl (EnvLe.cons rfl EnvLe.nil)))))))))) (T.pick [6, 7, 0, 1, 2, 3, 4, 5] 10 rfl rfl (Nat.le_add_left _ _) rfl (J10 true () hk8))
           ·refine T.seq ?_
            refine T.region ?_
            refine T.move .list rfl (wants0 rfl) rfl rfl ?_
            refine T.bin .list rfl (wants0 rfl) rfl rfl rfl rfl ?_
            refine T.nil ?_
            refine T.then_normal ?_
            refine T.cond rfl (fun hb16 => ?_) (fun hb16 => ?_)
            ·replace hk7 := inv_posB hb16 hk7
             refine T.region ?_
             refine T.move .list rfl (wants0 rfl) rfl rfl ?_
             refine T.move .list rfl (wants0 rfl) rfl rfl ?_
             refine T.pick [6, 7, 2, 3, 4, 5, 0, 1] 8 rfl rfl (Nat.le_add_left _ _) (hs' := Cl x9.2.2.1 45 [.int .i64 s4.2.2.2.2.2.2.2.2.2.1, .map (some x9.2.2.2), .pointer (some ⟨x2.1, 0, none⟩), .int .i64 s4.2.2.2.2.2.2.2.2.2.2.2.1, .int .u64 s4.2.2.2.2.2.2.2.2.2.2.2.2.1, .int .i64 s4.2.2.2.2.2.2.2.2.2.2.2.2.2.1] :: Mp E64 x9.2.2.2 s8.1 :: Cl x2.1 68 [.int .i64 r4.2.2.2.1.1, .map (some x2.2.1), .slice x15.1.1 r4.2.2.2.2.2.length x15.1.2, .bool r4.2.2.2.1.2.1, .int .i64 r4.2.2.2.1.2.2.1, .int .i64 r4.2.2.2.1.2.2.2.1, .int .u64 r4.2.2.2.1.2.2.2.2.1, .int .i64 r4.2.2.2.1.2.2.2.2.2.1, .int .i64 r4.2.2.2.1.2.2.2.2.2.2] :: Mp (Elt.slice E8) x2.2.1 r4.2.2.2.2.1 :: Hb 82 x15.1.1 x15.1.2 x15.2 r4.2.2.2.2.2 :: Bb 5 x15.2 r4.2.2.2.2.2 :: Ro (Elt.slice E8) A0 c0 l0 :: Ro (Elt.pair E64 (Elt.pair EU64 (Elt.pair E64 E64))) A1 c1 l1 :: hs) rfl ?_
             obtain ⟨r13, hg13, hk7⟩ := inv_bind hk7
             refine T.call .list (wants0 rfl) rfl (run_callF (vs := [_, _]) rfl Try.func10 rfl (by decide) rfl) (fun w hS => page_Store_Commit.c hS (o0 := (s4.2.2.2.2.2.2.2.2.2.1, s4.2.2.2.2.2.2.2.2.2.2.2.1, s4.2.2.2.2.2.2.2.2.2.2.2.2.1, s4.2.2.2.2.2.2.2.2.2.2.2.2.2.1)) (q0b := s8.1) (o0c := (r4.2.2.2.1.1, r4.2.2.2.1.2.1, r4.2.2.2.1.2.2.1, r4.2.2.2.1.2.2.2.1, r4.2.2.2.1.2.2.2.2.1, r4.2.2.2.1.2.2.2.2.2.1, r4.2.2.2.1.2.2.2.2.2.2)) (q0cb := r4.2.2.2.2.1) (q0cc := r4.2.2.2.2.2)  hg13) (fun x31 => ?_)
             refine T.assign .list rfl (wants0 rfl) rfl rfl ?_
             refine T.nil ?_
             refine T.then_normal ?_
             exact T.le (EnvLe.cons rfl (EnvLe.cons rfl (EnvLe.cons rfl (EnvLe.cons rfl (EnvLe.cons rfl (EnvLe.cons rfl (EnvLe.cons rfl (EnvLe.cons rfl (EnvLe.cons rfl (EnvLe.cons rfl (EnvLe.cons rfl EnvLe.nil))))))))))) (T.pick [6, 7, 2, 3, 4, 5, 0, 1] 8 rfl rfl (Nat.le_add_left _ _) rfl (J8 (r13.2.2.2.1.1, r13.2.2.2.2.1, r13.2.2.2.2.2, r13.2.2.2.1.2.1, r13.2.2.2.1.2.2.1, r13.2.2.2.1.2.2.2.1, r13.2.2.2.1.2.2.2.2.1, r13.2.2.2.1.2.2.2.2.2.1, r13.2.2.2.1.2.2.2.2.2.2, r13.2.1.1, r13.2.2.1, r13.2.1.2.1, r13.2.1.2.2.1, r13.2.1.2.2.2, r13.1) ((x31.1.1, x31.1.2), x31.2) hk7))
            ·replace hk7 := inv_negB hb16 hk7
             refine T.skip ?_
             refine T.then_normal ?_
             exact T.le (EnvLe.cons rfl (EnvLe.cons rfl (EnvLe.cons rfl (EnvLe.cons rfl (EnvLe.cons rfl (EnvLe.cons rfl (EnvLe.cons rfl (EnvLe.cons rfl (EnvLe.cons rfl (EnvLe.cons rfl (EnvLe.cons rfl EnvLe.nil))))))))))) (T.pick [0, 1, 2, 3, 4, 5, 6, 7] 8 rfl rfl (Nat.le_add_left _ _) rfl (J8 (r4.2.2.2.1.1, r4.2.2.2.2.1, r4.2.2.2.2.2, r4.2.2.2.1.2.1, r4.2.2.2.1.2.2.1, r4.2.2.2.1.2.2.2.1, r4.2.2.2.1.2.2.2.2.1, r4.2.2.2.1.2.2.2.2.2.1, r4.2.2.2.1.2.2.2.2.2.2, s4.2.2.2.2.2.2.2.2.2.1, s8.1, s4.2.2.2.2.2.2.2.2.2.2.2.1, s4.2.2.2.2.2.2.2.2.2.2.2.2.1, s4.2.2.2.2.2.2.2.2.2.2.2.2.2.1, s8.2) ((x15.1.1, x15.1.2), x15.2) hk7))
          ·refine T.seqJ (fun (s14 : Bool) (x32 : Unit) => [(0, .slice A0 l0.length c0), (1, .slice A1 l1.length c1), (5, .pointer (some ⟨x2.1, 0, none⟩)), (7, .pointer (some ⟨x9.2.2.1, 0, none⟩)), (9, .int .i64 s4.2.2.2.2.2.2.2.2.2.2.2.2.2.2.1), (10, .int .i64 s4.2.2.2.2.2.2.2.2.2.2.2.2.2.2.2.1), (11, str s4.2.2.2.2.2.2.2.2.2.2.2.2.2.2.2.2.1), (12, .int .i64 s4.2.2.2.2.2.2.2.2.2.2.2.2.2.2.2.2.2), (13, str (subl (((l0).getD (s4.2.2.2.2.2.2.2.2.2.2.2.2.2.2.2.2.2 : Int).toNat default)) 0 (min (((((l0).getD (s4.2.2.2.2.2.2.2.2.2.2.2.2.2.2.2.2.2 : Int).toNat default)).length : Int)) 200))), (14, .int .i64 r4.1), (15, .int .i64 r4.2.1), (79, .bool s14)]) (fun s14 x32 => Ro (Elt.slice E8) A0 c0 l0 :: Ro (Elt.pair E64 (Elt.pair EU64 (Elt.pair E64 E64))) A1 c1 l1 :: Cl x2.1 68 [.int .i64 r4.2.2.2.1.1, .map (some x2.2.1), .slice x15.1.1 r4.2.2.2.2.2.length x15.1.2, .bool r4.2.2.2.1.2.1, .int .i64 r4.2.2.2.1.2.2.1, .int .i64 r4.2.2.2.1.2.2.2.1, .int .u64 r4.2.2.2.1.2.2.2.2.1, .int .i64 r4.2.2.2.1.2.2.2.2.2.1, .int .i64 r4.2.2.2.1.2.2.2.2.2.2] :: Mp (Elt.slice E8) x2.2.1 r4.2.2.2.2.1 :: Hb 82 x15.1.1 x15.1.2 x15.2 r4.2.2.2.2.2 :: Bb 5 x15.2 r4.2.2.2.2.2 :: Cl x9.2.2.1 45 [.int .i64 s4.2.2.2.2.2.2.2.2.2.1, .map (some x9.2.2.2), .pointer (some ⟨x2.1, 0, none⟩), .int .i64 s4.2.2.2.2.2.2.2.2.2.2.2.1, .int .u64 s4.2.2.2.2.2.2.2.2.2.2.2.2.1, .int .i64 s4.2.2.2.2.2.2.2.2.2.2.2.2.2.1] :: Mp E64 x9.2.2.2 r4.2.2.1 :: hs) (fun s14 => law4_PageKeeps.k13 s4 r4 l0 s14 = some o1) (fun s14 x32 hk13 => ?_) (fun J13 => ?_)
           ·unfold law4_PageKeeps.k13 at hk13
            refine T.cond rfl (fun hb17 => ?_) (fun hb17 => ?_)
            ·replace hk13 := inv_posB hb17 hk13
             refine T.region ?_
             refine T.move .list rfl (wants0 rfl) rfl rfl ?_
             refine T.move .list rfl (wants0 rfl) rfl rfl ?_
             refine T.pick [6, 7, 2, 3, 4, 5, 0, 1] 8 rfl rfl (Nat.le_add_left _ _) (hs' := Cl x9.2.2.1 45 [.int .i64 s4.2.2.2.2.2.2.2.2.2.1, .map (some x9.2.2.2), .pointer (some ⟨x2.1, 0, none⟩), .int .i64 s4.2.2.2.2.2.2.2.2.2.2.2.1, .int .u64 s4.2.2.2.2.2.2.2.2.2.2.2.2.1, .int .i64 s4.2.2.2.2.2.2.2.2.2.2.2.2.2.1] :: Mp E64 x9.2.2.2 r4.2.2.1 :: Cl x2.1 68 [.int .i64 r4.2.2.2.1.1, .map (some x2.2.1), .slice x15.1.1 r4.2.2.2.2.2.length x15.1.2, .bool r4.2.2.2.1.2.1, .int .i64 r4.2.2.2.1.2.2.1, .int .i64 r4.2.2.2.1.2.2.2.1, .int .u64 r4.2.2.2.1.2.2.2.2.1, .int .i64 r4.2.2.2.1.2.2.2.2.2.1, .int .i64 r4.2.2.2.1.2.2.2.2.2.2] :: Mp (Elt.slice E8) x2.2.1 r4.2.2.2.2.1 :: Hb 82 x15.1.1 x15.1.2 x15.2 r4.2.2.2.2.2 :: Bb 5 x15.2 r4.2.2.2.2.2 :: Ro (Elt.slice E8) A0 c0 l0 :: Ro (Elt.pair E64 (Elt.pair EU64 (Elt.pair E64 E64))) A1 c1 l1 :: hs) rfl ?_
             obtain ⟨r14, hg14, hk13⟩ := inv_bind hk13
             refine T.call .list (wants0 rfl) rfl (run_callF (vs := [_, _]) rfl Try.func11 rfl (by decide) rfl) (fun w hS => page_Store_Free.c hS (o0 := (s4.2.2.2.2.2.2.2.2.2.1, s4.2.2.2.2.2.2.2.2.2.2.2.1, s4.2.2.2.2.2.2.2.2.2.2.2.2.1, s4.2.2.2.2.2.2.2.2.2.2.2.2.2.1)) (q0b := r4.2.2.1) (o0c := (r4.2.2.2.1.1, r4.2.2.2.1.2.1, r4.2.2.2.1.2.2.1, r4.2.2.2.1.2.2.2.1, r4.2.2.2.1.2.2.2.2.1, r4.2.2.2.1.2.2.2.2.2.1, r4.2.2.2.1.2.2.2.2.2.2)) (q0cb := r4.2.2.2.2.1) (q0cc := r4.2.2.2.2.2)  hg14) (fun x33 => ?_)
             refine T.assign .list rfl (wants0 rfl) rfl rfl ?_
             refine T.nil ?_
             refine T.then_normal ?_
             exact T.le (EnvLe.cons rfl (EnvLe.cons rfl (EnvLe.cons rfl (EnvLe.cons rfl (EnvLe.cons rfl (EnvLe.cons rfl (EnvLe.cons rfl (EnvLe.cons rfl (EnvLe.cons rfl (EnvLe.cons rfl (EnvLe.cons rfl EnvLe.nil))))))))))) (T.pick [6, 7, 2, 3, 4, 5, 0, 1] 8 rfl rfl (Nat.le_add_left _ _) rfl (J7 (r14.2, r14.1) () hk13))
            ·replace hk13 := inv_negB hb17 hk13
             refine T.skip ?_
             refine T.then_normal ?_
             exact T.le (EnvLe.cons rfl (EnvLe.cons rfl (EnvLe.cons rfl (EnvLe.cons rfl (EnvLe.cons rfl (EnvLe.cons rfl (EnvLe.cons rfl (EnvLe.cons rfl (EnvLe.cons rfl (EnvLe.cons rfl (EnvLe.cons rfl EnvLe.nil))))))))))) (T.pick [0, 1, 2, 3, 4, 5, 6, 7] 8 rfl rfl (Nat.le_add_left _ _) rfl (J7 (r4.2.2.1, r4.2.1) () hk13))
           ·refine T.region ?_
            refine T.move .list rfl (wants0 rfl) rfl rfl ?_
            refine T.bin .list rfl (wants0 rfl) rfl rfl rfl rfl ?_
            refine T.move .list rfl (wants0 rfl) rfl rfl ?_
            refine T.bool (b := (decide (r4.2.1 = 0))) (fun hb18 => ?_) (fun hb18 => ?_)
            ·replace hk6 := inv_posB hb18 hk6
             refine T.move .list rfl (wants1 rfl rfl rfl hb18) rfl rfl ?_
             refine T.bin .list rfl (wants1 rfl rfl rfl hb18) rfl rfl rfl rfl ?_
             refine T.pickT .list rfl (wants0 rfl) rfl rfl hb18 rfl ?_
             refine T.nil ?_
             refine T.then_normal ?_
             exact T.le (EnvLe.cons rfl (EnvLe.cons rfl (EnvLe.cons rfl (EnvLe.cons rfl (EnvLe.cons rfl (EnvLe.cons rfl (EnvLe.cons rfl (EnvLe.cons rfl (EnvLe.cons rfl (EnvLe.cons rfl (EnvLe.cons rfl (EnvLe.cons rfl EnvLe.nil)))))))))))) (T.pick [10, 11, 2, 3, 4, 5, 0, 1] 12 rfl rfl (Nat.le_add_left _ _) rfl (J13 (!(decide (s4.2.2.2.2.2.2.2.2.2.2.2.2.2.2.1 = 0))) () hk6))
            ·replace hk6 := inv_negB hb18 hk6
             refine T.leave .list (wantsNot rfl rfl rfl hb18) rfl ?_
             refine T.leave .list (wantsNot rfl rfl rfl hb18) rfl ?_
             refine T.pickF .list rfl (wants0 rfl) rfl rfl hb18 rfl ?_
             refine T.nil ?_
             refine T.then_normal ?_
             exact T.le (EnvLe.cons rfl (EnvLe.cons rfl (EnvLe.cons rfl (EnvLe.cons rfl (EnvLe.cons rfl (EnvLe.cons rfl (EnvLe.cons rfl (EnvLe.cons rfl (EnvLe.cons rfl (EnvLe.cons rfl (EnvLe.cons rfl (EnvLe.cons rfl EnvLe.nil)))))))))))) (T.pick [10, 11, 2, 3, 4, 5, 0, 1] 12 rfl rfl (Nat.le_add_left _ _) rfl (J13 false () hk6))
         ·refine T.seq ?_
          refine T.region ?_
          refine T.move .list rfl (wants0 rfl) rfl rfl ?_
          refine T.move .list rfl (wants0 rfl) rfl rfl ?_
          refine T.lenSlice .list rfl (wants0 rfl) rfl rfl ?_
          refine T.bin .list rfl (wants0 rfl) rfl rfl rfl rfl ?_
          refine T.nil ?_
          refine T.then_normal ?_
          refine T.cond rfl (fun hb19 => ?_) (fun hb19 => ?_)
          ·replace hk4 := inv_posB hb19 hk4
           refine T.region ?_
           refine T.move .list rfl (wants0 rfl) rfl rfl ?_
           refine T.move .list rfl (wants0 rfl) rfl rfl ?_
           refine T.move .list rfl (wants0 rfl) rfl rfl ?_
           obtain ⟨hc4, hk4⟩ := inv_chk hk4
           refine T.idxRo .list 1 rfl rfl (wants0 rfl) rfl rfl rfl hc4.1 hc4.2 (Nat.le_refl _) ?_
           refine T.ldFRo 1 .list Fd.self (Sh.pair Sh.sc (Sh.pair Sh.sc (Sh.pair Sh.sc Sh.sc))) rfl (.inl rfl) rfl rfl hc4.1 hc4.2 rfl (wants0 rfl) rfl rfl rfl (v := fun x34 => .agg #[.int .i64 (((((l1).getD (s4.2.2.2.2.2.2.2.2.2.2.2.2.2.2.2.2.2 : Int).toNat default)).1)), .int .u64 (((((l1).getD (s4.2.2.2.2.2.2.2.2.2.2.2.2.2.2.2.2.2 : Int).toNat default)).2.1)), .int .i64 (((((l1).getD (s4.2.2.2.2.2.2.2.2.2.2.2.2.2.2.2.2.2 : Int).toNat default)).2.2.1)), .int .i64 (((((l1).getD (s4.2.2.2.2.2.2.2.2.2.2.2.2.2.2.2.2.2 : Int).toNat default)).2.2.2))]) (hs' := fun x34 => Ro (Elt.slice E8) A0 c0 l0 :: Ro (Elt.pair E64 (Elt.pair EU64 (Elt.pair E64 E64))) A1 c1 l1 :: Cl x2.1 68 [.int .i64 s4.1, .map (some x2.2.1), .slice x9.1.1 s4.2.2.1.length x9.1.2, .bool s4.2.2.2.1, .int .i64 s4.2.2.2.2.1, .int .i64 s4.2.2.2.2.2.1, .int .u64 s4.2.2.2.2.2.2.1, .int .i64 s4.2.2.2.2.2.2.2.1, .int .i64 s4.2.2.2.2.2.2.2.2.1] :: Mp (Elt.slice E8) x2.2.1 s4.2.1 :: Hb 82 x9.1.1 x9.1.2 x9.2.1 s4.2.2.1 :: Bb 5 x9.2.1 s4.2.2.1 :: Cl x9.2.2.1 45 [.int .i64 s4.2.2.2.2.2.2.2.2.2.1, .map (some x9.2.2.2), .pointer (some ⟨x2.1, 0, none⟩), .int .i64 s4.2.2.2.2.2.2.2.2.2.2.2.1, .int .u64 s4.2.2.2.2.2.2.2.2.2.2.2.2.1, .int .i64 s4.2.2.2.2.2.2.2.2.2.2.2.2.2.1] :: Mp E64 x9.2.2.2 s4.2.2.2.2.2.2.2.2.2.2.1 :: hs) (fun _ => rfl) (fun _ => rfl) (fun x34 => ?_)
           refine T.pick [2, 3, 4, 5, 0, 1, 6, 7] 8 rfl rfl (Nat.le_add_left _ _) (hs' := Cl x2.1 68 [.int .i64 s4.1, .map (some x2.2.1), .slice x9.1.1 s4.2.2.1.length x9.1.2, .bool s4.2.2.2.1, .int .i64 s4.2.2.2.2.1, .int .i64 s4.2.2.2.2.2.1, .int .u64 s4.2.2.2.2.2.2.1, .int .i64 s4.2.2.2.2.2.2.2.1, .int .i64 s4.2.2.2.2.2.2.2.2.1] :: Mp (Elt.slice E8) x2.2.1 s4.2.1 :: Hb 82 x9.1.1 x9.1.2 x9.2.1 s4.2.2.1 :: Bb 5 x9.2.1 s4.2.2.1 :: Ro (Elt.slice E8) A0 c0 l0 :: Ro (Elt.pair E64 (Elt.pair EU64 (Elt.pair E64 E64))) A1 c1 l1 :: Cl x9.2.2.1 45 [.int .i64 s4.2.2.2.2.2.2.2.2.2.1, .map (some x9.2.2.2), .pointer (some ⟨x2.1, 0, none⟩), .int .i64 s4.2.2.2.2.2.2.2.2.2.2.2.1, .int .u64 s4.2.2.2.2.2.2.2.2.2.2.2.2.1, .int .i64 s4.2.2.2.2.2.2.2.2.2.2.2.2.2.1] :: Mp E64 x9.2.2.2 s4.2.2.2.2.2.2.2.2.2.2.1 :: hs) rfl ?_
           obtain ⟨r15, hg15, hk4⟩ := inv_bind hk4
           refine T.call .list (wants0 rfl) rfl (run_callF (vs := [_, _]) rfl Try.func22 rfl (by decide) rfl) (fun w hS => disk_Disk_Arm.c hS (o0 := (s4.1, s4.2.2.2.1, s4.2.2.2.2.1, s4.2.2.2.2.2.1, s4.2.2.2.2.2.2.1, s4.2.2.2.2.2.2.2.1, s4.2.2.2.2.2.2.2.2.1)) (q0b := s4.2.1) (q0c := s4.2.2.1) (a1 := ((l1).getD (s4.2.2.2.2.2.2.2.2.2.2.2.2.2.2.2.2.2 : Int).toNat default))  hg15) (fun x35 => ?_)
           refine T.nil ?_
           refine T.then_normal ?_
           exact T.le (EnvLe.cons rfl (EnvLe.cons rfl (EnvLe.cons rfl (EnvLe.cons rfl (EnvLe.cons rfl (EnvLe.cons rfl (EnvLe.cons rfl (EnvLe.cons rfl EnvLe.nil)))))))) (T.pick [4, 5, 0, 1, 2, 3, 6, 7] 8 rfl rfl (Nat.le_add_left _ _) rfl (J6 (r15.1, r15.2.1, r15.2.2.1, r15.2.2.2.1, r15.2.2.2.2.1, r15.2.2.2.2.2.1, r15.2.2.2.2.2.2) () hk4))
          ·replace hk4 := inv_negB hb19 hk4
           refine T.skip ?_
           refine T.then_normal ?_
           exact T.le (EnvLe.cons rfl (EnvLe.cons rfl (EnvLe.cons rfl (EnvLe.cons rfl (EnvLe.cons rfl (EnvLe.cons rfl (EnvLe.cons rfl (EnvLe.cons rfl EnvLe.nil)))))))) (T.pick [0, 1, 2, 3, 4, 5, 6, 7] 8 rfl rfl (Nat.le_add_left _ _) rfl (J6 (s4.1, s4.2.2.2.1, s4.2.2.2.2.1, s4.2.2.2.2.2.1, s4.2.2.2.2.2.2.1, s4.2.2.2.2.2.2.2.1, s4.2.2.2.2.2.2.2.2.1) () hk4))
       ·replace hk4 := inv_negB hb3 hk4
        refine T.exit ?_
        refine T.then_exit ?_
        refine T.then_exit ?_
        obtain rfl := inv_some hk4
        obtain rfl := hx1 _ rfl
        refine T.in_hit ?_
        refine T.then_normal ?_
        exact T.le EnvLe.nil (T.pick [] 8 rfl rfl (Nat.le_add_left _ _) rfl (J3 () () hk2))
      ·refine T.region ?_
       refine T.move .list rfl (wants0 rfl) rfl rfl ?_
       refine T.move .list rfl (wants0 rfl) rfl rfl ?_
       refine T.lenSlice .list rfl (wants0 rfl) rfl rfl ?_
       refine T.bin .list rfl (wants0 rfl) rfl rfl rfl rfl ?_
       refine T.move .list rfl (wants0 rfl) rfl rfl ?_
       refine T.bool (b := (decide (s4.2.2.2.2.2.2.2.2.2.2.2.2.2.2.2.2.2 < ((l0.length : Int))))) (fun hb20 => ?_) (fun hb20 => ?_)
       ·replace he1 := inv_posB hb20 he1
        refine T.move .list rfl (wants1 rfl rfl rfl hb20) rfl rfl ?_
        refine T.bin .list rfl (wants1 rfl rfl rfl hb20) rfl rfl rfl rfl ?_
        refine T.pickT .list rfl (wants0 rfl) rfl rfl hb20 rfl ?_
        refine T.nil ?_
        refine T.then_normal ?_
        exact T.le (EnvLe.cons rfl (EnvLe.cons rfl (EnvLe.cons rfl (EnvLe.cons rfl (EnvLe.cons rfl (EnvLe.cons rfl (EnvLe.cons rfl (EnvLe.cons rfl (EnvLe.cons rfl EnvLe.nil))))))))) (T.pick [0, 1, 2, 3, 4, 5, 6, 7] 8 rfl rfl (Nat.le_add_left _ _) rfl (J4 (decide (s4.2.2.2.2.2.2.2.2.2.2.2.2.2.2.2.2.2 < 12)) () he1))
       ·replace he1 := inv_negB hb20 he1
        refine T.leave .list (wantsNot rfl rfl rfl hb20) rfl ?_
        refine T.leave .list (wantsNot rfl rfl rfl hb20) rfl ?_
        refine T.pickF .list rfl (wants0 rfl) rfl rfl hb20 rfl ?_
        refine T.nil ?_
        refine T.then_normal ?_
        exact T.le (EnvLe.cons rfl (EnvLe.cons rfl (EnvLe.cons rfl (EnvLe.cons rfl (EnvLe.cons rfl (EnvLe.cons rfl (EnvLe.cons rfl (EnvLe.cons rfl (EnvLe.cons rfl EnvLe.nil))))))))) (T.pick [0, 1, 2, 3, 4, 5, 6, 7] 8 rfl rfl (Nat.le_add_left _ _) rfl (J4 false () he1))
   ·refine T.region ?_
    refine T.move .list rfl (wants0 rfl) rfl rfl ?_
    refine T.bin .list rfl (wants0 rfl) rfl rfl rfl rfl ?_
    refine T.move .list rfl (wants0 rfl) rfl rfl ?_
    refine T.bool (b := (decide (r2p1 = 0))) (fun hb21 => ?_) (fun hb21 => ?_)
    ·replace hr := inv_posB hb21 hr
     refine T.move .list rfl (wants1 rfl rfl rfl (not_t hb21)) rfl rfl ?_
     refine T.ptrEq (pt := 45) .list rfl (wants1 rfl rfl rfl (not_t hb21)) rfl rfl rfl (by kernel_rfl) (.inr rfl) rfl ?_
     refine T.pickF .list rfl (wants0 rfl) rfl rfl (not_t hb21) rfl ?_
     refine T.nil ?_
     refine T.then_normal ?_
     exact T.le (EnvLe.cons rfl (EnvLe.cons rfl (EnvLe.cons rfl (EnvLe.cons rfl (EnvLe.cons rfl EnvLe.nil))))) (T.pick [7, 6, 0, 1, 2, 3, 4, 5] 8 rfl rfl (Nat.le_add_left _ _) rfl (J2 false () hr))
    ·replace hr := inv_negB hb21 hr
     refine T.leave .list (wantsNot rfl rfl rfl (not_f hb21)) rfl ?_
     refine T.leave .list (wantsNot rfl rfl rfl (not_f hb21)) rfl ?_
     refine T.pickT .list rfl (wants0 rfl) rfl rfl (not_f hb21) rfl ?_
     refine T.nil ?_
     refine T.then_normal ?_
     exact T.le (EnvLe.cons rfl (EnvLe.cons rfl (EnvLe.cons rfl (EnvLe.cons rfl (EnvLe.cons rfl EnvLe.nil))))) (T.pick [7, 6, 0, 1, 2, 3, 4, 5] 8 rfl rfl (Nat.le_add_left _ _) rfl (J2 true () hr))
end Go.Proofs.Ytccifnjlfhdpiaa
