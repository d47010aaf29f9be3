/- SessP: what the functions compute, and that the program computes it; printed by a program of ours. -/
import Derived.Test.YtdojooblfemmnaaDoorSess
import Derived.Test.YtdojooblfemmnaaDoorCks
set_option linter.unusedVariables false
set_option linter.unusedSimpArgs false
namespace Go.Proofs.YtdojooblfemmnaaDoor
open Go.RowKit
noncomputable def law18_SessionPlays.k1 (s1 : Unit) : Option Bool :=
  (law18_told.impl ).bind fun r2 => some r2
noncomputable def law18_SessionPlays.k3 (s2 : (List ((Int × (List UInt8) × (List UInt8)) × Bool)) × List Int × (List (Int × Int × (List (List (Int × Int × (List UInt8)))))) × Int) (s4 : (List ((Int × (List UInt8) × (List UInt8)) × Bool)) × List Int × (List (Int × Int × (List (List (Int × Int × (List UInt8))))))) : Option (((List ((Int × (List UInt8) × (List UInt8)) × Bool)) × List Int × (List (Int × Int × (List (List (Int × Int × (List UInt8)))))) × Int) ⊕ (Bool ⊕ Unit)) :=
  some (.inl (s4.1, s4.2.1, s4.2.2, IntKind.i64.wrap (s2.2.2.2 + 1)))
noncomputable def law18_SessionPlays.k6 (r3 : Int × (List ((Int × (List UInt8) × (List UInt8)) × Bool))) (s2 : (List ((Int × (List UInt8) × (List UInt8)) × Bool)) × List Int × (List (Int × Int × (List (List (Int × Int × (List UInt8)))))) × Int) (l0 : List (Int × Int × Int × (Int × Int × (List (List (Int × Int × (List UInt8))))))) (s7 : Bool) : Option (((List ((Int × (List UInt8) × (List UInt8)) × Bool)) × List Int × (List (Int × Int × (List (List (Int × Int × (List UInt8)))))) × Int) ⊕ (Bool ⊕ Unit)) :=
  (if s7 = true then (if ((!(decide (r3.1 = 1)))) = true then some (.inr (.inl false)) else law18_SessionPlays.k3 s2 (r3.2, s2.2.1, s2.2.2.1)) else chk (0 ≤ (((((l0).getD (s2.2.2.2 : Int).toNat default)).2.1)) ∧ (((((l0).getD (s2.2.2.2 : Int).toNat default)).2.1)) < 8) (chk ((0 + (((((l0).getD (s2.2.2.2 : Int).toNat default)).2.1) : Int).toNat * 1) < s2.2.1.length) ((if ((decide (((((((l0).getD (s2.2.2.2 : Int).toNat default)).2.2.1))) ≤ (((s2.2.1).getD ((0 + (((((l0).getD (s2.2.2.2 : Int).toNat default)).2.1) : Int).toNat * 1)) default))))) = true then (if ((!(decide (r3.1 = 50)))) = true then some (.inr (.inl false)) else law18_SessionPlays.k3 s2 (r3.2, s2.2.1, s2.2.2.1)) else (ref17_ReplyRight.impl (((((((l0).getD (s2.2.2.2 : Int).toNat default)).2.2.2).1), (((((l0).getD (s2.2.2.2 : Int).toNat default)).2.2.2).2.1), (((((l0).getD (s2.2.2.2 : Int).toNat default)).2.2.2).2.2)))).bind fun r4 => (if ((!r4)) = true then (if ((!(decide (r3.1 = 1)))) = true then some (.inr (.inl false)) else law18_SessionPlays.k3 s2 (r3.2, s2.2.1, s2.2.2.1)) else (if ((!(decide (r3.1 = 0)))) = true then some (.inr (.inl false)) else chk (0 ≤ (((((l0).getD (s2.2.2.2 : Int).toNat default)).2.1)) ∧ (((((l0).getD (s2.2.2.2 : Int).toNat default)).2.1)) < 8) (chk ((0 + (((((l0).getD (s2.2.2.2 : Int).toNat default)).2.1) : Int).toNat * 1) < s2.2.1.length) (chk ((0 ≤ (((((l0).getD (s2.2.2.2 : Int).toNat default)).2.1)) ∧ (((((l0).getD (s2.2.2.2 : Int).toNat default)).2.1)) < (s2.2.2.1.length : Int)) ∧ (((((l0).getD (s2.2.2.2 : Int).toNat default)).2.1)) < 8) (law18_SessionPlays.k3 s2 (r3.2, ((s2.2.1).set ((0 + (((((l0).getD (s2.2.2.2 : Int).toNat default)).2.1) : Int).toNat * 1)) (((((l0).getD (s2.2.2.2 : Int).toNat default)).2.2.1))), ((s2.2.2.1).set (((((l0).getD (s2.2.2.2 : Int).toNat default)).2.1) : Int).toNat ((((((l0).getD (s2.2.2.2 : Int).toNat default)).2.2.2).1), (((((l0).getD (s2.2.2.2 : Int).toNat default)).2.2.2).2.1), (((((l0).getD (s2.2.2.2 : Int).toNat default)).2.2.2).2.2)))))))))))))
noncomputable def law18_SessionPlays.k8 (s2 : (List ((Int × (List UInt8) × (List UInt8)) × Bool)) × List Int × (List (Int × Int × (List (List (Int × Int × (List UInt8)))))) × Int) (s9 : Bool) : Option (((List ((Int × (List UInt8) × (List UInt8)) × Bool)) × List Int × (List (Int × Int × (List (List (Int × Int × (List UInt8)))))) × Int) ⊕ (Bool ⊕ Unit)) :=
  (if s9 = true then some (.inr (.inl false)) else law18_SessionPlays.k3 s2 (s2.1, s2.2.1, s2.2.2.1))
noncomputable def law18_SessionPlays.k11 (s2 : (List ((Int × (List UInt8) × (List UInt8)) × Bool)) × List Int × (List (Int × Int × (List (List (Int × Int × (List UInt8)))))) × Int) (s12 : Bool) : Option (((List ((Int × (List UInt8) × (List UInt8)) × Bool)) × List Int × (List (Int × Int × (List (List (Int × Int × (List UInt8)))))) × Int) ⊕ (Bool ⊕ Unit)) :=
  (if s12 = true then some (.inr (.inl false)) else law18_SessionPlays.k3 s2 (s2.1, s2.2.1, s2.2.2.1))
noncomputable def law18_SessionPlays.k10 (r5 : Int × (Int × Int × (List (List (Int × Int × (List UInt8))))) × Int) (s2 : (List ((Int × (List UInt8) × (List UInt8)) × Bool)) × List Int × (List (Int × Int × (List (List (Int × Int × (List UInt8)))))) × Int) (s11 : Int × Int × Int × (List (List (Int × Int × (List UInt8))))) : Option (((List ((Int × (List UInt8) × (List UInt8)) × Bool)) × List Int × (List (Int × Int × (List (List (Int × Int × (List UInt8)))))) × Int) ⊕ (Bool ⊕ Unit)) :=
  (if ((decide (r5.2.2 = 0))) = true then (if ((decide (r5.1 = s11.1))) = true then (ref16_Same.impl r5.2.1 s11.2).bind fun r7 => law18_SessionPlays.k11 s2 (!r7) else law18_SessionPlays.k11 s2 true) else law18_SessionPlays.k11 s2 true)
noncomputable def law18_SessionPlays.k9 (l0 : List (Int × Int × Int × (Int × Int × (List (List (Int × Int × (List UInt8))))))) (s2 : (List ((Int × (List UInt8) × (List UInt8)) × Bool)) × List Int × (List (Int × Int × (List (List (Int × Int × (List UInt8)))))) × Int) (r5 : Int × (Int × Int × (List (List (Int × Int × (List UInt8))))) × Int) (s10 : Int) : Option (((List ((Int × (List UInt8) × (List UInt8)) × Bool)) × List Int × (List (Int × Int × (List (List (Int × Int × (List UInt8)))))) × Int) ⊕ (Bool ⊕ Unit)) :=
  chk (0 ≤ (((((l0).getD (s2.2.2.2 : Int).toNat default)).2.1)) ∧ (((((l0).getD (s2.2.2.2 : Int).toNat default)).2.1)) < 8) (chk ((0 + (((((l0).getD (s2.2.2.2 : Int).toNat default)).2.1) : Int).toNat * 1) < s2.2.1.length) ((if ((decide (((((((l0).getD (s2.2.2.2 : Int).toNat default)).2.2.1))) = (((s2.2.1).getD ((0 + (((((l0).getD (s2.2.2.2 : Int).toNat default)).2.1) : Int).toNat * 1)) default))))) = true then chk ((0 ≤ (((((l0).getD (s2.2.2.2 : Int).toNat default)).2.1)) ∧ (((((l0).getD (s2.2.2.2 : Int).toNat default)).2.1)) < (s2.2.2.1.length : Int)) ∧ (((((l0).getD (s2.2.2.2 : Int).toNat default)).2.1)) < 8) (law18_SessionPlays.k10 r5 s2 (1, ((((s2.2.2.1).getD (((((l0).getD (s2.2.2.2 : Int).toNat default)).2.1) : Int).toNat default)).1), ((((s2.2.2.1).getD (((((l0).getD (s2.2.2.2 : Int).toNat default)).2.1) : Int).toNat default)).2.1), ((((s2.2.2.1).getD (((((l0).getD (s2.2.2.2 : Int).toNat default)).2.1) : Int).toNat default)).2.2))) else law18_SessionPlays.k10 r5 s2 (s10, 0, 0, ([] : List (List (Int × Int × (List UInt8))))))))
noncomputable def law18_SessionPlays.k7 (r5 : Int × (Int × Int × (List (List (Int × Int × (List UInt8))))) × Int) (s2 : (List ((Int × (List UInt8) × (List UInt8)) × Bool)) × List Int × (List (Int × Int × (List (List (Int × Int × (List UInt8)))))) × Int) (l0 : List (Int × Int × Int × (Int × Int × (List (List (Int × Int × (List UInt8))))))) (s8 : Bool) : Option (((List ((Int × (List UInt8) × (List UInt8)) × Bool)) × List Int × (List (Int × Int × (List (List (Int × Int × (List UInt8)))))) × Int) ⊕ (Bool ⊕ Unit)) :=
  (if s8 = true then (if ((decide (r5.2.2 = 1))) = true then (if ((decide (r5.1 = 0))) = true then (ref16_Same.impl r5.2.1 ((0, 0, ([] : List (List (Int × Int × (List UInt8))))))).bind fun r6 => law18_SessionPlays.k8 s2 (!r6) else law18_SessionPlays.k8 s2 true) else law18_SessionPlays.k8 s2 true) else chk (0 ≤ (((((l0).getD (s2.2.2.2 : Int).toNat default)).2.1)) ∧ (((((l0).getD (s2.2.2.2 : Int).toNat default)).2.1)) < 8) (chk ((0 + (((((l0).getD (s2.2.2.2 : Int).toNat default)).2.1) : Int).toNat * 1) < s2.2.1.length) ((if ((decide (((((((l0).getD (s2.2.2.2 : Int).toNat default)).2.2.1))) < (((s2.2.1).getD ((0 + (((((l0).getD (s2.2.2.2 : Int).toNat default)).2.1) : Int).toNat * 1)) default))))) = true then law18_SessionPlays.k9 l0 s2 r5 2 else law18_SessionPlays.k9 l0 s2 r5 0))))
noncomputable def law18_SessionPlays.k12 (s2 : (List ((Int × (List UInt8) × (List UInt8)) × Bool)) × List Int × (List (Int × Int × (List (List (Int × Int × (List UInt8)))))) × Int) (s13 : Bool) : Option (((List ((Int × (List UInt8) × (List UInt8)) × Bool)) × List Int × (List (Int × Int × (List (List (Int × Int × (List UInt8)))))) × Int) ⊕ (Bool ⊕ Unit)) :=
  (if s13 = true then some (.inr (.inl false)) else law18_SessionPlays.k3 s2 (s2.1, s2.2.1, s2.2.2.1))
noncomputable def law18_SessionPlays.k5 (l0 : List (Int × Int × Int × (Int × Int × (List (List (Int × Int × (List UInt8))))))) (s2 : (List ((Int × (List UInt8) × (List UInt8)) × Bool)) × List Int × (List (Int × Int × (List (List (Int × Int × (List UInt8)))))) × Int) (r1p0 : Unit × (Int × Int × Int × Int × Int × Int × Int × Int × Int × Int × Int × Int × Int × Int × Int × Int × Int) × (Int × Int × Int × Int) × (Int × Int × Int × Int) × (List (Int × Int)) × (Int × Bool × Int × Int × Int × Int × Int) × (List (Int × (List UInt8))) × (List (Int × (List UInt8))) × (List (Int × Int)) × (List (Int × Int)) × (List ((Int × (List UInt8) × (List UInt8)) × Bool))) (s5 : Bool) (s6 : Bool) : Option (((List ((Int × (List UInt8) × (List UInt8)) × Bool)) × List Int × (List (Int × Int × (List (List (Int × Int × (List UInt8)))))) × Int) ⊕ (Bool ⊕ Unit)) :=
  (if ((decide (((((((l0).getD (s2.2.2.2 : Int).toNat default)).1))) = 0))) = true then (session_Keep.impl r1p0.2.1 r1p0.2.2.1 r1p0.2.2.2.1 r1p0.2.2.2.2.1 r1p0.2.2.2.2.2.1 r1p0.2.2.2.2.2.2.1 r1p0.2.2.2.2.2.2.2.1 r1p0.2.2.2.2.2.2.2.2.1 r1p0.2.2.2.2.2.2.2.2.2.1 s2.1 (((((l0).getD (s2.2.2.2 : Int).toNat default)).2.1)) (((((l0).getD (s2.2.2.2 : Int).toNat default)).2.2.1)) (((((((l0).getD (s2.2.2.2 : Int).toNat default)).2.2.2).1), (((((l0).getD (s2.2.2.2 : Int).toNat default)).2.2.2).2.1), (((((l0).getD (s2.2.2.2 : Int).toNat default)).2.2.2).2.2)))).bind fun r3 => (if s5 = true then law18_SessionPlays.k6 r3 s2 l0 true else law18_SessionPlays.k6 r3 s2 l0 s6) else (if ((decide (((((((l0).getD (s2.2.2.2 : Int).toNat default)).1))) = 1))) = true then (session_Look.impl r1p0.2.1 r1p0.2.2.1 r1p0.2.2.2.1 r1p0.2.2.2.2.1 r1p0.2.2.2.2.2.1 r1p0.2.2.2.2.2.2.1 r1p0.2.2.2.2.2.2.2.1 r1p0.2.2.2.2.2.2.2.2.1 r1p0.2.2.2.2.2.2.2.2.2.1 s2.1 (((((l0).getD (s2.2.2.2 : Int).toNat default)).2.1)) (((((l0).getD (s2.2.2.2 : Int).toNat default)).2.2.1))).bind fun r5 => (if s5 = true then law18_SessionPlays.k7 r5 s2 l0 true else law18_SessionPlays.k7 r5 s2 l0 s6) else (session_Last.impl r1p0.2.1 r1p0.2.2.1 r1p0.2.2.2.1 r1p0.2.2.2.2.1 r1p0.2.2.2.2.2.1 r1p0.2.2.2.2.2.2.1 r1p0.2.2.2.2.2.2.2.1 r1p0.2.2.2.2.2.2.2.2.1 r1p0.2.2.2.2.2.2.2.2.2.1 s2.1 (((((l0).getD (s2.2.2.2 : Int).toNat default)).2.1))).bind fun r8 => (if s5 = true then (if ((decide (r8.2 = 1))) = true then (if ((decide (r8.1 = 0))) = true then law18_SessionPlays.k12 s2 false else law18_SessionPlays.k12 s2 true) else law18_SessionPlays.k12 s2 true) else (if ((decide (r8.2 = 0))) = true then chk (0 ≤ (((((l0).getD (s2.2.2.2 : Int).toNat default)).2.1)) ∧ (((((l0).getD (s2.2.2.2 : Int).toNat default)).2.1)) < 8) (chk ((0 + (((((l0).getD (s2.2.2.2 : Int).toNat default)).2.1) : Int).toNat * 1) < s2.2.1.length) (law18_SessionPlays.k12 s2 (!(decide (r8.1 = (((s2.2.1).getD ((0 + (((((l0).getD (s2.2.2.2 : Int).toNat default)).2.1) : Int).toNat * 1)) default))))))) else law18_SessionPlays.k12 s2 true))))
noncomputable def law18_SessionPlays.k4 (l0 : List (Int × Int × Int × (Int × Int × (List (List (Int × Int × (List UInt8))))))) (s2 : (List ((Int × (List UInt8) × (List UInt8)) × Bool)) × List Int × (List (Int × Int × (List (List (Int × Int × (List UInt8)))))) × Int) (r1p0 : Unit × (Int × Int × Int × Int × Int × Int × Int × Int × Int × Int × Int × Int × Int × Int × Int × Int × Int) × (Int × Int × Int × Int) × (Int × Int × Int × Int) × (List (Int × Int)) × (Int × Bool × Int × Int × Int × Int × Int) × (List (Int × (List UInt8))) × (List (Int × (List UInt8))) × (List (Int × Int)) × (List (Int × Int)) × (List ((Int × (List UInt8) × (List UInt8)) × Bool))) (s5 : Bool) : Option (((List ((Int × (List UInt8) × (List UInt8)) × Bool)) × List Int × (List (Int × Int × (List (List (Int × Int × (List UInt8)))))) × Int) ⊕ (Bool ⊕ Unit)) :=
  (if ((decide (((((((l0).getD (s2.2.2.2 : Int).toNat default)).2.2.1))) < 1))) = true then law18_SessionPlays.k5 l0 s2 r1p0 s5 true else law18_SessionPlays.k5 l0 s2 r1p0 s5 (decide ((2147483647 : Int) < (((((l0).getD (s2.2.2.2 : Int).toNat default)).2.2.1)))))
noncomputable def law18_SessionPlays.k2 (s2 : (List ((Int × (List UInt8) × (List UInt8)) × Bool)) × List Int × (List (Int × Int × (List (List (Int × Int × (List UInt8)))))) × Int) (l0 : List (Int × Int × Int × (Int × Int × (List (List (Int × Int × (List UInt8))))))) (r1p0 : Unit × (Int × Int × Int × Int × Int × Int × Int × Int × Int × Int × Int × Int × Int × Int × Int × Int × Int) × (Int × Int × Int × Int) × (Int × Int × Int × Int) × (List (Int × Int)) × (Int × Bool × Int × Int × Int × Int × Int) × (List (Int × (List UInt8))) × (List (Int × (List UInt8))) × (List (Int × Int)) × (List (Int × Int)) × (List ((Int × (List UInt8) × (List UInt8)) × Bool))) (s3 : Bool) : Option (((List ((Int × (List UInt8) × (List UInt8)) × Bool)) × List Int × (List (Int × Int × (List (List (Int × Int × (List UInt8)))))) × Int) ⊕ (Bool ⊕ Unit)) :=
  (if s3 = true then chk (0 ≤ s2.2.2.2 ∧ s2.2.2.2 < (l0.length : Int)) ((if ((decide (((((((l0).getD (s2.2.2.2 : Int).toNat default)).2.1))) < 0))) = true then law18_SessionPlays.k4 l0 s2 r1p0 true else law18_SessionPlays.k4 l0 s2 r1p0 (decide ((7 : Int) < (((((l0).getD (s2.2.2.2 : Int).toNat default)).2.1)))))) else some (.inr (.inr ())))
noncomputable def law18_SessionPlays.st1 (l0 : List (Int × Int × Int × (Int × Int × (List (List (Int × Int × (List UInt8))))))) (r1p0 : Unit × (Int × Int × Int × Int × Int × Int × Int × Int × Int × Int × Int × Int × Int × Int × Int × Int × Int) × (Int × Int × Int × Int) × (Int × Int × Int × Int) × (List (Int × Int)) × (Int × Bool × Int × Int × Int × Int × Int) × (List (Int × (List UInt8))) × (List (Int × (List UInt8))) × (List (Int × Int)) × (List (Int × Int)) × (List ((Int × (List UInt8) × (List UInt8)) × Bool))) (s2 : (List ((Int × (List UInt8) × (List UInt8)) × Bool)) × List Int × (List (Int × Int × (List (List (Int × Int × (List UInt8)))))) × Int) : Option (((List ((Int × (List UInt8) × (List UInt8)) × Bool)) × List Int × (List (Int × Int × (List (List (Int × Int × (List UInt8)))))) × Int) ⊕ (Bool ⊕ Unit)) :=
  (if ((decide (s2.2.2.2 < ((l0.length : Int))))) = true then law18_SessionPlays.k2 s2 l0 r1p0 (decide (s2.2.2.2 < 60)) else law18_SessionPlays.k2 s2 l0 r1p0 false)
noncomputable def law18_SessionPlays.impl (l0 : List (Int × Int × Int × (Int × Int × (List (List (Int × Int × (List UInt8))))))) : Option Bool :=
  (law13_New.impl ).bind fun r1 => (match r1 with | (none, r1p1) => (some false) | (some r1p0, r1p1) => ((loop (law18_SessionPlays.st1 l0 r1p0) (r1p0.2.2.2.2.2.2.2.2.2.2, List.replicate 8 (0 : Int), (List.replicate 8 ((0, 0, ([] : List (List (Int × Int × (List UInt8))))) : Int × Int × (List (List (Int × Int × (List UInt8)))))), 0)).bind (fun e1 => match e1 with | .inl v => some v | .inr v => law18_SessionPlays.k1 v)))
set_option maxRecDepth 100000 in
set_option maxHeartbeats 4000000 in
theorem law18_SessionPlays.c {B : World} {hs : List MP} {w : World} {i0 c0 : Nat} {A0 : Option Addr} {l0 : List (Int × Int × Int × (Int × Int × (List (List (Int × Int × (List UInt8))))))} (hB : Base B) (hS : St B hs w) (h0 : (hs)[i0]? = some (Ro (Elt.pair E64 (Elt.pair E64 (Elt.pair E64 (Elt.pair E64 (Elt.pair E64 (Elt.slice (Elt.slice (Elt.pair E64 (Elt.pair E64 EStr))))))))) A0 c0 l0)) {r : Bool} (hr : law18_SessionPlays.impl l0 = some r) :
    Calls Tryd.prog 3 #[.slice A0 l0.length c0] w fun e w' => ∃ x : Unit, e = .returned (.bool r) ∧ St B hs w' := by
 unfold law18_SessionPlays.impl at hr
 refine calls_T Tryd.func3 rfl rfl rfl hS ?_
 refine T.front i0 h0 ?_
 refine T.seq ?_
 refine T.region ?_
 refine T.assign .list rfl (wants0 rfl) rfl rfl ?_
 refine T.nil ?_
 refine T.then_normal ?_
 refine T.seq ?_
 refine T.region ?_
 obtain ⟨r1, hg1, hr⟩ := inv_bind hr
 rcases r1 with ⟨_ | r1p0, r1p1⟩
 ·dsimp only at hr
  refine T.call (v := fun (x1 : Nat × Nat × Nat × Nat × Nat × Nat × Nat × (Option Addr × Nat) × Nat × Nat × (Option Addr × Nat)) => .tuple #[.pointer none, .pointer none]) (hs' := fun x1 => Ro (Elt.pair E64 (Elt.pair E64 (Elt.pair E64 (Elt.pair E64 (Elt.pair E64 (Elt.slice (Elt.slice (Elt.pair E64 (Elt.pair E64 EStr))))))))) A0 c0 l0 :: hs) .list (wants0 rfl) rfl (run_callF (vs := []) rfl Tryd.func5 rfl (by decide) rfl) (fun w hS => law13_New.c hB hS  hg1) (fun x1 => ?_)
  refine T.move .list rfl (wants0 rfl) rfl rfl ?_
  refine T.extract .list rfl (wants0 rfl) rfl rfl rfl ?_
  refine T.extract .list rfl (wants0 rfl) rfl rfl rfl ?_
  refine T.assign .list rfl (wants0 rfl) rfl rfl ?_
  refine T.assign .list rfl (wants0 rfl) rfl rfl ?_
  refine T.nil ?_
  refine T.then_normal ?_
  refine T.seq ?_
  refine T.seq ?_
  refine T.region ?_
  refine T.move .list rfl (wants0 rfl) rfl rfl ?_
  refine T.ptrEq (pt := 84) .list rfl (wants0 rfl) rfl rfl rfl (by kernel_rfl) (.inr rfl) rfl ?_
  refine T.nil ?_
  refine T.then_normal ?_
  refine T.condT rfl rfl ?_
  refine T.seq ?_
  refine T.region ?_
  refine T.assign .list rfl (wants0 rfl) rfl rfl ?_
  refine T.nil ?_
  refine T.then_normal ?_
  refine T.ret ?_
  refine T.then_ret ?_
  obtain rfl := inv_some hr
  refine T.pick [] 1 rfl rfl nla rfl ?_
  refine T.ret1 rfl rfl (fun w hS => ⟨(), rfl, hS⟩)
 ·dsimp only at hr
  refine T.call (v := fun (x2 : Nat × Nat × Nat × Nat × Nat × Nat × Nat × (Option Addr × Nat) × Nat × Nat × (Option Addr × Nat)) => .tuple #[.pointer (some ⟨x2.1, 0, none⟩), .pointer (some ⟨x2.2.1, 0, none⟩)]) (hs' := fun x2 => ck6 x2.1 x2.2.1 x2.2.2.2.2.2.2.2.2.2.2.1 r1p0.2.2.2.2.2.2.2.2.2.2.length x2.2.2.2.2.2.2.2.2.2.2.2 :: ck4 x2.2.1 r1p0.2.1 x2.2.2.1 :: ck2 x2.2.2.1 r1p0.2.2.1 x2.2.2.2.1 x2.2.2.2.2.2.2.2.2.1 x2.2.2.2.2.2.2.2.2.2.1 :: ck1 x2.2.2.2.1 r1p0.2.2.2.1 x2.2.2.2.2.1 x2.2.2.2.2.2.1 :: Mp E64 x2.2.2.2.2.1 r1p0.2.2.2.2.1 :: ck0 x2.2.2.2.2.2.1 r1p0.2.2.2.2.2.1 x2.2.2.2.2.2.2.1 x2.2.2.2.2.2.2.2.1.1 r1p0.2.2.2.2.2.2.2.1.length x2.2.2.2.2.2.2.2.1.2 :: Mp (Elt.slice E8) x2.2.2.2.2.2.2.1 r1p0.2.2.2.2.2.2.1 :: Bf (Elt.pair E64 (Elt.slice E8)) 174 x2.2.2.2.2.2.2.2.1.1 x2.2.2.2.2.2.2.2.1.2 r1p0.2.2.2.2.2.2.2.1 :: Mp E64 x2.2.2.2.2.2.2.2.2.1 r1p0.2.2.2.2.2.2.2.2.1 :: Mp E64 x2.2.2.2.2.2.2.2.2.2.1 r1p0.2.2.2.2.2.2.2.2.2.1 :: Bf (Elt.pair (Elt.pair E64 (Elt.pair (Elt.slice E8) (Elt.slice E8))) EBool) 88 x2.2.2.2.2.2.2.2.2.2.2.1 x2.2.2.2.2.2.2.2.2.2.2.2 r1p0.2.2.2.2.2.2.2.2.2.2 :: Ro (Elt.pair E64 (Elt.pair E64 (Elt.pair E64 (Elt.pair E64 (Elt.pair E64 (Elt.slice (Elt.slice (Elt.pair E64 (Elt.pair E64 EStr))))))))) A0 c0 l0 :: hs) .list (wants0 rfl) rfl (run_callF (vs := []) rfl Tryd.func5 rfl (by decide) rfl) (fun w hS => law13_New.c hB hS  hg1) (fun x2 => ?_)
  refine T.move .list rfl (wants0 rfl) rfl rfl ?_
  refine T.extract .list rfl (wants0 rfl) rfl rfl rfl ?_
  refine T.extract .list rfl (wants0 rfl) rfl rfl rfl ?_
  refine T.assign .list rfl (wants0 rfl) rfl rfl ?_
  refine T.assign .list rfl (wants0 rfl) rfl rfl ?_
  refine T.nil ?_
  refine T.then_normal ?_
  refine T.seq ?_
  refine T.seq ?_
  refine T.region ?_
  refine T.move .list rfl (wants0 rfl) rfl rfl ?_
  refine T.ptrEq (pt := 84) .list rfl (wants0 rfl) rfl rfl rfl (by kernel_rfl) (.inr rfl) rfl ?_
  refine T.nil ?_
  refine T.then_normal ?_
  refine T.condF rfl rfl ?_
  refine T.skip ?_
  refine T.then_normal ?_
  refine T.seq ?_
  refine T.region ?_
  refine T.allocArr 8 (Value.int .i64) (0 : Int) .list rfl (wants0 rfl) rfl (fun b1 => ?_)
  refine T.nil ?_
  refine T.then_normal ?_
  refine T.seq ?_
  refine T.region ?_
  refine T.allocArrS 8 (Elt.pair E64 (Elt.pair E64 (Elt.slice (Elt.slice (Elt.pair E64 (Elt.pair E64 EStr)))))) ((0, 0, ([] : List (List (Int × Int × (List UInt8))))) : Int × Int × (List (List (Int × Int × (List UInt8))))) [.int .i64 0, .int .i64 0, .slice none 0 0] .list rfl (wants0 rfl) rfl rfl (fun _ => ⟨[.int .i64 0], _, rfl, rfl, ⟨[.int .i64 0], _, rfl, rfl, ⟨none, 0, rfl, Nat.le_refl _, .inl rfl⟩⟩⟩) (by decide) (fun b2 => ?_)
  refine T.nil ?_
  refine T.then_normal ?_
  refine T.seqJ (fun (s1 : Unit) (x3 : Unit) => []) (fun s1 x3 => hs) (fun s1 => law18_SessionPlays.k1 s1 = some r) (fun s1 x3 hk1 => ?_) (fun J1 => ?_)
  ·unfold law18_SessionPlays.k1 at hk1
   refine T.seq ?_
   refine T.region ?_
   obtain ⟨r2, hg2, hk1⟩ := inv_bind hk1
   refine T.call .list (wants0 rfl) rfl (run_callF (vs := []) rfl Tryd.func11 rfl (by decide) rfl) (fun w hS => law18_told.c hB hS  hg2) (fun x4 => ?_)
   refine T.assign .list rfl (wants0 rfl) rfl rfl ?_
   refine T.nil ?_
   refine T.then_normal ?_
   refine T.ret ?_
   obtain rfl := inv_some hk1
   refine T.pick [] 0 rfl rfl nla rfl ?_
   refine T.ret1 rfl rfl (fun w hS => ⟨(), rfl, hS⟩)
  ·refine T.seq ?_
   refine T.region ?_
   refine T.assign .list rfl (wants0 rfl) rfl rfl ?_
   refine T.nil ?_
   refine T.then_normal ?_
   refine T.block ?_
   obtain ⟨e1, hl1, hr⟩ := inv_bind hr
   refine T.le (EnvLe.cons rfl (EnvLe.cons rfl (EnvLe.cons rfl (EnvLe.cons rfl (EnvLe.cons rfl EnvLe.nil))))) (T.pick [13, 2, 3, 4, 5, 6, 7, 8, 9, 10, 11, 12, 1, 0] 14 rfl rfl nla rfl (T.loop (s0 := (r1p0.2.2.2.2.2.2.2.2.2.2, List.replicate 8 (0 : Int), (List.replicate 8 ((0, 0, ([] : List (List (Int × Int × (List UInt8))))) : Int × Int × (List (List (Int × Int × (List UInt8)))))), 0)) (env := fun s2 x5 => [(0, .slice A0 l0.length c0), (3, .pointer (some ⟨x2.1, 0, none⟩)), (5, .pointer (some ⟨b1, 0, none⟩)), (6, .pointer (some ⟨b2, 0, none⟩)), (7, .int .i64 s2.2.2.2)]) (hs := fun (s2 : (List ((Int × (List UInt8) × (List UInt8)) × Bool)) × List Int × (List (Int × Int × (List (List (Int × Int × (List UInt8)))))) × Int) (x5 : (Option Addr × Nat)) => Ro (Elt.pair E64 (Elt.pair E64 (Elt.pair E64 (Elt.pair E64 (Elt.pair E64 (Elt.slice (Elt.slice (Elt.pair E64 (Elt.pair E64 EStr))))))))) A0 c0 l0 :: Cl x2.1 84 [.pointer (some ⟨x2.2.1, 0, none⟩), .slice x5.1 s2.1.length x5.2] :: ck4 x2.2.1 r1p0.2.1 x2.2.2.1 :: ck2 x2.2.2.1 r1p0.2.2.1 x2.2.2.2.1 x2.2.2.2.2.2.2.2.2.1 x2.2.2.2.2.2.2.2.2.2.1 :: ck1 x2.2.2.2.1 r1p0.2.2.2.1 x2.2.2.2.2.1 x2.2.2.2.2.2.1 :: Mp E64 x2.2.2.2.2.1 r1p0.2.2.2.2.1 :: ck0 x2.2.2.2.2.2.1 r1p0.2.2.2.2.2.1 x2.2.2.2.2.2.2.1 x2.2.2.2.2.2.2.2.1.1 r1p0.2.2.2.2.2.2.2.1.length x2.2.2.2.2.2.2.2.1.2 :: Mp (Elt.slice E8) x2.2.2.2.2.2.2.1 r1p0.2.2.2.2.2.2.1 :: Bf (Elt.pair E64 (Elt.slice E8)) 174 x2.2.2.2.2.2.2.2.1.1 x2.2.2.2.2.2.2.2.1.2 r1p0.2.2.2.2.2.2.2.1 :: Mp E64 x2.2.2.2.2.2.2.2.2.1 r1p0.2.2.2.2.2.2.2.2.1 :: Mp E64 x2.2.2.2.2.2.2.2.2.2.1 r1p0.2.2.2.2.2.2.2.2.2.1 :: Bf (Elt.pair (Elt.pair E64 (Elt.pair (Elt.slice E8) (Elt.slice E8))) EBool) 88 x5.1 x5.2 s2.1 :: Cl b1 27 (s2.2.1.map (Value.int .i64)) :: Bf (Elt.pair E64 (Elt.pair E64 (Elt.slice (Elt.slice (Elt.pair E64 (Elt.pair E64 EStr)))))) 32 ((some ⟨b2, 0, none⟩)) 8 s2.2.2.1 :: hs) hl1 x2.2.2.2.2.2.2.2.2.2.2 (fun K1 s2 x5 o1 he1 hm1 hx1 => ?_)))
   unfold law18_SessionPlays.st1 at he1
   refine T.seq ?_
   refine T.seqJ (fun (s3 : Bool) (x6 : Unit) => [(0, .slice A0 l0.length c0), (3, .pointer (some ⟨x2.1, 0, none⟩)), (5, .pointer (some ⟨b1, 0, none⟩)), (6, .pointer (some ⟨b2, 0, none⟩)), (7, .int .i64 s2.2.2.2), (32, .bool s3)]) (fun s3 x6 => Ro (Elt.pair E64 (Elt.pair E64 (Elt.pair E64 (Elt.pair E64 (Elt.pair E64 (Elt.slice (Elt.slice (Elt.pair E64 (Elt.pair E64 EStr))))))))) A0 c0 l0 :: Cl x2.1 84 [.pointer (some ⟨x2.2.1, 0, none⟩), .slice x5.1 s2.1.length x5.2] :: ck4 x2.2.1 r1p0.2.1 x2.2.2.1 :: ck2 x2.2.2.1 r1p0.2.2.1 x2.2.2.2.1 x2.2.2.2.2.2.2.2.2.1 x2.2.2.2.2.2.2.2.2.2.1 :: ck1 x2.2.2.2.1 r1p0.2.2.2.1 x2.2.2.2.2.1 x2.2.2.2.2.2.1 :: Mp E64 x2.2.2.2.2.1 r1p0.2.2.2.2.1 :: ck0 x2.2.2.2.2.2.1 r1p0.2.2.2.2.2.1 x2.2.2.2.2.2.2.1 x2.2.2.2.2.2.2.2.1.1 r1p0.2.2.2.2.2.2.2.1.length x2.2.2.2.2.2.2.2.1.2 :: Mp (Elt.slice E8) x2.2.2.2.2.2.2.1 r1p0.2.2.2.2.2.2.1 :: Bf (Elt.pair E64 (Elt.slice E8)) 174 x2.2.2.2.2.2.2.2.1.1 x2.2.2.2.2.2.2.2.1.2 r1p0.2.2.2.2.2.2.2.1 :: Mp E64 x2.2.2.2.2.2.2.2.2.1 r1p0.2.2.2.2.2.2.2.2.1 :: Mp E64 x2.2.2.2.2.2.2.2.2.2.1 r1p0.2.2.2.2.2.2.2.2.2.1 :: Bf (Elt.pair (Elt.pair E64 (Elt.pair (Elt.slice E8) (Elt.slice E8))) EBool) 88 x5.1 x5.2 s2.1 :: Cl b1 27 (s2.2.1.map (Value.int .i64)) :: Bf (Elt.pair E64 (Elt.pair E64 (Elt.slice (Elt.slice (Elt.pair E64 (Elt.pair E64 EStr)))))) 32 ((some ⟨b2, 0, none⟩)) 8 s2.2.2.1 :: hs) (fun s3 => law18_SessionPlays.k2 s2 l0 r1p0 s3 = some o1) (fun s3 x6 hk2 => ?_) (fun J2 => ?_)
   ·unfold law18_SessionPlays.k2 at hk2
    refine T.cond rfl (fun hb1 => ?_) (fun hb1 => ?_)
    ·replace hk2 := inv_posB hb1 hk2
     refine T.skip ?_
     refine T.then_normal ?_
     refine T.seqJ (fun (s4 : (List ((Int × (List UInt8) × (List UInt8)) × Bool)) × List Int × (List (Int × Int × (List (List (Int × Int × (List UInt8))))))) (x7 : (Option Addr × Nat)) => [(0, .slice A0 l0.length c0), (3, .pointer (some ⟨x2.1, 0, none⟩)), (5, .pointer (some ⟨b1, 0, none⟩)), (6, .pointer (some ⟨b2, 0, none⟩)), (7, .int .i64 s2.2.2.2)]) (fun s4 x7 => Ro (Elt.pair E64 (Elt.pair E64 (Elt.pair E64 (Elt.pair E64 (Elt.pair E64 (Elt.slice (Elt.slice (Elt.pair E64 (Elt.pair E64 EStr))))))))) A0 c0 l0 :: Cl x2.1 84 [.pointer (some ⟨x2.2.1, 0, none⟩), .slice x7.1 s4.1.length x7.2] :: ck4 x2.2.1 r1p0.2.1 x2.2.2.1 :: ck2 x2.2.2.1 r1p0.2.2.1 x2.2.2.2.1 x2.2.2.2.2.2.2.2.2.1 x2.2.2.2.2.2.2.2.2.2.1 :: ck1 x2.2.2.2.1 r1p0.2.2.2.1 x2.2.2.2.2.1 x2.2.2.2.2.2.1 :: Mp E64 x2.2.2.2.2.1 r1p0.2.2.2.2.1 :: ck0 x2.2.2.2.2.2.1 r1p0.2.2.2.2.2.1 x2.2.2.2.2.2.2.1 x2.2.2.2.2.2.2.2.1.1 r1p0.2.2.2.2.2.2.2.1.length x2.2.2.2.2.2.2.2.1.2 :: Mp (Elt.slice E8) x2.2.2.2.2.2.2.1 r1p0.2.2.2.2.2.2.1 :: Bf (Elt.pair E64 (Elt.slice E8)) 174 x2.2.2.2.2.2.2.2.1.1 x2.2.2.2.2.2.2.2.1.2 r1p0.2.2.2.2.2.2.2.1 :: Mp E64 x2.2.2.2.2.2.2.2.2.1 r1p0.2.2.2.2.2.2.2.2.1 :: Mp E64 x2.2.2.2.2.2.2.2.2.2.1 r1p0.2.2.2.2.2.2.2.2.2.1 :: Bf (Elt.pair (Elt.pair E64 (Elt.pair (Elt.slice E8) (Elt.slice E8))) EBool) 88 x7.1 x7.2 s4.1 :: Cl b1 27 (s4.2.1.map (Value.int .i64)) :: Bf (Elt.pair E64 (Elt.pair E64 (Elt.slice (Elt.slice (Elt.pair E64 (Elt.pair E64 EStr)))))) 32 ((some ⟨b2, 0, none⟩)) 8 s4.2.2 :: hs) (fun s4 => law18_SessionPlays.k3 s2 s4 = some o1) (fun s4 x7 hk3 => ?_) (fun J3 => ?_)
     ·unfold law18_SessionPlays.k3 at hk3
      refine T.region ?_
      refine T.move .list rfl (wants0 rfl) rfl rfl ?_
      refine T.bin .list rfl (wants0 rfl) rfl rfl rfl rfl ?_
      refine T.assign .list rfl (wants0 rfl) rfl rfl ?_
      refine T.nil ?_
      refine T.then_normal ?_
      obtain rfl := inv_some hk3
      exact T.le (EnvLe.cons rfl (EnvLe.cons rfl (EnvLe.cons rfl (EnvLe.cons rfl (EnvLe.cons rfl EnvLe.nil))))) (T.pick [0, 1, 2, 3, 4, 5, 6, 7, 8, 9, 10, 11, 12, 13] 14 rfl rfl nla rfl (hm1 (s4.1, s4.2.1, s4.2.2, IntKind.i64.wrap (s2.2.2.2 + 1)) rfl x7))
     ·refine T.block ?_
      refine T.seq ?_
      refine T.region ?_
      refine T.move .list rfl (wants0 rfl) rfl rfl ?_
      refine T.move .list rfl (wants0 rfl) rfl rfl ?_
      obtain ⟨hc1, hk2⟩ := inv_chk hk2
      refine T.idxRo .list 0 rfl rfl (wants0 rfl) rfl rfl rfl hc1.1 hc1.2 (Nat.le_refl _) ?_
      refine T.ldFRo 0 .list Fd.self (Sh.pair Sh.sc (Sh.pair Sh.sc (Sh.pair Sh.sc (Sh.pair Sh.sc (Sh.pair Sh.sc Sh.slice))))) rfl (.inl rfl) rfl rfl hc1.1 hc1.2 rfl (wants0 rfl) rfl rfl rfl (v := fun x8 => .agg #[.int .i64 (((((l0).getD (s2.2.2.2 : Int).toNat default)).1)), .int .i64 (((((l0).getD (s2.2.2.2 : Int).toNat default)).2.1)), .int .i64 (((((l0).getD (s2.2.2.2 : Int).toNat default)).2.2.1)), .int .i64 ((((((l0).getD (s2.2.2.2 : Int).toNat default)).2.2.2).1)), .int .i64 ((((((l0).getD (s2.2.2.2 : Int).toNat default)).2.2.2).2.1)), .slice x8.2.2.2.2.2.1 (((((((l0).getD (s2.2.2.2 : Int).toNat default)).2.2.2).2.2)).length) x8.2.2.2.2.2.2]) (hs' := fun x8 => Ro (Elt.slice (Elt.pair E64 (Elt.pair E64 EStr))) x8.2.2.2.2.2.1 x8.2.2.2.2.2.2 ((((((l0).getD (s2.2.2.2 : Int).toNat default)).2.2.2).2.2)) :: Ro (Elt.pair E64 (Elt.pair E64 (Elt.pair E64 (Elt.pair E64 (Elt.pair E64 (Elt.slice (Elt.slice (Elt.pair E64 (Elt.pair E64 EStr))))))))) A0 c0 l0 :: Cl x2.1 84 [.pointer (some ⟨x2.2.1, 0, none⟩), .slice x5.1 s2.1.length x5.2] :: ck4 x2.2.1 r1p0.2.1 x2.2.2.1 :: ck2 x2.2.2.1 r1p0.2.2.1 x2.2.2.2.1 x2.2.2.2.2.2.2.2.2.1 x2.2.2.2.2.2.2.2.2.2.1 :: ck1 x2.2.2.2.1 r1p0.2.2.2.1 x2.2.2.2.2.1 x2.2.2.2.2.2.1 :: Mp E64 x2.2.2.2.2.1 r1p0.2.2.2.2.1 :: ck0 x2.2.2.2.2.2.1 r1p0.2.2.2.2.2.1 x2.2.2.2.2.2.2.1 x2.2.2.2.2.2.2.2.1.1 r1p0.2.2.2.2.2.2.2.1.length x2.2.2.2.2.2.2.2.1.2 :: Mp (Elt.slice E8) x2.2.2.2.2.2.2.1 r1p0.2.2.2.2.2.2.1 :: Bf (Elt.pair E64 (Elt.slice E8)) 174 x2.2.2.2.2.2.2.2.1.1 x2.2.2.2.2.2.2.2.1.2 r1p0.2.2.2.2.2.2.2.1 :: Mp E64 x2.2.2.2.2.2.2.2.2.1 r1p0.2.2.2.2.2.2.2.2.1 :: Mp E64 x2.2.2.2.2.2.2.2.2.2.1 r1p0.2.2.2.2.2.2.2.2.2.1 :: Bf (Elt.pair (Elt.pair E64 (Elt.pair (Elt.slice E8) (Elt.slice E8))) EBool) 88 x5.1 x5.2 s2.1 :: Cl b1 27 (s2.2.1.map (Value.int .i64)) :: Bf (Elt.pair E64 (Elt.pair E64 (Elt.slice (Elt.slice (Elt.pair E64 (Elt.pair E64 EStr)))))) 32 ((some ⟨b2, 0, none⟩)) 8 s2.2.2.1 :: hs) (fun _ => rfl) (fun _ => rfl) (fun x8 => ?_)
      refine T.allocS .list rfl (wants0 rfl) rfl (cs := [.int .i64 0, .int .i64 0, .int .i64 0, .int .i64 0, .int .i64 0, .slice none 0 0]) rfl (fun b3 => ?_)
      refine T.store .list 0 rfl rfl (wants0 rfl) rfl rfl rfl rfl (Nat.le_of_ble_eq_true rfl) rfl (cs' := [.int .i64 (((((l0).getD (s2.2.2.2 : Int).toNat default)).1)), .int .i64 (((((l0).getD (s2.2.2.2 : Int).toNat default)).2.1)), .int .i64 (((((l0).getD (s2.2.2.2 : Int).toNat default)).2.2.1)), .int .i64 ((((((l0).getD (s2.2.2.2 : Int).toNat default)).2.2.2).1)), .int .i64 ((((((l0).getD (s2.2.2.2 : Int).toNat default)).2.2.2).2.1)), .slice x8.2.2.2.2.2.1 (((((((l0).getD (s2.2.2.2 : Int).toNat default)).2.2.2).2.2)).length) x8.2.2.2.2.2.2]) rfl rfl ?_
      refine T.nil ?_
      refine T.then_normal ?_
      refine T.seqJ (fun (s5 : Bool) (x9 : Unit) => [(0, .slice A0 l0.length c0), (3, .pointer (some ⟨x2.1, 0, none⟩)), (5, .pointer (some ⟨b1, 0, none⟩)), (6, .pointer (some ⟨b2, 0, none⟩)), (7, .int .i64 s2.2.2.2), (8, .pointer (some ⟨b3, 0, none⟩)), (9, .bool s5)]) (fun s5 x9 => Ro (Elt.pair E64 (Elt.pair E64 (Elt.pair E64 (Elt.pair E64 (Elt.pair E64 (Elt.slice (Elt.slice (Elt.pair E64 (Elt.pair E64 EStr))))))))) A0 c0 l0 :: Cl x2.1 84 [.pointer (some ⟨x2.2.1, 0, none⟩), .slice x5.1 s2.1.length x5.2] :: ck4 x2.2.1 r1p0.2.1 x2.2.2.1 :: ck2 x2.2.2.1 r1p0.2.2.1 x2.2.2.2.1 x2.2.2.2.2.2.2.2.2.1 x2.2.2.2.2.2.2.2.2.2.1 :: ck1 x2.2.2.2.1 r1p0.2.2.2.1 x2.2.2.2.2.1 x2.2.2.2.2.2.1 :: Mp E64 x2.2.2.2.2.1 r1p0.2.2.2.2.1 :: ck0 x2.2.2.2.2.2.1 r1p0.2.2.2.2.2.1 x2.2.2.2.2.2.2.1 x2.2.2.2.2.2.2.2.1.1 r1p0.2.2.2.2.2.2.2.1.length x2.2.2.2.2.2.2.2.1.2 :: Mp (Elt.slice E8) x2.2.2.2.2.2.2.1 r1p0.2.2.2.2.2.2.1 :: Bf (Elt.pair E64 (Elt.slice E8)) 174 x2.2.2.2.2.2.2.2.1.1 x2.2.2.2.2.2.2.2.1.2 r1p0.2.2.2.2.2.2.2.1 :: Mp E64 x2.2.2.2.2.2.2.2.2.1 r1p0.2.2.2.2.2.2.2.2.1 :: Mp E64 x2.2.2.2.2.2.2.2.2.2.1 r1p0.2.2.2.2.2.2.2.2.2.1 :: Bf (Elt.pair (Elt.pair E64 (Elt.pair (Elt.slice E8) (Elt.slice E8))) EBool) 88 x5.1 x5.2 s2.1 :: Cl b1 27 (s2.2.1.map (Value.int .i64)) :: Bf (Elt.pair E64 (Elt.pair E64 (Elt.slice (Elt.slice (Elt.pair E64 (Elt.pair E64 EStr)))))) 32 ((some ⟨b2, 0, none⟩)) 8 s2.2.2.1 :: Cl b3 34 [.int .i64 (((((l0).getD (s2.2.2.2 : Int).toNat default)).1)), .int .i64 (((((l0).getD (s2.2.2.2 : Int).toNat default)).2.1)), .int .i64 (((((l0).getD (s2.2.2.2 : Int).toNat default)).2.2.1)), .int .i64 ((((((l0).getD (s2.2.2.2 : Int).toNat default)).2.2.2).1)), .int .i64 ((((((l0).getD (s2.2.2.2 : Int).toNat default)).2.2.2).2.1)), .slice x8.2.2.2.2.2.1 (((((((l0).getD (s2.2.2.2 : Int).toNat default)).2.2.2).2.2)).length) x8.2.2.2.2.2.2] :: Ro (Elt.slice (Elt.pair E64 (Elt.pair E64 EStr))) x8.2.2.2.2.2.1 x8.2.2.2.2.2.2 ((((((l0).getD (s2.2.2.2 : Int).toNat default)).2.2.2).2.2)) :: hs) (fun s5 => law18_SessionPlays.k4 l0 s2 r1p0 s5 = some o1) (fun s5 x9 hk4 => ?_) (fun J4 => ?_)
      ·unfold law18_SessionPlays.k4 at hk4
       refine T.seqJ (fun (s6 : Bool) (x10 : Unit) => [(0, .slice A0 l0.length c0), (3, .pointer (some ⟨x2.1, 0, none⟩)), (5, .pointer (some ⟨b1, 0, none⟩)), (6, .pointer (some ⟨b2, 0, none⟩)), (7, .int .i64 s2.2.2.2), (8, .pointer (some ⟨b3, 0, none⟩)), (9, .bool s5), (10, .bool s6)]) (fun s6 x10 => Ro (Elt.pair E64 (Elt.pair E64 (Elt.pair E64 (Elt.pair E64 (Elt.pair E64 (Elt.slice (Elt.slice (Elt.pair E64 (Elt.pair E64 EStr))))))))) A0 c0 l0 :: Cl x2.1 84 [.pointer (some ⟨x2.2.1, 0, none⟩), .slice x5.1 s2.1.length x5.2] :: ck4 x2.2.1 r1p0.2.1 x2.2.2.1 :: ck2 x2.2.2.1 r1p0.2.2.1 x2.2.2.2.1 x2.2.2.2.2.2.2.2.2.1 x2.2.2.2.2.2.2.2.2.2.1 :: ck1 x2.2.2.2.1 r1p0.2.2.2.1 x2.2.2.2.2.1 x2.2.2.2.2.2.1 :: Mp E64 x2.2.2.2.2.1 r1p0.2.2.2.2.1 :: ck0 x2.2.2.2.2.2.1 r1p0.2.2.2.2.2.1 x2.2.2.2.2.2.2.1 x2.2.2.2.2.2.2.2.1.1 r1p0.2.2.2.2.2.2.2.1.length x2.2.2.2.2.2.2.2.1.2 :: Mp (Elt.slice E8) x2.2.2.2.2.2.2.1 r1p0.2.2.2.2.2.2.1 :: Bf (Elt.pair E64 (Elt.slice E8)) 174 x2.2.2.2.2.2.2.2.1.1 x2.2.2.2.2.2.2.2.1.2 r1p0.2.2.2.2.2.2.2.1 :: Mp E64 x2.2.2.2.2.2.2.2.2.1 r1p0.2.2.2.2.2.2.2.2.1 :: Mp E64 x2.2.2.2.2.2.2.2.2.2.1 r1p0.2.2.2.2.2.2.2.2.2.1 :: Bf (Elt.pair (Elt.pair E64 (Elt.pair (Elt.slice E8) (Elt.slice E8))) EBool) 88 x5.1 x5.2 s2.1 :: Cl b1 27 (s2.2.1.map (Value.int .i64)) :: Bf (Elt.pair E64 (Elt.pair E64 (Elt.slice (Elt.slice (Elt.pair E64 (Elt.pair E64 EStr)))))) 32 ((some ⟨b2, 0, none⟩)) 8 s2.2.2.1 :: Cl b3 34 [.int .i64 (((((l0).getD (s2.2.2.2 : Int).toNat default)).1)), .int .i64 (((((l0).getD (s2.2.2.2 : Int).toNat default)).2.1)), .int .i64 (((((l0).getD (s2.2.2.2 : Int).toNat default)).2.2.1)), .int .i64 ((((((l0).getD (s2.2.2.2 : Int).toNat default)).2.2.2).1)), .int .i64 ((((((l0).getD (s2.2.2.2 : Int).toNat default)).2.2.2).2.1)), .slice x8.2.2.2.2.2.1 (((((((l0).getD (s2.2.2.2 : Int).toNat default)).2.2.2).2.2)).length) x8.2.2.2.2.2.2] :: Ro (Elt.slice (Elt.pair E64 (Elt.pair E64 EStr))) x8.2.2.2.2.2.1 x8.2.2.2.2.2.2 ((((((l0).getD (s2.2.2.2 : Int).toNat default)).2.2.2).2.2)) :: hs) (fun s6 => law18_SessionPlays.k5 l0 s2 r1p0 s5 s6 = some o1) (fun s6 x10 hk5 => ?_) (fun J5 => ?_)
       ·unfold law18_SessionPlays.k5 at hk5
        refine T.seq ?_
        refine T.region ?_
        refine T.field .list rfl (wants0 rfl) rfl rfl ?_
        refine T.load .list 14 rfl rfl (wants0 rfl) rfl rfl rfl ?_
        refine T.nil ?_
        refine T.then_normal ?_
        refine T.block ?_
        refine T.seq ?_
        refine T.region ?_
        refine T.bin .list rfl (wants0 rfl) rfl rfl rfl rfl ?_
        refine T.assign .list rfl (wants0 rfl) rfl rfl ?_
        refine T.nil ?_
        refine T.then_normal ?_
        refine T.cond rfl (fun hb2 => ?_) (fun hb2 => ?_)
        ·replace hk5 := inv_posB hb2 hk5
         refine T.seq ?_
         refine T.region ?_
         refine T.move .list rfl (wants0 rfl) rfl rfl ?_
         refine T.field .list rfl (wants0 rfl) rfl rfl ?_
         refine T.load .list 14 rfl rfl (wants0 rfl) rfl rfl rfl ?_
         refine T.field .list rfl (wants0 rfl) rfl rfl ?_
         refine T.load .list 14 rfl rfl (wants0 rfl) rfl rfl rfl ?_
         refine T.field .list rfl (wants0 rfl) rfl rfl ?_
         refine T.loadN .list 14 rfl rfl (wants0 rfl) rfl rfl (vs := [.int .i64 ((((((l0).getD (s2.2.2.2 : Int).toNat default)).2.2.2).1)), .int .i64 ((((((l0).getD (s2.2.2.2 : Int).toNat default)).2.2.2).2.1)), .slice x8.2.2.2.2.2.1 (((((((l0).getD (s2.2.2.2 : Int).toNat default)).2.2.2).2.2)).length) x8.2.2.2.2.2.2]) rfl rfl ?_
         refine T.pick [1, 2, 3, 4, 5, 6, 7, 8, 9, 10, 11, 0, 12, 13, 14, 15] 16 rfl rfl nla (hs' := Cl x2.1 84 [.pointer (some ⟨x2.2.1, 0, none⟩), .slice x5.1 s2.1.length x5.2] :: ck4 x2.2.1 r1p0.2.1 x2.2.2.1 :: ck2 x2.2.2.1 r1p0.2.2.1 x2.2.2.2.1 x2.2.2.2.2.2.2.2.2.1 x2.2.2.2.2.2.2.2.2.2.1 :: ck1 x2.2.2.2.1 r1p0.2.2.2.1 x2.2.2.2.2.1 x2.2.2.2.2.2.1 :: Mp E64 x2.2.2.2.2.1 r1p0.2.2.2.2.1 :: ck0 x2.2.2.2.2.2.1 r1p0.2.2.2.2.2.1 x2.2.2.2.2.2.2.1 x2.2.2.2.2.2.2.2.1.1 r1p0.2.2.2.2.2.2.2.1.length x2.2.2.2.2.2.2.2.1.2 :: Mp (Elt.slice E8) x2.2.2.2.2.2.2.1 r1p0.2.2.2.2.2.2.1 :: Bf (Elt.pair E64 (Elt.slice E8)) 174 x2.2.2.2.2.2.2.2.1.1 x2.2.2.2.2.2.2.2.1.2 r1p0.2.2.2.2.2.2.2.1 :: Mp E64 x2.2.2.2.2.2.2.2.2.1 r1p0.2.2.2.2.2.2.2.2.1 :: Mp E64 x2.2.2.2.2.2.2.2.2.2.1 r1p0.2.2.2.2.2.2.2.2.2.1 :: Bf (Elt.pair (Elt.pair E64 (Elt.pair (Elt.slice E8) (Elt.slice E8))) EBool) 88 x5.1 x5.2 s2.1 :: Ro (Elt.pair E64 (Elt.pair E64 (Elt.pair E64 (Elt.pair E64 (Elt.pair E64 (Elt.slice (Elt.slice (Elt.pair E64 (Elt.pair E64 EStr))))))))) A0 c0 l0 :: Cl b1 27 (s2.2.1.map (Value.int .i64)) :: Bf (Elt.pair E64 (Elt.pair E64 (Elt.slice (Elt.slice (Elt.pair E64 (Elt.pair E64 EStr)))))) 32 ((some ⟨b2, 0, none⟩)) 8 s2.2.2.1 :: Cl b3 34 [.int .i64 (((((l0).getD (s2.2.2.2 : Int).toNat default)).1)), .int .i64 (((((l0).getD (s2.2.2.2 : Int).toNat default)).2.1)), .int .i64 (((((l0).getD (s2.2.2.2 : Int).toNat default)).2.2.1)), .int .i64 ((((((l0).getD (s2.2.2.2 : Int).toNat default)).2.2.2).1)), .int .i64 ((((((l0).getD (s2.2.2.2 : Int).toNat default)).2.2.2).2.1)), .slice x8.2.2.2.2.2.1 (((((((l0).getD (s2.2.2.2 : Int).toNat default)).2.2.2).2.2)).length) x8.2.2.2.2.2.2] :: Ro (Elt.slice (Elt.pair E64 (Elt.pair E64 EStr))) x8.2.2.2.2.2.1 x8.2.2.2.2.2.2 ((((((l0).getD (s2.2.2.2 : Int).toNat default)).2.2.2).2.2)) :: hs) rfl ?_
         obtain ⟨r3, hg3, hk5⟩ := inv_bind hk5
         refine T.call .list (wants0 rfl) rfl (run_callF (vs := [_, _, _, _]) rfl Tryd.func6 rfl (by decide) rfl) (fun w hS => session_Keep.c hB hS (i3a := 15) (o0a := r1p0.2.1) (o0aa := r1p0.2.2.1) (o0aaa := r1p0.2.2.2.1) (q0aaab := r1p0.2.2.2.2.1) (o0aaac := r1p0.2.2.2.2.2.1) (q0aaacb := r1p0.2.2.2.2.2.2.1) (q0aaacc := r1p0.2.2.2.2.2.2.2.1) (q0aah := r1p0.2.2.2.2.2.2.2.2.1) (q0aak := r1p0.2.2.2.2.2.2.2.2.2.1) (q0b := s2.1) (a3 := ((((((l0).getD (s2.2.2.2 : Int).toNat default)).2.2.2).1), (((((l0).getD (s2.2.2.2 : Int).toNat default)).2.2.2).2.1), (((((l0).getD (s2.2.2.2 : Int).toNat default)).2.2.2).2.2))) rfl hg3) (fun x11 => ?_)
         refine T.assign .list rfl (wants0 rfl) rfl rfl ?_
         refine T.nil ?_
         refine T.then_normal ?_
         refine T.block ?_
         refine T.seqJ (fun (s7 : Bool) (x12 : Unit) => [(0, .slice A0 l0.length c0), (3, .pointer (some ⟨x2.1, 0, none⟩)), (5, .pointer (some ⟨b1, 0, none⟩)), (6, .pointer (some ⟨b2, 0, none⟩)), (7, .int .i64 s2.2.2.2), (8, .pointer (some ⟨b3, 0, none⟩)), (11, .int .i64 r3.1), (111, .bool s7)]) (fun s7 x12 => Ro (Elt.pair E64 (Elt.pair E64 (Elt.pair E64 (Elt.pair E64 (Elt.pair E64 (Elt.slice (Elt.slice (Elt.pair E64 (Elt.pair E64 EStr))))))))) A0 c0 l0 :: Cl x2.1 84 [.pointer (some ⟨x2.2.1, 0, none⟩), .slice x11.1 r3.2.length x11.2] :: ck4 x2.2.1 r1p0.2.1 x2.2.2.1 :: ck2 x2.2.2.1 r1p0.2.2.1 x2.2.2.2.1 x2.2.2.2.2.2.2.2.2.1 x2.2.2.2.2.2.2.2.2.2.1 :: ck1 x2.2.2.2.1 r1p0.2.2.2.1 x2.2.2.2.2.1 x2.2.2.2.2.2.1 :: Mp E64 x2.2.2.2.2.1 r1p0.2.2.2.2.1 :: ck0 x2.2.2.2.2.2.1 r1p0.2.2.2.2.2.1 x2.2.2.2.2.2.2.1 x2.2.2.2.2.2.2.2.1.1 r1p0.2.2.2.2.2.2.2.1.length x2.2.2.2.2.2.2.2.1.2 :: Mp (Elt.slice E8) x2.2.2.2.2.2.2.1 r1p0.2.2.2.2.2.2.1 :: Bf (Elt.pair E64 (Elt.slice E8)) 174 x2.2.2.2.2.2.2.2.1.1 x2.2.2.2.2.2.2.2.1.2 r1p0.2.2.2.2.2.2.2.1 :: Mp E64 x2.2.2.2.2.2.2.2.2.1 r1p0.2.2.2.2.2.2.2.2.1 :: Mp E64 x2.2.2.2.2.2.2.2.2.2.1 r1p0.2.2.2.2.2.2.2.2.2.1 :: Bf (Elt.pair (Elt.pair E64 (Elt.pair (Elt.slice E8) (Elt.slice E8))) EBool) 88 x11.1 x11.2 r3.2 :: Cl b1 27 (s2.2.1.map (Value.int .i64)) :: Bf (Elt.pair E64 (Elt.pair E64 (Elt.slice (Elt.slice (Elt.pair E64 (Elt.pair E64 EStr)))))) 32 ((some ⟨b2, 0, none⟩)) 8 s2.2.2.1 :: Cl b3 34 [.int .i64 (((((l0).getD (s2.2.2.2 : Int).toNat default)).1)), .int .i64 (((((l0).getD (s2.2.2.2 : Int).toNat default)).2.1)), .int .i64 (((((l0).getD (s2.2.2.2 : Int).toNat default)).2.2.1)), .int .i64 ((((((l0).getD (s2.2.2.2 : Int).toNat default)).2.2.2).1)), .int .i64 ((((((l0).getD (s2.2.2.2 : Int).toNat default)).2.2.2).2.1)), .slice x8.2.2.2.2.2.1 (((((((l0).getD (s2.2.2.2 : Int).toNat default)).2.2.2).2.2)).length) x8.2.2.2.2.2.2] :: Ro (Elt.slice (Elt.pair E64 (Elt.pair E64 EStr))) x8.2.2.2.2.2.1 x8.2.2.2.2.2.2 ((((((l0).getD (s2.2.2.2 : Int).toNat default)).2.2.2).2.2)) :: hs) (fun s7 => law18_SessionPlays.k6 r3 s2 l0 s7 = some o1) (fun s7 x12 hk6 => ?_) (fun J6 => ?_)
         ·unfold law18_SessionPlays.k6 at hk6
          refine T.cond rfl (fun hb3 => ?_) (fun hb3 => ?_)
          ·replace hk6 := inv_posB hb3 hk6
           refine T.seq ?_
           refine T.region ?_
           refine T.move .list rfl (wants0 rfl) rfl rfl ?_
           refine T.bin .list rfl (wants0 rfl) rfl rfl rfl rfl ?_
           refine T.nil ?_
           refine T.then_normal ?_
           refine T.cond rfl (fun hb4 => ?_) (fun hb4 => ?_)
           ·replace hk6 := inv_posB hb4 hk6
            refine T.seq ?_
            refine T.region ?_
            refine T.assign .list rfl (wants0 rfl) rfl rfl ?_
            refine T.nil ?_
            refine T.then_normal ?_
            refine T.ret ?_
            refine T.in_ret ?_
            refine T.in_ret ?_
            refine T.in_ret ?_
            refine T.then_ret ?_
            refine T.then_ret ?_
            obtain rfl := inv_some hk6
            obtain rfl := hx1 _ rfl
            refine T.in_ret ?_
            refine T.then_ret ?_
            obtain rfl := inv_some hr
            refine T.pick [] 16 rfl rfl nla rfl ?_
            refine T.ret1 rfl rfl (fun w hS => ⟨(), rfl, hS⟩)
           ·replace hk6 := inv_negB hb4 hk6
            refine T.skip ?_
            refine T.in_normal ?_
            refine T.in_normal ?_
            refine T.in_normal ?_
            refine T.then_normal ?_
            exact T.le (EnvLe.cons rfl (EnvLe.cons rfl (EnvLe.cons rfl (EnvLe.cons rfl (EnvLe.cons rfl EnvLe.nil))))) (T.pick [0, 1, 2, 3, 4, 5, 6, 7, 8, 9, 10, 11, 12, 13] 16 rfl rfl nla rfl (J3 (r3.2, s2.2.1, s2.2.2.1) x11 hk6))
          ·replace hk6 := inv_negB hb3 hk6
           refine T.seq ?_
           refine T.plan [(0, 0), (2, 0), (1, 1), (3, 1), (4, 0), (5, 1), (6, 0), (7, 0)] mixed (by kernel_rfl) (by kernel_rfl) rfl (fun d _ _ _ _ h => by cases d <;> exact h) ?_
           refine T.field (.plan rfl) rfl (wants0 rfl) rfl rfl ?_
           refine T.field (.plan rfl) rfl (wants0 rfl) rfl rfl ?_
           refine T.load (.plan rfl) 14 rfl rfl (wants0 rfl) rfl rfl rfl ?_
           refine T.load (.plan rfl) 14 rfl rfl (wants0 rfl) rfl rfl rfl ?_
           obtain ⟨hc2, hk6⟩ := inv_chk hk6
           refine T.idxArr (.plan rfl) rfl (wants0 rfl) rfl rfl rfl hc2.1 hc2.2 ?_
           obtain ⟨hc3, hk6⟩ := inv_chk hk6
           refine T.ldArr (.plan rfl) 12 rfl rfl (wants0 rfl) rfl rfl hc3 ?_
           refine T.bin (.plan rfl) rfl (wants0 rfl) rfl rfl rfl rfl ?_
           refine T.assign (.plan rfl) rfl (wants0 rfl) rfl rfl ?_
           refine T.planEnd ?_
           refine T.then_normal ?_
           refine T.cond rfl (fun hb5 => ?_) (fun hb5 => ?_)
           ·replace hk6 := inv_posB hb5 hk6
            refine T.seq ?_
            refine T.region ?_
            refine T.move .list rfl (wants0 rfl) rfl rfl ?_
            refine T.bin .list rfl (wants0 rfl) rfl rfl rfl rfl ?_
            refine T.nil ?_
            refine T.then_normal ?_
            refine T.cond rfl (fun hb6 => ?_) (fun hb6 => ?_)
            ·replace hk6 := inv_posB hb6 hk6
             refine T.seq ?_
             refine T.region ?_
             refine T.assign .list rfl (wants0 rfl) rfl rfl ?_
             refine T.nil ?_
             refine T.then_normal ?_
             refine T.ret ?_
             refine T.in_ret ?_
             refine T.in_ret ?_
             refine T.in_ret ?_
             refine T.then_ret ?_
             refine T.then_ret ?_
             obtain rfl := inv_some hk6
             obtain rfl := hx1 _ rfl
             refine T.in_ret ?_
             refine T.then_ret ?_
             obtain rfl := inv_some hr
             refine T.pick [] 16 rfl rfl nla rfl ?_
             refine T.ret1 rfl rfl (fun w hS => ⟨(), rfl, hS⟩)
            ·replace hk6 := inv_negB hb6 hk6
             refine T.skip ?_
             refine T.in_normal ?_
             refine T.in_normal ?_
             refine T.in_normal ?_
             refine T.then_normal ?_
             exact T.le (EnvLe.cons rfl (EnvLe.cons rfl (EnvLe.cons rfl (EnvLe.cons rfl (EnvLe.cons rfl EnvLe.nil))))) (T.pick [0, 1, 2, 3, 4, 5, 6, 7, 8, 9, 10, 11, 12, 13] 16 rfl rfl nla rfl (J3 (r3.2, s2.2.1, s2.2.2.1) x11 hk6))
           ·replace hk6 := inv_negB hb5 hk6
            refine T.seq ?_
            refine T.region ?_
            refine T.field .list rfl (wants0 rfl) rfl rfl ?_
            refine T.loadN .list 14 rfl rfl (wants0 rfl) rfl rfl (vs := [.int .i64 ((((((l0).getD (s2.2.2.2 : Int).toNat default)).2.2.2).1)), .int .i64 ((((((l0).getD (s2.2.2.2 : Int).toNat default)).2.2.2).2.1)), .slice x8.2.2.2.2.2.1 (((((((l0).getD (s2.2.2.2 : Int).toNat default)).2.2.2).2.2)).length) x8.2.2.2.2.2.2]) rfl rfl ?_
            obtain ⟨r4, hg4, hk6⟩ := inv_bind hk6
            refine T.call .list (wants0 rfl) rfl (run_callF (vs := [_]) rfl Tryd.func7 rfl (by decide) rfl) (fun w hS => ref17_ReplyRight.c hB hS (i0a := 15) (a0 := ((((((l0).getD (s2.2.2.2 : Int).toNat default)).2.2.2).1), (((((l0).getD (s2.2.2.2 : Int).toNat default)).2.2.2).2.1), (((((l0).getD (s2.2.2.2 : Int).toNat default)).2.2.2).2.2))) rfl hg4) (fun x13 => ?_)
            refine T.not .list rfl (wants0 rfl) rfl rfl ?_
            refine T.assign .list rfl (wants0 rfl) rfl rfl ?_
            refine T.nil ?_
            refine T.then_normal ?_
            refine T.cond rfl (fun hb7 => ?_) (fun hb7 => ?_)
            ·replace hk6 := inv_posB hb7 hk6
             refine T.seq ?_
             refine T.region ?_
             refine T.move .list rfl (wants0 rfl) rfl rfl ?_
             refine T.bin .list rfl (wants0 rfl) rfl rfl rfl rfl ?_
             refine T.nil ?_
             refine T.then_normal ?_
             refine T.cond rfl (fun hb8 => ?_) (fun hb8 => ?_)
             ·replace hk6 := inv_posB hb8 hk6
              refine T.seq ?_
              refine T.region ?_
              refine T.assign .list rfl (wants0 rfl) rfl rfl ?_
              refine T.nil ?_
              refine T.then_normal ?_
              refine T.ret ?_
              refine T.in_ret ?_
              refine T.in_ret ?_
              refine T.in_ret ?_
              refine T.then_ret ?_
              refine T.then_ret ?_
              obtain rfl := inv_some hk6
              obtain rfl := hx1 _ rfl
              refine T.in_ret ?_
              refine T.then_ret ?_
              obtain rfl := inv_some hr
              refine T.pick [] 16 rfl rfl nla rfl ?_
              refine T.ret1 rfl rfl (fun w hS => ⟨(), rfl, hS⟩)
             ·replace hk6 := inv_negB hb8 hk6
              refine T.skip ?_
              refine T.in_normal ?_
              refine T.in_normal ?_
              refine T.in_normal ?_
              refine T.then_normal ?_
              exact T.le (EnvLe.cons rfl (EnvLe.cons rfl (EnvLe.cons rfl (EnvLe.cons rfl (EnvLe.cons rfl EnvLe.nil))))) (T.pick [0, 1, 2, 3, 4, 5, 6, 7, 8, 9, 10, 11, 12, 13] 16 rfl rfl nla rfl (J3 (r3.2, s2.2.1, s2.2.2.1) x11 hk6))
            ·replace hk6 := inv_negB hb7 hk6
             refine T.seq ?_
             refine T.seq ?_
             refine T.region ?_
             refine T.move .list rfl (wants0 rfl) rfl rfl ?_
             refine T.bin .list rfl (wants0 rfl) rfl rfl rfl rfl ?_
             refine T.nil ?_
             refine T.then_normal ?_
             refine T.cond rfl (fun hb9 => ?_) (fun hb9 => ?_)
             ·replace hk6 := inv_posB hb9 hk6
              refine T.seq ?_
              refine T.region ?_
              refine T.assign .list rfl (wants0 rfl) rfl rfl ?_
              refine T.nil ?_
              refine T.then_normal ?_
              refine T.ret ?_
              refine T.then_ret ?_
              refine T.in_ret ?_
              refine T.in_ret ?_
              refine T.in_ret ?_
              refine T.then_ret ?_
              refine T.then_ret ?_
              obtain rfl := inv_some hk6
              obtain rfl := hx1 _ rfl
              refine T.in_ret ?_
              refine T.then_ret ?_
              obtain rfl := inv_some hr
              refine T.pick [] 16 rfl rfl nla rfl ?_
              refine T.ret1 rfl rfl (fun w hS => ⟨(), rfl, hS⟩)
             ·replace hk6 := inv_negB hb9 hk6
              refine T.skip ?_
              refine T.then_normal ?_
              refine T.dStart mixed ?_
              refine T.field (.dPure (i := 0) rfl (by kernel_rfl) (fun d _ _ _ _ h => by cases d <;> exact h)) rfl (wants0 rfl) rfl rfl ?_
              refine T.field (.dPure (i := 2) rfl (by kernel_rfl) (fun d _ _ _ _ h => by cases d <;> exact h)) rfl (wants0 rfl) rfl rfl ?_
              refine T.field (.dPure (i := 4) rfl (by kernel_rfl) (fun d _ _ _ _ h => by cases d <;> exact h)) rfl (wants0 rfl) rfl rfl ?_
              refine T.field (.dPure (i := 6) rfl (by kernel_rfl) (fun d _ _ _ _ h => by cases d <;> exact h)) rfl (wants0 rfl) rfl rfl ?_
              refine T.dAdd 12 (fun w => w.heap[b3]? = some (.cells [.int .i64 (((((l0).getD (s2.2.2.2 : Int).toNat default)).1)), .int .i64 (((((l0).getD (s2.2.2.2 : Int).toNat default)).2.1)), .int .i64 (((((l0).getD (s2.2.2.2 : Int).toNat default)).2.2.1)), .int .i64 ((((((l0).getD (s2.2.2.2 : Int).toNat default)).2.2.2).1)), .int .i64 ((((((l0).getD (s2.2.2.2 : Int).toNat default)).2.2.2).2.1)), .slice x8.2.2.2.2.2.1 (((((((l0).getD (s2.2.2.2 : Int).toNat default)).2.2.2).2.2)).length) x8.2.2.2.2.2.2].toArray 34 (0, 0))) (Cl.stays 14 rfl) ?_
              refine T.valS 0 (i := 1) (.int .i64 (((((l0).getD (s2.2.2.2 : Int).toNat default)).2.1))) rfl rfl (by kernel_rfl) (by kernel_rfl) (fun d _ _ _ _ h => by cases d <;> exact h) (wants0 rfl) rfl (run_ldCl rfl rfl rfl) ?_
              refine T.valS 0 (i := 3) (.int .i64 (((((l0).getD (s2.2.2.2 : Int).toNat default)).2.1))) rfl rfl (by kernel_rfl) (by kernel_rfl) (fun d _ _ _ _ h => by cases d <;> exact h) (wants0 rfl) rfl (run_ldCl rfl rfl rfl) ?_
              refine T.valS 0 (i := 5) (.int .i64 (((((l0).getD (s2.2.2.2 : Int).toNat default)).2.2.1))) rfl rfl (by kernel_rfl) (by kernel_rfl) (fun d _ _ _ _ h => by cases d <;> exact h) (wants0 rfl) rfl (run_ldCl rfl rfl rfl) ?_
              obtain ⟨hc4, hk6⟩ := inv_chk hk6
              refine T.idxArr (.dPure (i := 8) rfl (by kernel_rfl) (fun d _ _ _ _ h => by cases d <;> exact h)) rfl (wants0 rfl) rfl rfl rfl hc4.1 hc4.2 ?_
              refine T.valS 0 (i := 7) (.agg #[.int .i64 ((((((l0).getD (s2.2.2.2 : Int).toNat default)).2.2.2).1)), .int .i64 ((((((l0).getD (s2.2.2.2 : Int).toNat default)).2.2.2).2.1)), .slice x8.2.2.2.2.2.1 (((((((l0).getD (s2.2.2.2 : Int).toNat default)).2.2.2).2.2)).length) x8.2.2.2.2.2.2]) rfl rfl (by kernel_rfl) (by kernel_rfl) (fun d _ _ _ _ h => by cases d <;> exact h) (wants0 rfl) rfl (run_ldClN rfl rfl (vs := [.int .i64 ((((((l0).getD (s2.2.2.2 : Int).toNat default)).2.2.2).1)), .int .i64 ((((((l0).getD (s2.2.2.2 : Int).toNat default)).2.2.2).2.1)), .slice x8.2.2.2.2.2.1 (((((((l0).getD (s2.2.2.2 : Int).toNat default)).2.2.2).2.2)).length) x8.2.2.2.2.2.2]) rfl rfl) ?_
              obtain ⟨hc5, hk6⟩ := inv_chk hk6
              refine T.dOnly (i := 9) (by kernel_rfl) ?_
              refine T.stArr (.dOne rfl (by kernel_rfl)) 12 rfl rfl (wants0 rfl) rfl rfl rfl rfl rfl hc5 rfl ?_
              refine T.dNext (phi_cons (.inr (Cl.stays 14 rfl)) phi_nil) ?_
              obtain ⟨hc6, hk6⟩ := inv_chk hk6
              refine T.idxArrE (.dPure (i := 10) rfl (by kernel_rfl) (fun d _ _ _ _ h => by cases d <;> exact h)) rfl (wants0 rfl) rfl rfl rfl hc6.1.1 hc6.2 ?_
              refine T.dOnly (i := 11) (by kernel_rfl) ?_
              refine T.stBfS (.dOne rfl (by kernel_rfl)) 13 (z := ((((((l0).getD (s2.2.2.2 : Int).toNat default)).2.2.2).1), (((((l0).getD (s2.2.2.2 : Int).toNat default)).2.2.2).2.1), (((((l0).getD (s2.2.2.2 : Int).toNat default)).2.2.2).2.2))) (us := [.int .i64 ((((((l0).getD (s2.2.2.2 : Int).toNat default)).2.2.2).1)), .int .i64 ((((((l0).getD (s2.2.2.2 : Int).toNat default)).2.2.2).2.1)), .slice x8.2.2.2.2.2.1 (((((((l0).getD (s2.2.2.2 : Int).toNat default)).2.2.2).2.2)).length) x8.2.2.2.2.2.2]) rfl rfl rfl (wants0 rfl) rfl rfl rfl (Has.pair (Has.sc rfl) (Has.pair (Has.sc rfl) (Has.slice 15 rfl rfl) rfl) rfl) hc6.1.1 hc6.1.2 rfl ?_
              refine T.dNext (phi_cons (.inr (Cl.stays 14 rfl)) phi_nil) ?_
              refine T.dDone (by kernel_rfl) ?_
              refine T.in_normal ?_
              refine T.in_normal ?_
              refine T.in_normal ?_
              refine T.then_normal ?_
              exact T.le (EnvLe.cons rfl (EnvLe.cons rfl (EnvLe.cons rfl (EnvLe.cons rfl (EnvLe.cons rfl EnvLe.nil))))) (T.pick [0, 1, 2, 3, 4, 5, 6, 7, 8, 9, 10, 11, 12, 13] 16 rfl rfl nla rfl (J3 (r3.2, ((s2.2.1).set ((0 + (((((l0).getD (s2.2.2.2 : Int).toNat default)).2.1) : Int).toNat * 1)) (((((l0).getD (s2.2.2.2 : Int).toNat default)).2.2.1))), ((s2.2.2.1).set (((((l0).getD (s2.2.2.2 : Int).toNat default)).2.1) : Int).toNat ((((((l0).getD (s2.2.2.2 : Int).toNat default)).2.2.2).1), (((((l0).getD (s2.2.2.2 : Int).toNat default)).2.2.2).2.1), (((((l0).getD (s2.2.2.2 : Int).toNat default)).2.2.2).2.2)))) x11 hk6))
         ·refine T.region ?_
          refine T.move .list rfl (wants0 rfl) rfl rfl ?_
          refine T.move .list rfl (wants0 rfl) rfl rfl ?_
          refine T.bool (b := s5) (fun hb10 => ?_) (fun hb10 => ?_)
          ·replace hk5 := inv_posB hb10 hk5
           refine T.leave .list (wantsNot rfl rfl rfl hb10) rfl ?_
           refine T.pickT .list rfl (wants0 rfl) rfl rfl hb10 rfl ?_
           refine T.assign .list rfl (wants0 rfl) rfl rfl ?_
           refine T.nil ?_
           refine T.then_normal ?_
           exact T.le (EnvLe.cons rfl (EnvLe.cons rfl (EnvLe.cons rfl (EnvLe.cons rfl (EnvLe.cons rfl (EnvLe.cons rfl (EnvLe.cons rfl (EnvLe.cons rfl EnvLe.nil)))))))) (T.pick [11, 0, 1, 2, 3, 4, 5, 6, 7, 8, 9, 10, 12, 13, 14, 15] 16 rfl rfl nla rfl (J6 true () hk5))
          ·replace hk5 := inv_negB hb10 hk5
           refine T.move .list rfl (wants1 rfl rfl rfl hb10) rfl rfl ?_
           refine T.pickF .list rfl (wants0 rfl) rfl rfl hb10 rfl ?_
           refine T.assign .list rfl (wants0 rfl) rfl rfl ?_
           refine T.nil ?_
           refine T.then_normal ?_
           exact T.le (EnvLe.cons rfl (EnvLe.cons rfl (EnvLe.cons rfl (EnvLe.cons rfl (EnvLe.cons rfl (EnvLe.cons rfl (EnvLe.cons rfl (EnvLe.cons rfl EnvLe.nil)))))))) (T.pick [11, 0, 1, 2, 3, 4, 5, 6, 7, 8, 9, 10, 12, 13, 14, 15] 16 rfl rfl nla rfl (J6 s6 () hk5))
        ·replace hk5 := inv_negB hb2 hk5
         refine T.seq ?_
         refine T.region ?_
         refine T.bin .list rfl (wants0 rfl) rfl rfl rfl rfl ?_
         refine T.assign .list rfl (wants0 rfl) rfl rfl ?_
         refine T.nil ?_
         refine T.then_normal ?_
         refine T.cond rfl (fun hb11 => ?_) (fun hb11 => ?_)
         ·replace hk5 := inv_posB hb11 hk5
          refine T.seq ?_
          refine T.region ?_
          refine T.move .list rfl (wants0 rfl) rfl rfl ?_
          refine T.field .list rfl (wants0 rfl) rfl rfl ?_
          refine T.load .list 14 rfl rfl (wants0 rfl) rfl rfl rfl ?_
          refine T.field .list rfl (wants0 rfl) rfl rfl ?_
          refine T.load .list 14 rfl rfl (wants0 rfl) rfl rfl rfl ?_
          refine T.pick [1, 2, 3, 4, 5, 6, 7, 8, 9, 10, 11, 0, 12, 13, 14, 15] 16 rfl rfl nla (hs' := Cl x2.1 84 [.pointer (some ⟨x2.2.1, 0, none⟩), .slice x5.1 s2.1.length x5.2] :: ck4 x2.2.1 r1p0.2.1 x2.2.2.1 :: ck2 x2.2.2.1 r1p0.2.2.1 x2.2.2.2.1 x2.2.2.2.2.2.2.2.2.1 x2.2.2.2.2.2.2.2.2.2.1 :: ck1 x2.2.2.2.1 r1p0.2.2.2.1 x2.2.2.2.2.1 x2.2.2.2.2.2.1 :: Mp E64 x2.2.2.2.2.1 r1p0.2.2.2.2.1 :: ck0 x2.2.2.2.2.2.1 r1p0.2.2.2.2.2.1 x2.2.2.2.2.2.2.1 x2.2.2.2.2.2.2.2.1.1 r1p0.2.2.2.2.2.2.2.1.length x2.2.2.2.2.2.2.2.1.2 :: Mp (Elt.slice E8) x2.2.2.2.2.2.2.1 r1p0.2.2.2.2.2.2.1 :: Bf (Elt.pair E64 (Elt.slice E8)) 174 x2.2.2.2.2.2.2.2.1.1 x2.2.2.2.2.2.2.2.1.2 r1p0.2.2.2.2.2.2.2.1 :: Mp E64 x2.2.2.2.2.2.2.2.2.1 r1p0.2.2.2.2.2.2.2.2.1 :: Mp E64 x2.2.2.2.2.2.2.2.2.2.1 r1p0.2.2.2.2.2.2.2.2.2.1 :: Bf (Elt.pair (Elt.pair E64 (Elt.pair (Elt.slice E8) (Elt.slice E8))) EBool) 88 x5.1 x5.2 s2.1 :: Ro (Elt.pair E64 (Elt.pair E64 (Elt.pair E64 (Elt.pair E64 (Elt.pair E64 (Elt.slice (Elt.slice (Elt.pair E64 (Elt.pair E64 EStr))))))))) A0 c0 l0 :: Cl b1 27 (s2.2.1.map (Value.int .i64)) :: Bf (Elt.pair E64 (Elt.pair E64 (Elt.slice (Elt.slice (Elt.pair E64 (Elt.pair E64 EStr)))))) 32 ((some ⟨b2, 0, none⟩)) 8 s2.2.2.1 :: Cl b3 34 [.int .i64 (((((l0).getD (s2.2.2.2 : Int).toNat default)).1)), .int .i64 (((((l0).getD (s2.2.2.2 : Int).toNat default)).2.1)), .int .i64 (((((l0).getD (s2.2.2.2 : Int).toNat default)).2.2.1)), .int .i64 ((((((l0).getD (s2.2.2.2 : Int).toNat default)).2.2.2).1)), .int .i64 ((((((l0).getD (s2.2.2.2 : Int).toNat default)).2.2.2).2.1)), .slice x8.2.2.2.2.2.1 (((((((l0).getD (s2.2.2.2 : Int).toNat default)).2.2.2).2.2)).length) x8.2.2.2.2.2.2] :: Ro (Elt.slice (Elt.pair E64 (Elt.pair E64 EStr))) x8.2.2.2.2.2.1 x8.2.2.2.2.2.2 ((((((l0).getD (s2.2.2.2 : Int).toNat default)).2.2.2).2.2)) :: hs) rfl ?_
          obtain ⟨r5, hg5, hk5⟩ := inv_bind hk5
          refine T.call .list (wants0 rfl) rfl (run_callF (vs := [_, _, _]) rfl Tryd.func8 rfl (by decide) rfl) (fun w hS => session_Look.c hB hS (o0a := r1p0.2.1) (o0aa := r1p0.2.2.1) (o0aaa := r1p0.2.2.2.1) (q0aaab := r1p0.2.2.2.2.1) (o0aaac := r1p0.2.2.2.2.2.1) (q0aaacb := r1p0.2.2.2.2.2.2.1) (q0aaacc := r1p0.2.2.2.2.2.2.2.1) (q0aah := r1p0.2.2.2.2.2.2.2.2.1) (q0aak := r1p0.2.2.2.2.2.2.2.2.2.1) (q0b := s2.1)  hg5) (fun x14 => ?_)
          refine T.move .list rfl (wants0 rfl) rfl rfl ?_
          refine T.extract .list rfl (wants0 rfl) rfl rfl rfl ?_
          refine T.extract .list rfl (wants0 rfl) rfl rfl rfl ?_
          refine T.extract .list rfl (wants0 rfl) rfl rfl rfl ?_
          refine T.allocS .list rfl (wants0 rfl) rfl (cs := [.int .i64 0, .int .i64 0, .slice none 0 0]) rfl (fun b4 => ?_)
          refine T.assign .list rfl (wants0 rfl) rfl rfl ?_
          refine T.store .list 0 rfl rfl (wants0 rfl) rfl rfl rfl rfl (Nat.le_of_ble_eq_true rfl) rfl (cs' := [.int .i64 r5.2.1.1, .int .i64 r5.2.1.2.1, .slice x14.1 r5.2.1.2.2.length x14.2]) rfl rfl ?_
          refine T.assign .list rfl (wants0 rfl) rfl rfl ?_
          refine T.nil ?_
          refine T.then_normal ?_
          refine T.seq ?_
          refine T.seqJ (fun (s8 : Bool) (x15 : Unit) => [(0, .slice A0 l0.length c0), (3, .pointer (some ⟨x2.1, 0, none⟩)), (5, .pointer (some ⟨b1, 0, none⟩)), (6, .pointer (some ⟨b2, 0, none⟩)), (7, .int .i64 s2.2.2.2), (8, .pointer (some ⟨b3, 0, none⟩)), (12, .int .i64 r5.1), (13, .pointer (some ⟨b4, 0, none⟩)), (14, .int .i64 r5.2.2), (150, .bool s8)]) (fun s8 x15 => Ro (Elt.pair E64 (Elt.pair E64 (Elt.pair E64 (Elt.pair E64 (Elt.pair E64 (Elt.slice (Elt.slice (Elt.pair E64 (Elt.pair E64 EStr))))))))) A0 c0 l0 :: Cl x2.1 84 [.pointer (some ⟨x2.2.1, 0, none⟩), .slice x5.1 s2.1.length x5.2] :: ck4 x2.2.1 r1p0.2.1 x2.2.2.1 :: ck2 x2.2.2.1 r1p0.2.2.1 x2.2.2.2.1 x2.2.2.2.2.2.2.2.2.1 x2.2.2.2.2.2.2.2.2.2.1 :: ck1 x2.2.2.2.1 r1p0.2.2.2.1 x2.2.2.2.2.1 x2.2.2.2.2.2.1 :: Mp E64 x2.2.2.2.2.1 r1p0.2.2.2.2.1 :: ck0 x2.2.2.2.2.2.1 r1p0.2.2.2.2.2.1 x2.2.2.2.2.2.2.1 x2.2.2.2.2.2.2.2.1.1 r1p0.2.2.2.2.2.2.2.1.length x2.2.2.2.2.2.2.2.1.2 :: Mp (Elt.slice E8) x2.2.2.2.2.2.2.1 r1p0.2.2.2.2.2.2.1 :: Bf (Elt.pair E64 (Elt.slice E8)) 174 x2.2.2.2.2.2.2.2.1.1 x2.2.2.2.2.2.2.2.1.2 r1p0.2.2.2.2.2.2.2.1 :: Mp E64 x2.2.2.2.2.2.2.2.2.1 r1p0.2.2.2.2.2.2.2.2.1 :: Mp E64 x2.2.2.2.2.2.2.2.2.2.1 r1p0.2.2.2.2.2.2.2.2.2.1 :: Bf (Elt.pair (Elt.pair E64 (Elt.pair (Elt.slice E8) (Elt.slice E8))) EBool) 88 x5.1 x5.2 s2.1 :: Cl b1 27 (s2.2.1.map (Value.int .i64)) :: Bf (Elt.pair E64 (Elt.pair E64 (Elt.slice (Elt.slice (Elt.pair E64 (Elt.pair E64 EStr)))))) 32 ((some ⟨b2, 0, none⟩)) 8 s2.2.2.1 :: Cl b3 34 [.int .i64 (((((l0).getD (s2.2.2.2 : Int).toNat default)).1)), .int .i64 (((((l0).getD (s2.2.2.2 : Int).toNat default)).2.1)), .int .i64 (((((l0).getD (s2.2.2.2 : Int).toNat default)).2.2.1)), .int .i64 ((((((l0).getD (s2.2.2.2 : Int).toNat default)).2.2.2).1)), .int .i64 ((((((l0).getD (s2.2.2.2 : Int).toNat default)).2.2.2).2.1)), .slice x8.2.2.2.2.2.1 (((((((l0).getD (s2.2.2.2 : Int).toNat default)).2.2.2).2.2)).length) x8.2.2.2.2.2.2] :: Ro (Elt.slice (Elt.pair E64 (Elt.pair E64 EStr))) x8.2.2.2.2.2.1 x8.2.2.2.2.2.2 ((((((l0).getD (s2.2.2.2 : Int).toNat default)).2.2.2).2.2)) :: Cl b4 31 [.int .i64 r5.2.1.1, .int .i64 r5.2.1.2.1, .slice x14.1 r5.2.1.2.2.length x14.2] :: Ro (Elt.slice (Elt.pair E64 (Elt.pair E64 EStr))) x14.1 x14.2 r5.2.1.2.2 :: hs) (fun s8 => law18_SessionPlays.k7 r5 s2 l0 s8 = some o1) (fun s8 x15 hk7 => ?_) (fun J7 => ?_)
          ·unfold law18_SessionPlays.k7 at hk7
           refine T.cond rfl (fun hb12 => ?_) (fun hb12 => ?_)
           ·replace hk7 := inv_posB hb12 hk7
            refine T.seq ?_
            refine T.seqJ (fun (s9 : Bool) (x16 : Unit) => [(0, .slice A0 l0.length c0), (3, .pointer (some ⟨x2.1, 0, none⟩)), (5, .pointer (some ⟨b1, 0, none⟩)), (6, .pointer (some ⟨b2, 0, none⟩)), (7, .int .i64 s2.2.2.2), (162, .bool s9)]) (fun s9 x16 => Ro (Elt.pair E64 (Elt.pair E64 (Elt.pair E64 (Elt.pair E64 (Elt.pair E64 (Elt.slice (Elt.slice (Elt.pair E64 (Elt.pair E64 EStr))))))))) A0 c0 l0 :: Cl x2.1 84 [.pointer (some ⟨x2.2.1, 0, none⟩), .slice x5.1 s2.1.length x5.2] :: ck4 x2.2.1 r1p0.2.1 x2.2.2.1 :: ck2 x2.2.2.1 r1p0.2.2.1 x2.2.2.2.1 x2.2.2.2.2.2.2.2.2.1 x2.2.2.2.2.2.2.2.2.2.1 :: ck1 x2.2.2.2.1 r1p0.2.2.2.1 x2.2.2.2.2.1 x2.2.2.2.2.2.1 :: Mp E64 x2.2.2.2.2.1 r1p0.2.2.2.2.1 :: ck0 x2.2.2.2.2.2.1 r1p0.2.2.2.2.2.1 x2.2.2.2.2.2.2.1 x2.2.2.2.2.2.2.2.1.1 r1p0.2.2.2.2.2.2.2.1.length x2.2.2.2.2.2.2.2.1.2 :: Mp (Elt.slice E8) x2.2.2.2.2.2.2.1 r1p0.2.2.2.2.2.2.1 :: Bf (Elt.pair E64 (Elt.slice E8)) 174 x2.2.2.2.2.2.2.2.1.1 x2.2.2.2.2.2.2.2.1.2 r1p0.2.2.2.2.2.2.2.1 :: Mp E64 x2.2.2.2.2.2.2.2.2.1 r1p0.2.2.2.2.2.2.2.2.1 :: Mp E64 x2.2.2.2.2.2.2.2.2.2.1 r1p0.2.2.2.2.2.2.2.2.2.1 :: Bf (Elt.pair (Elt.pair E64 (Elt.pair (Elt.slice E8) (Elt.slice E8))) EBool) 88 x5.1 x5.2 s2.1 :: Cl b1 27 (s2.2.1.map (Value.int .i64)) :: Bf (Elt.pair E64 (Elt.pair E64 (Elt.slice (Elt.slice (Elt.pair E64 (Elt.pair E64 EStr)))))) 32 ((some ⟨b2, 0, none⟩)) 8 s2.2.2.1 :: hs) (fun s9 => law18_SessionPlays.k8 s2 s9 = some o1) (fun s9 x16 hk8 => ?_) (fun J8 => ?_)
            ·unfold law18_SessionPlays.k8 at hk8
             refine T.cond rfl (fun hb13 => ?_) (fun hb13 => ?_)
             ·replace hk8 := inv_posB hb13 hk8
              refine T.seq ?_
              refine T.region ?_
              refine T.assign .list rfl (wants0 rfl) rfl rfl ?_
              refine T.nil ?_
              refine T.then_normal ?_
              refine T.ret ?_
              refine T.then_ret ?_
              refine T.then_ret ?_
              refine T.in_ret ?_
              refine T.in_ret ?_
              refine T.then_ret ?_
              refine T.then_ret ?_
              obtain rfl := inv_some hk8
              obtain rfl := hx1 _ rfl
              refine T.in_ret ?_
              refine T.then_ret ?_
              obtain rfl := inv_some hr
              refine T.pick [] 14 rfl rfl nla rfl ?_
              refine T.ret1 rfl rfl (fun w hS => ⟨(), rfl, hS⟩)
             ·replace hk8 := inv_negB hb13 hk8
              refine T.skip ?_
              refine T.then_normal ?_
              refine T.exit ?_
              refine T.then_exit ?_
              refine T.in_miss rfl ?_
              refine T.in_hit ?_
              refine T.then_normal ?_
              exact T.le (EnvLe.cons rfl (EnvLe.cons rfl (EnvLe.cons rfl (EnvLe.cons rfl (EnvLe.cons rfl EnvLe.nil))))) (T.pick [0, 1, 2, 3, 4, 5, 6, 7, 8, 9, 10, 11, 12, 13] 14 rfl rfl nla rfl (J3 (s2.1, s2.2.1, s2.2.2.1) x5 hk8))
            ·refine T.region ?_
             refine T.move .list rfl (wants0 rfl) rfl rfl ?_
             refine T.bin .list rfl (wants0 rfl) rfl rfl rfl rfl ?_
             refine T.move .list rfl (wants0 rfl) rfl rfl ?_
             refine T.bool (b := (decide (r5.2.2 = 1))) (fun hb14 => ?_) (fun hb14 => ?_)
             ·replace hk7 := inv_posB hb14 hk7
              refine T.move .list rfl (wants1 rfl rfl rfl (not_t hb14)) rfl rfl ?_
              refine T.bin .list rfl (wants1 rfl rfl rfl (not_t hb14)) rfl rfl rfl rfl ?_
              refine T.pickF .list rfl (wants0 rfl) rfl rfl (not_t hb14) rfl ?_
              refine T.move .list rfl (wants0 rfl) rfl rfl ?_
              refine T.bool (b := (decide (r5.1 = 0))) (fun hb15 => ?_) (fun hb15 => ?_)
              ·replace hk7 := inv_posB hb15 hk7
               refine T.loadN .list 16 rfl rfl (wants1 rfl rfl rfl (not_t hb15)) rfl rfl (vs := [.int .i64 r5.2.1.1, .int .i64 r5.2.1.2.1, .slice x14.1 r5.2.1.2.2.length x14.2]) rfl rfl ?_
               refine T.build .list (vals := []) (cells := #[.int .i64 0, .int .i64 0, .slice none 0 0]) rfl (wants1 rfl rfl rfl (not_t hb15)) rfl rfl (run_buildStruct (sizes := [1, 1, 1]) (by kernel_rfl) (by kernel_rfl)) ?_
               refine T.nilRo (Elt.slice (Elt.pair E64 (Elt.pair E64 EStr))) none 0 ?_
               obtain ⟨r6, hg6, hk7⟩ := inv_bind hk7
               refine T.call .list (wants1 rfl rfl rfl (not_t hb15)) rfl (run_callF (vs := [_, _]) rfl Tryd.func9 rfl (by decide) rfl) (fun w hS => ref16_Same.c hB hS (i0a := 18) (i1a := 0) (a0 := r5.2.1) (a1 := (0, 0, ([] : List (List (Int × Int × (List UInt8)))))) rfl rfl hg6) (fun x17 => ?_)
               refine T.not .list rfl (wants1 rfl rfl rfl (not_t hb15)) rfl rfl ?_
               refine T.pickF .list rfl (wants0 rfl) rfl rfl (not_t hb15) rfl ?_
               refine T.nil ?_
               refine T.then_normal ?_
               exact T.le (EnvLe.cons rfl (EnvLe.cons rfl (EnvLe.cons rfl (EnvLe.cons rfl (EnvLe.cons rfl (EnvLe.cons rfl EnvLe.nil)))))) (T.pick [1, 2, 3, 4, 5, 6, 7, 8, 9, 10, 11, 12, 13, 14] 19 rfl rfl nla rfl (J8 (!r6) () hk7))
              ·replace hk7 := inv_negB hb15 hk7
               refine T.leave .list (wantsNot rfl rfl rfl (not_f hb15)) rfl ?_
               refine T.leave .list (wantsNot rfl rfl rfl (not_f hb15)) rfl ?_
               refine T.leave .list (wantsNot rfl rfl rfl (not_f hb15)) rfl ?_
               refine T.leave .list (wantsNot rfl rfl rfl (not_f hb15)) rfl ?_
               refine T.pickT .list rfl (wants0 rfl) rfl rfl (not_f hb15) rfl ?_
               refine T.nil ?_
               refine T.then_normal ?_
               exact T.le (EnvLe.cons rfl (EnvLe.cons rfl (EnvLe.cons rfl (EnvLe.cons rfl (EnvLe.cons rfl (EnvLe.cons rfl EnvLe.nil)))))) (T.pick [0, 1, 2, 3, 4, 5, 6, 7, 8, 9, 10, 11, 12, 13] 18 rfl rfl nla rfl (J8 true () hk7))
             ·replace hk7 := inv_negB hb14 hk7
              refine T.leave .list (wantsNot rfl rfl rfl (not_f hb14)) rfl ?_
              refine T.leave .list (wantsNot rfl rfl rfl (not_f hb14)) rfl ?_
              refine T.pickT .list rfl (wants0 rfl) rfl rfl (not_f hb14) rfl ?_
              refine T.move .list rfl (wants0 rfl) rfl rfl ?_
              refine T.leave .list (wantsNot rfl rfl rfl rfl) rfl ?_
              refine T.leave .list (wantsNot rfl rfl rfl rfl) rfl ?_
              refine T.leave .list (wantsNot rfl rfl rfl rfl) rfl ?_
              refine T.leave .list (wantsNot rfl rfl rfl rfl) rfl ?_
              refine T.pickT .list rfl (wants0 rfl) rfl rfl rfl rfl ?_
              refine T.nil ?_
              refine T.then_normal ?_
              exact T.le (EnvLe.cons rfl (EnvLe.cons rfl (EnvLe.cons rfl (EnvLe.cons rfl (EnvLe.cons rfl (EnvLe.cons rfl EnvLe.nil)))))) (T.pick [0, 1, 2, 3, 4, 5, 6, 7, 8, 9, 10, 11, 12, 13] 18 rfl rfl nla rfl (J8 true () hk7))
           ·replace hk7 := inv_negB hb12 hk7
            refine T.skip ?_
            refine T.then_normal ?_
            refine T.seq ?_
            refine T.region ?_
            refine T.build .list (vals := []) (cells := #[.int .i64 0, .int .i64 0, .slice none 0 0]) rfl (wants0 rfl) rfl rfl (run_buildStruct (sizes := [1, 1, 1]) (by kernel_rfl) (by kernel_rfl)) ?_
            refine T.allocS .list rfl (wants0 rfl) rfl (cs := [.int .i64 0, .int .i64 0, .slice none 0 0]) rfl (fun b5 => ?_)
            refine T.assign .list rfl (wants0 rfl) rfl rfl ?_
            refine T.store .list 0 rfl rfl (wants0 rfl) rfl rfl rfl rfl (Nat.le_of_ble_eq_true rfl) rfl (cs' := [.int .i64 0, .int .i64 0, .slice none 0 0]) rfl rfl ?_
            refine T.nil ?_
            refine T.then_normal ?_
            refine T.seqJ (fun (s10 : Int) (x18 : Unit) => [(0, .slice A0 l0.length c0), (3, .pointer (some ⟨x2.1, 0, none⟩)), (5, .pointer (some ⟨b1, 0, none⟩)), (6, .pointer (some ⟨b2, 0, none⟩)), (7, .int .i64 s2.2.2.2), (8, .pointer (some ⟨b3, 0, none⟩)), (12, .int .i64 r5.1), (13, .pointer (some ⟨b4, 0, none⟩)), (14, .int .i64 r5.2.2), (15, .int .i64 s10), (16, .pointer (some ⟨b5, 0, none⟩))]) (fun s10 x18 => Ro (Elt.pair E64 (Elt.pair E64 (Elt.pair E64 (Elt.pair E64 (Elt.pair E64 (Elt.slice (Elt.slice (Elt.pair E64 (Elt.pair E64 EStr))))))))) A0 c0 l0 :: Cl x2.1 84 [.pointer (some ⟨x2.2.1, 0, none⟩), .slice x5.1 s2.1.length x5.2] :: ck4 x2.2.1 r1p0.2.1 x2.2.2.1 :: ck2 x2.2.2.1 r1p0.2.2.1 x2.2.2.2.1 x2.2.2.2.2.2.2.2.2.1 x2.2.2.2.2.2.2.2.2.2.1 :: ck1 x2.2.2.2.1 r1p0.2.2.2.1 x2.2.2.2.2.1 x2.2.2.2.2.2.1 :: Mp E64 x2.2.2.2.2.1 r1p0.2.2.2.2.1 :: ck0 x2.2.2.2.2.2.1 r1p0.2.2.2.2.2.1 x2.2.2.2.2.2.2.1 x2.2.2.2.2.2.2.2.1.1 r1p0.2.2.2.2.2.2.2.1.length x2.2.2.2.2.2.2.2.1.2 :: Mp (Elt.slice E8) x2.2.2.2.2.2.2.1 r1p0.2.2.2.2.2.2.1 :: Bf (Elt.pair E64 (Elt.slice E8)) 174 x2.2.2.2.2.2.2.2.1.1 x2.2.2.2.2.2.2.2.1.2 r1p0.2.2.2.2.2.2.2.1 :: Mp E64 x2.2.2.2.2.2.2.2.2.1 r1p0.2.2.2.2.2.2.2.2.1 :: Mp E64 x2.2.2.2.2.2.2.2.2.2.1 r1p0.2.2.2.2.2.2.2.2.2.1 :: Bf (Elt.pair (Elt.pair E64 (Elt.pair (Elt.slice E8) (Elt.slice E8))) EBool) 88 x5.1 x5.2 s2.1 :: Cl b1 27 (s2.2.1.map (Value.int .i64)) :: Bf (Elt.pair E64 (Elt.pair E64 (Elt.slice (Elt.slice (Elt.pair E64 (Elt.pair E64 EStr)))))) 32 ((some ⟨b2, 0, none⟩)) 8 s2.2.2.1 :: Cl b3 34 [.int .i64 (((((l0).getD (s2.2.2.2 : Int).toNat default)).1)), .int .i64 (((((l0).getD (s2.2.2.2 : Int).toNat default)).2.1)), .int .i64 (((((l0).getD (s2.2.2.2 : Int).toNat default)).2.2.1)), .int .i64 ((((((l0).getD (s2.2.2.2 : Int).toNat default)).2.2.2).1)), .int .i64 ((((((l0).getD (s2.2.2.2 : Int).toNat default)).2.2.2).2.1)), .slice x8.2.2.2.2.2.1 (((((((l0).getD (s2.2.2.2 : Int).toNat default)).2.2.2).2.2)).length) x8.2.2.2.2.2.2] :: Ro (Elt.slice (Elt.pair E64 (Elt.pair E64 EStr))) x8.2.2.2.2.2.1 x8.2.2.2.2.2.2 ((((((l0).getD (s2.2.2.2 : Int).toNat default)).2.2.2).2.2)) :: Cl b4 31 [.int .i64 r5.2.1.1, .int .i64 r5.2.1.2.1, .slice x14.1 r5.2.1.2.2.length x14.2] :: Ro (Elt.slice (Elt.pair E64 (Elt.pair E64 EStr))) x14.1 x14.2 r5.2.1.2.2 :: Cl b5 31 [.int .i64 0, .int .i64 0, .slice none 0 0] :: hs) (fun s10 => law18_SessionPlays.k9 l0 s2 r5 s10 = some o1) (fun s10 x18 hk9 => ?_) (fun J9 => ?_)
            ·unfold law18_SessionPlays.k9 at hk9
             refine T.seqJ (fun (s11 : Int × Int × Int × (List (List (Int × Int × (List UInt8))))) (x19 : (Option Addr × Nat)) => [(0, .slice A0 l0.length c0), (3, .pointer (some ⟨x2.1, 0, none⟩)), (5, .pointer (some ⟨b1, 0, none⟩)), (6, .pointer (some ⟨b2, 0, none⟩)), (7, .int .i64 s2.2.2.2), (12, .int .i64 r5.1), (13, .pointer (some ⟨b4, 0, none⟩)), (14, .int .i64 r5.2.2), (15, .int .i64 s11.1), (16, .pointer (some ⟨b5, 0, none⟩))]) (fun s11 x19 => Ro (Elt.pair E64 (Elt.pair E64 (Elt.pair E64 (Elt.pair E64 (Elt.pair E64 (Elt.slice (Elt.slice (Elt.pair E64 (Elt.pair E64 EStr))))))))) A0 c0 l0 :: Cl x2.1 84 [.pointer (some ⟨x2.2.1, 0, none⟩), .slice x5.1 s2.1.length x5.2] :: ck4 x2.2.1 r1p0.2.1 x2.2.2.1 :: ck2 x2.2.2.1 r1p0.2.2.1 x2.2.2.2.1 x2.2.2.2.2.2.2.2.2.1 x2.2.2.2.2.2.2.2.2.2.1 :: ck1 x2.2.2.2.1 r1p0.2.2.2.1 x2.2.2.2.2.1 x2.2.2.2.2.2.1 :: Mp E64 x2.2.2.2.2.1 r1p0.2.2.2.2.1 :: ck0 x2.2.2.2.2.2.1 r1p0.2.2.2.2.2.1 x2.2.2.2.2.2.2.1 x2.2.2.2.2.2.2.2.1.1 r1p0.2.2.2.2.2.2.2.1.length x2.2.2.2.2.2.2.2.1.2 :: Mp (Elt.slice E8) x2.2.2.2.2.2.2.1 r1p0.2.2.2.2.2.2.1 :: Bf (Elt.pair E64 (Elt.slice E8)) 174 x2.2.2.2.2.2.2.2.1.1 x2.2.2.2.2.2.2.2.1.2 r1p0.2.2.2.2.2.2.2.1 :: Mp E64 x2.2.2.2.2.2.2.2.2.1 r1p0.2.2.2.2.2.2.2.2.1 :: Mp E64 x2.2.2.2.2.2.2.2.2.2.1 r1p0.2.2.2.2.2.2.2.2.2.1 :: Bf (Elt.pair (Elt.pair E64 (Elt.pair (Elt.slice E8) (Elt.slice E8))) EBool) 88 x5.1 x5.2 s2.1 :: Cl b1 27 (s2.2.1.map (Value.int .i64)) :: Bf (Elt.pair E64 (Elt.pair E64 (Elt.slice (Elt.slice (Elt.pair E64 (Elt.pair E64 EStr)))))) 32 ((some ⟨b2, 0, none⟩)) 8 s2.2.2.1 :: Cl b4 31 [.int .i64 r5.2.1.1, .int .i64 r5.2.1.2.1, .slice x14.1 r5.2.1.2.2.length x14.2] :: Ro (Elt.slice (Elt.pair E64 (Elt.pair E64 EStr))) x14.1 x14.2 r5.2.1.2.2 :: Cl b5 31 [.int .i64 s11.2.1, .int .i64 s11.2.2.1, .slice x19.1 s11.2.2.2.length x19.2] :: Ro (Elt.slice (Elt.pair E64 (Elt.pair E64 EStr))) x19.1 x19.2 s11.2.2.2 :: hs) (fun s11 => law18_SessionPlays.k10 r5 s2 s11 = some o1) (fun s11 x19 hk10 => ?_) (fun J10 => ?_)
             ·unfold law18_SessionPlays.k10 at hk10
              refine T.seqJ (fun (s12 : Bool) (x20 : Unit) => [(0, .slice A0 l0.length c0), (3, .pointer (some ⟨x2.1, 0, none⟩)), (5, .pointer (some ⟨b1, 0, none⟩)), (6, .pointer (some ⟨b2, 0, none⟩)), (7, .int .i64 s2.2.2.2), (194, .bool s12)]) (fun s12 x20 => Ro (Elt.pair E64 (Elt.pair E64 (Elt.pair E64 (Elt.pair E64 (Elt.pair E64 (Elt.slice (Elt.slice (Elt.pair E64 (Elt.pair E64 EStr))))))))) A0 c0 l0 :: Cl x2.1 84 [.pointer (some ⟨x2.2.1, 0, none⟩), .slice x5.1 s2.1.length x5.2] :: ck4 x2.2.1 r1p0.2.1 x2.2.2.1 :: ck2 x2.2.2.1 r1p0.2.2.1 x2.2.2.2.1 x2.2.2.2.2.2.2.2.2.1 x2.2.2.2.2.2.2.2.2.2.1 :: ck1 x2.2.2.2.1 r1p0.2.2.2.1 x2.2.2.2.2.1 x2.2.2.2.2.2.1 :: Mp E64 x2.2.2.2.2.1 r1p0.2.2.2.2.1 :: ck0 x2.2.2.2.2.2.1 r1p0.2.2.2.2.2.1 x2.2.2.2.2.2.2.1 x2.2.2.2.2.2.2.2.1.1 r1p0.2.2.2.2.2.2.2.1.length x2.2.2.2.2.2.2.2.1.2 :: Mp (Elt.slice E8) x2.2.2.2.2.2.2.1 r1p0.2.2.2.2.2.2.1 :: Bf (Elt.pair E64 (Elt.slice E8)) 174 x2.2.2.2.2.2.2.2.1.1 x2.2.2.2.2.2.2.2.1.2 r1p0.2.2.2.2.2.2.2.1 :: Mp E64 x2.2.2.2.2.2.2.2.2.1 r1p0.2.2.2.2.2.2.2.2.1 :: Mp E64 x2.2.2.2.2.2.2.2.2.2.1 r1p0.2.2.2.2.2.2.2.2.2.1 :: Bf (Elt.pair (Elt.pair E64 (Elt.pair (Elt.slice E8) (Elt.slice E8))) EBool) 88 x5.1 x5.2 s2.1 :: Cl b1 27 (s2.2.1.map (Value.int .i64)) :: Bf (Elt.pair E64 (Elt.pair E64 (Elt.slice (Elt.slice (Elt.pair E64 (Elt.pair E64 EStr)))))) 32 ((some ⟨b2, 0, none⟩)) 8 s2.2.2.1 :: hs) (fun s12 => law18_SessionPlays.k11 s2 s12 = some o1) (fun s12 x20 hk11 => ?_) (fun J11 => ?_)
              ·unfold law18_SessionPlays.k11 at hk11
               refine T.cond rfl (fun hb16 => ?_) (fun hb16 => ?_)
               ·replace hk11 := inv_posB hb16 hk11
                refine T.seq ?_
                refine T.region ?_
                refine T.assign .list rfl (wants0 rfl) rfl rfl ?_
                refine T.nil ?_
                refine T.then_normal ?_
                refine T.ret ?_
                refine T.in_ret ?_
                refine T.in_ret ?_
                refine T.then_ret ?_
                refine T.then_ret ?_
                obtain rfl := inv_some hk11
                obtain rfl := hx1 _ rfl
                refine T.in_ret ?_
                refine T.then_ret ?_
                obtain rfl := inv_some hr
                refine T.pick [] 14 rfl rfl nla rfl ?_
                refine T.ret1 rfl rfl (fun w hS => ⟨(), rfl, hS⟩)
               ·replace hk11 := inv_negB hb16 hk11
                refine T.skip ?_
                refine T.in_normal ?_
                refine T.in_normal ?_
                refine T.then_normal ?_
                exact T.le (EnvLe.cons rfl (EnvLe.cons rfl (EnvLe.cons rfl (EnvLe.cons rfl (EnvLe.cons rfl EnvLe.nil))))) (T.pick [0, 1, 2, 3, 4, 5, 6, 7, 8, 9, 10, 11, 12, 13] 14 rfl rfl nla rfl (J3 (s2.1, s2.2.1, s2.2.2.1) x5 hk11))
              ·refine T.region ?_
               refine T.move .list rfl (wants0 rfl) rfl rfl ?_
               refine T.bin .list rfl (wants0 rfl) rfl rfl rfl rfl ?_
               refine T.move .list rfl (wants0 rfl) rfl rfl ?_
               refine T.bool (b := (decide (r5.2.2 = 0))) (fun hb17 => ?_) (fun hb17 => ?_)
               ·replace hk10 := inv_posB hb17 hk10
                refine T.move .list rfl (wants1 rfl rfl rfl (not_t hb17)) rfl rfl ?_
                refine T.move .list rfl (wants1 rfl rfl rfl (not_t hb17)) rfl rfl ?_
                refine T.bin .list rfl (wants1 rfl rfl rfl (not_t hb17)) rfl rfl rfl rfl ?_
                refine T.pickF .list rfl (wants0 rfl) rfl rfl (not_t hb17) rfl ?_
                refine T.move .list rfl (wants0 rfl) rfl rfl ?_
                refine T.bool (b := (decide (r5.1 = s11.1))) (fun hb18 => ?_) (fun hb18 => ?_)
                ·replace hk10 := inv_posB hb18 hk10
                 refine T.loadN .list 14 rfl rfl (wants1 rfl rfl rfl (not_t hb18)) rfl rfl (vs := [.int .i64 r5.2.1.1, .int .i64 r5.2.1.2.1, .slice x14.1 r5.2.1.2.2.length x14.2]) rfl rfl ?_
                 refine T.loadN .list 16 rfl rfl (wants1 rfl rfl rfl (not_t hb18)) rfl rfl (vs := [.int .i64 s11.2.1, .int .i64 s11.2.2.1, .slice x19.1 s11.2.2.2.length x19.2]) rfl rfl ?_
                 obtain ⟨r7, hg7, hk10⟩ := inv_bind hk10
                 refine T.call .list (wants1 rfl rfl rfl (not_t hb18)) rfl (run_callF (vs := [_, _]) rfl Tryd.func9 rfl (by decide) rfl) (fun w hS => ref16_Same.c hB hS (i0a := 15) (i1a := 17) (a0 := r5.2.1) (a1 := s11.2) rfl rfl hg7) (fun x21 => ?_)
                 refine T.not .list rfl (wants1 rfl rfl rfl (not_t hb18)) rfl rfl ?_
                 refine T.pickF .list rfl (wants0 rfl) rfl rfl (not_t hb18) rfl ?_
                 refine T.nil ?_
                 refine T.then_normal ?_
                 exact T.le (EnvLe.cons rfl (EnvLe.cons rfl (EnvLe.cons rfl (EnvLe.cons rfl (EnvLe.cons rfl (EnvLe.cons rfl EnvLe.nil)))))) (T.pick [0, 1, 2, 3, 4, 5, 6, 7, 8, 9, 10, 11, 12, 13] 18 rfl rfl nla rfl (J11 (!r7) () hk10))
                ·replace hk10 := inv_negB hb18 hk10
                 refine T.leave .list (wantsNot rfl rfl rfl (not_f hb18)) rfl ?_
                 refine T.leave .list (wantsNot rfl rfl rfl (not_f hb18)) rfl ?_
                 refine T.leave .list (wantsNot rfl rfl rfl (not_f hb18)) rfl ?_
                 refine T.leave .list (wantsNot rfl rfl rfl (not_f hb18)) rfl ?_
                 refine T.pickT .list rfl (wants0 rfl) rfl rfl (not_f hb18) rfl ?_
                 refine T.nil ?_
                 refine T.then_normal ?_
                 exact T.le (EnvLe.cons rfl (EnvLe.cons rfl (EnvLe.cons rfl (EnvLe.cons rfl (EnvLe.cons rfl (EnvLe.cons rfl EnvLe.nil)))))) (T.pick [0, 1, 2, 3, 4, 5, 6, 7, 8, 9, 10, 11, 12, 13] 18 rfl rfl nla rfl (J11 true () hk10))
               ·replace hk10 := inv_negB hb17 hk10
                refine T.leave .list (wantsNot rfl rfl rfl (not_f hb17)) rfl ?_
                refine T.leave .list (wantsNot rfl rfl rfl (not_f hb17)) rfl ?_
                refine T.leave .list (wantsNot rfl rfl rfl (not_f hb17)) rfl ?_
                refine T.pickT .list rfl (wants0 rfl) rfl rfl (not_f hb17) rfl ?_
                refine T.move .list rfl (wants0 rfl) rfl rfl ?_
                refine T.leave .list (wantsNot rfl rfl rfl rfl) rfl ?_
                refine T.leave .list (wantsNot rfl rfl rfl rfl) rfl ?_
                refine T.leave .list (wantsNot rfl rfl rfl rfl) rfl ?_
                refine T.leave .list (wantsNot rfl rfl rfl rfl) rfl ?_
                refine T.pickT .list rfl (wants0 rfl) rfl rfl rfl rfl ?_
                refine T.nil ?_
                refine T.then_normal ?_
                exact T.le (EnvLe.cons rfl (EnvLe.cons rfl (EnvLe.cons rfl (EnvLe.cons rfl (EnvLe.cons rfl (EnvLe.cons rfl EnvLe.nil)))))) (T.pick [0, 1, 2, 3, 4, 5, 6, 7, 8, 9, 10, 11, 12, 13] 18 rfl rfl nla rfl (J11 true () hk10))
             ·refine T.seq ?_
              refine T.plan [(0, 0), (2, 0), (1, 1), (3, 1), (4, 0), (5, 1), (6, 0)] mixed (by kernel_rfl) (by kernel_rfl) rfl (fun d _ _ _ _ h => by cases d <;> exact h) ?_
              refine T.field (.plan rfl) rfl (wants0 rfl) rfl rfl ?_
              refine T.field (.plan rfl) rfl (wants0 rfl) rfl rfl ?_
              refine T.load (.plan rfl) 14 rfl rfl (wants0 rfl) rfl rfl rfl ?_
              refine T.load (.plan rfl) 14 rfl rfl (wants0 rfl) rfl rfl rfl ?_
              obtain ⟨hc7, hk9⟩ := inv_chk hk9
              refine T.idxArr (.plan rfl) rfl (wants0 rfl) rfl rfl rfl hc7.1 hc7.2 ?_
              obtain ⟨hc8, hk9⟩ := inv_chk hk9
              refine T.ldArr (.plan rfl) 12 rfl rfl (wants0 rfl) rfl rfl hc8 ?_
              refine T.bin (.plan rfl) rfl (wants0 rfl) rfl rfl rfl rfl ?_
              refine T.planEnd ?_
              refine T.then_normal ?_
              refine T.cond rfl (fun hb19 => ?_) (fun hb19 => ?_)
              ·replace hk9 := inv_posB hb19 hk9
               refine T.plan [(0, 0), (4, 0), (1, 1), (2, 0), (3, 1), (5, 2)] mixed (by kernel_rfl) (by kernel_rfl) rfl (fun d _ _ _ _ h => by cases d <;> exact h) ?_
               refine T.field (.plan rfl) rfl (wants0 rfl) rfl rfl ?_
               refine T.assign (.plan rfl) rfl (wants0 rfl) rfl rfl ?_
               refine T.load (.plan rfl) 14 rfl rfl (wants0 rfl) rfl rfl rfl ?_
               obtain ⟨hc9, hk9⟩ := inv_chk hk9
               refine T.idxArrE (.plan rfl) rfl (wants0 rfl) rfl rfl rfl hc9.1.1 hc9.2 ?_
               refine T.ldFBf 13 (.plan rfl) Fd.self (Sh.pair Sh.sc (Sh.pair Sh.sc Sh.slice)) rfl (.inl rfl) rfl rfl hc9.1.1 hc9.1.2 rfl (wants0 rfl) rfl rfl rfl (v := fun x22 => .agg #[.int .i64 (((((s2.2.2.1).getD (((((l0).getD (s2.2.2.2 : Int).toNat default)).2.1) : Int).toNat default)).1)), .int .i64 (((((s2.2.2.1).getD (((((l0).getD (s2.2.2.2 : Int).toNat default)).2.1) : Int).toNat default)).2.1)), .slice x22.2.2.1 ((((((s2.2.2.1).getD (((((l0).getD (s2.2.2.2 : Int).toNat default)).2.1) : Int).toNat default)).2.2)).length) x22.2.2.2]) (hs' := fun x22 => Ro (Elt.slice (Elt.pair E64 (Elt.pair E64 EStr))) x22.2.2.1 x22.2.2.2 (((((s2.2.2.1).getD (((((l0).getD (s2.2.2.2 : Int).toNat default)).2.1) : Int).toNat default)).2.2)) :: Ro (Elt.pair E64 (Elt.pair E64 (Elt.pair E64 (Elt.pair E64 (Elt.pair E64 (Elt.slice (Elt.slice (Elt.pair E64 (Elt.pair E64 EStr))))))))) A0 c0 l0 :: Cl x2.1 84 [.pointer (some ⟨x2.2.1, 0, none⟩), .slice x5.1 s2.1.length x5.2] :: ck4 x2.2.1 r1p0.2.1 x2.2.2.1 :: ck2 x2.2.2.1 r1p0.2.2.1 x2.2.2.2.1 x2.2.2.2.2.2.2.2.2.1 x2.2.2.2.2.2.2.2.2.2.1 :: ck1 x2.2.2.2.1 r1p0.2.2.2.1 x2.2.2.2.2.1 x2.2.2.2.2.2.1 :: Mp E64 x2.2.2.2.2.1 r1p0.2.2.2.2.1 :: ck0 x2.2.2.2.2.2.1 r1p0.2.2.2.2.2.1 x2.2.2.2.2.2.2.1 x2.2.2.2.2.2.2.2.1.1 r1p0.2.2.2.2.2.2.2.1.length x2.2.2.2.2.2.2.2.1.2 :: Mp (Elt.slice E8) x2.2.2.2.2.2.2.1 r1p0.2.2.2.2.2.2.1 :: Bf (Elt.pair E64 (Elt.slice E8)) 174 x2.2.2.2.2.2.2.2.1.1 x2.2.2.2.2.2.2.2.1.2 r1p0.2.2.2.2.2.2.2.1 :: Mp E64 x2.2.2.2.2.2.2.2.2.1 r1p0.2.2.2.2.2.2.2.2.1 :: Mp E64 x2.2.2.2.2.2.2.2.2.2.1 r1p0.2.2.2.2.2.2.2.2.2.1 :: Bf (Elt.pair (Elt.pair E64 (Elt.pair (Elt.slice E8) (Elt.slice E8))) EBool) 88 x5.1 x5.2 s2.1 :: Cl b1 27 (s2.2.1.map (Value.int .i64)) :: Bf (Elt.pair E64 (Elt.pair E64 (Elt.slice (Elt.slice (Elt.pair E64 (Elt.pair E64 EStr)))))) 32 ((some ⟨b2, 0, none⟩)) 8 s2.2.2.1 :: Cl b3 34 [.int .i64 (((((l0).getD (s2.2.2.2 : Int).toNat default)).1)), .int .i64 (((((l0).getD (s2.2.2.2 : Int).toNat default)).2.1)), .int .i64 (((((l0).getD (s2.2.2.2 : Int).toNat default)).2.2.1)), .int .i64 ((((((l0).getD (s2.2.2.2 : Int).toNat default)).2.2.2).1)), .int .i64 ((((((l0).getD (s2.2.2.2 : Int).toNat default)).2.2.2).2.1)), .slice x8.2.2.2.2.2.1 (((((((l0).getD (s2.2.2.2 : Int).toNat default)).2.2.2).2.2)).length) x8.2.2.2.2.2.2] :: Ro (Elt.slice (Elt.pair E64 (Elt.pair E64 EStr))) x8.2.2.2.2.2.1 x8.2.2.2.2.2.2 ((((((l0).getD (s2.2.2.2 : Int).toNat default)).2.2.2).2.2)) :: Cl b4 31 [.int .i64 r5.2.1.1, .int .i64 r5.2.1.2.1, .slice x14.1 r5.2.1.2.2.length x14.2] :: Ro (Elt.slice (Elt.pair E64 (Elt.pair E64 EStr))) x14.1 x14.2 r5.2.1.2.2 :: Cl b5 31 [.int .i64 0, .int .i64 0, .slice none 0 0] :: hs) (fun _ => rfl) (fun _ => rfl) (fun x22 => ?_)
               refine T.store (.plan rfl) 19 rfl rfl (wants0 rfl) rfl rfl rfl rfl (Nat.le_of_ble_eq_true rfl) rfl (cs' := [.int .i64 (((((s2.2.2.1).getD (((((l0).getD (s2.2.2.2 : Int).toNat default)).2.1) : Int).toNat default)).1)), .int .i64 (((((s2.2.2.1).getD (((((l0).getD (s2.2.2.2 : Int).toNat default)).2.1) : Int).toNat default)).2.1)), .slice x22.2.2.1 ((((((s2.2.2.1).getD (((((l0).getD (s2.2.2.2 : Int).toNat default)).2.1) : Int).toNat default)).2.2)).length) x22.2.2.2]) rfl rfl ?_
               refine T.planEnd ?_
               refine T.then_normal ?_
               exact T.le (EnvLe.cons rfl (EnvLe.cons rfl (EnvLe.cons rfl (EnvLe.cons rfl (EnvLe.cons rfl (EnvLe.cons rfl (EnvLe.cons rfl (EnvLe.cons rfl (EnvLe.cons rfl (EnvLe.cons rfl EnvLe.nil)))))))))) (T.pick [1, 2, 3, 4, 5, 6, 7, 8, 9, 10, 11, 12, 13, 14, 17, 18, 19, 0] 20 rfl rfl nla rfl (J10 (1, ((((s2.2.2.1).getD (((((l0).getD (s2.2.2.2 : Int).toNat default)).2.1) : Int).toNat default)).1), ((((s2.2.2.1).getD (((((l0).getD (s2.2.2.2 : Int).toNat default)).2.1) : Int).toNat default)).2.1), ((((s2.2.2.1).getD (((((l0).getD (s2.2.2.2 : Int).toNat default)).2.1) : Int).toNat default)).2.2)) x22.2.2 hk9))
              ·replace hk9 := inv_negB hb19 hk9
               refine T.skip ?_
               refine T.then_normal ?_
               refine T.nilRo (Elt.slice (Elt.pair E64 (Elt.pair E64 EStr))) none 0 ?_
               exact T.le (EnvLe.cons rfl (EnvLe.cons rfl (EnvLe.cons rfl (EnvLe.cons rfl (EnvLe.cons rfl (EnvLe.cons rfl (EnvLe.cons rfl (EnvLe.cons rfl (EnvLe.cons rfl (EnvLe.cons rfl EnvLe.nil)))))))))) (T.pick [1, 2, 3, 4, 5, 6, 7, 8, 9, 10, 11, 12, 13, 14, 17, 18, 19, 0] 20 rfl rfl nla rfl (J10 (s10, 0, 0, ([] : List (List (Int × Int × (List UInt8))))) (none, 0) hk9))
            ·refine T.seq ?_
             refine T.plan [(0, 0), (2, 0), (1, 1), (3, 1), (4, 0), (5, 1), (6, 0)] mixed (by kernel_rfl) (by kernel_rfl) rfl (fun d _ _ _ _ h => by cases d <;> exact h) ?_
             refine T.field (.plan rfl) rfl (wants0 rfl) rfl rfl ?_
             refine T.field (.plan rfl) rfl (wants0 rfl) rfl rfl ?_
             refine T.load (.plan rfl) 15 rfl rfl (wants0 rfl) rfl rfl rfl ?_
             refine T.load (.plan rfl) 15 rfl rfl (wants0 rfl) rfl rfl rfl ?_
             obtain ⟨hc10, hk7⟩ := inv_chk hk7
             refine T.idxArr (.plan rfl) rfl (wants0 rfl) rfl rfl rfl hc10.1 hc10.2 ?_
             obtain ⟨hc11, hk7⟩ := inv_chk hk7
             refine T.ldArr (.plan rfl) 13 rfl rfl (wants0 rfl) rfl rfl hc11 ?_
             refine T.bin (.plan rfl) rfl (wants0 rfl) rfl rfl rfl rfl ?_
             refine T.planEnd ?_
             refine T.then_normal ?_
             refine T.cond rfl (fun hb20 => ?_) (fun hb20 => ?_)
             ·replace hk7 := inv_posB hb20 hk7
              refine T.region ?_
              refine T.assign .list rfl (wants0 rfl) rfl rfl ?_
              refine T.nil ?_
              refine T.then_normal ?_
              exact T.le (EnvLe.cons rfl (EnvLe.cons rfl (EnvLe.cons rfl (EnvLe.cons rfl (EnvLe.cons rfl (EnvLe.cons rfl (EnvLe.cons rfl (EnvLe.cons rfl (EnvLe.cons rfl (EnvLe.cons rfl (EnvLe.cons rfl EnvLe.nil))))))))))) (T.pick [1, 2, 3, 4, 5, 6, 7, 8, 9, 10, 11, 12, 13, 14, 15, 16, 17, 18, 0] 19 rfl rfl nla rfl (J9 2 () hk7))
             ·replace hk7 := inv_negB hb20 hk7
              refine T.skip ?_
              refine T.then_normal ?_
              exact T.le (EnvLe.cons rfl (EnvLe.cons rfl (EnvLe.cons rfl (EnvLe.cons rfl (EnvLe.cons rfl (EnvLe.cons rfl (EnvLe.cons rfl (EnvLe.cons rfl (EnvLe.cons rfl (EnvLe.cons rfl (EnvLe.cons rfl EnvLe.nil))))))))))) (T.pick [1, 2, 3, 4, 5, 6, 7, 8, 9, 10, 11, 12, 13, 14, 15, 16, 17, 18, 0] 19 rfl rfl nla rfl (J9 0 () hk7))
          ·refine T.region ?_
           refine T.move .list rfl (wants0 rfl) rfl rfl ?_
           refine T.move .list rfl (wants0 rfl) rfl rfl ?_
           refine T.bool (b := s5) (fun hb21 => ?_) (fun hb21 => ?_)
           ·replace hk5 := inv_posB hb21 hk5
            refine T.leave .list (wantsNot rfl rfl rfl hb21) rfl ?_
            refine T.pickT .list rfl (wants0 rfl) rfl rfl hb21 rfl ?_
            refine T.nil ?_
            refine T.then_normal ?_
            exact T.le (EnvLe.cons rfl (EnvLe.cons rfl (EnvLe.cons rfl (EnvLe.cons rfl (EnvLe.cons rfl (EnvLe.cons rfl (EnvLe.cons rfl (EnvLe.cons rfl (EnvLe.cons rfl (EnvLe.cons rfl EnvLe.nil)))))))))) (T.pick [13, 2, 3, 4, 5, 6, 7, 8, 9, 10, 11, 12, 14, 15, 16, 17, 0, 1] 18 rfl rfl nla rfl (J7 true () hk5))
           ·replace hk5 := inv_negB hb21 hk5
            refine T.move .list rfl (wants1 rfl rfl rfl hb21) rfl rfl ?_
            refine T.pickF .list rfl (wants0 rfl) rfl rfl hb21 rfl ?_
            refine T.nil ?_
            refine T.then_normal ?_
            exact T.le (EnvLe.cons rfl (EnvLe.cons rfl (EnvLe.cons rfl (EnvLe.cons rfl (EnvLe.cons rfl (EnvLe.cons rfl (EnvLe.cons rfl (EnvLe.cons rfl (EnvLe.cons rfl (EnvLe.cons rfl EnvLe.nil)))))))))) (T.pick [13, 2, 3, 4, 5, 6, 7, 8, 9, 10, 11, 12, 14, 15, 16, 17, 0, 1] 18 rfl rfl nla rfl (J7 s6 () hk5))
         ·replace hk5 := inv_negB hb11 hk5
          refine T.seq ?_
          refine T.region ?_
          refine T.move .list rfl (wants0 rfl) rfl rfl ?_
          refine T.field .list rfl (wants0 rfl) rfl rfl ?_
          refine T.load .list 14 rfl rfl (wants0 rfl) rfl rfl rfl ?_
          refine T.pick [1, 2, 3, 4, 5, 6, 7, 8, 9, 10, 11, 0, 12, 13, 14, 15] 16 rfl rfl nla (hs' := Cl x2.1 84 [.pointer (some ⟨x2.2.1, 0, none⟩), .slice x5.1 s2.1.length x5.2] :: ck4 x2.2.1 r1p0.2.1 x2.2.2.1 :: ck2 x2.2.2.1 r1p0.2.2.1 x2.2.2.2.1 x2.2.2.2.2.2.2.2.2.1 x2.2.2.2.2.2.2.2.2.2.1 :: ck1 x2.2.2.2.1 r1p0.2.2.2.1 x2.2.2.2.2.1 x2.2.2.2.2.2.1 :: Mp E64 x2.2.2.2.2.1 r1p0.2.2.2.2.1 :: ck0 x2.2.2.2.2.2.1 r1p0.2.2.2.2.2.1 x2.2.2.2.2.2.2.1 x2.2.2.2.2.2.2.2.1.1 r1p0.2.2.2.2.2.2.2.1.length x2.2.2.2.2.2.2.2.1.2 :: Mp (Elt.slice E8) x2.2.2.2.2.2.2.1 r1p0.2.2.2.2.2.2.1 :: Bf (Elt.pair E64 (Elt.slice E8)) 174 x2.2.2.2.2.2.2.2.1.1 x2.2.2.2.2.2.2.2.1.2 r1p0.2.2.2.2.2.2.2.1 :: Mp E64 x2.2.2.2.2.2.2.2.2.1 r1p0.2.2.2.2.2.2.2.2.1 :: Mp E64 x2.2.2.2.2.2.2.2.2.2.1 r1p0.2.2.2.2.2.2.2.2.2.1 :: Bf (Elt.pair (Elt.pair E64 (Elt.pair (Elt.slice E8) (Elt.slice E8))) EBool) 88 x5.1 x5.2 s2.1 :: Ro (Elt.pair E64 (Elt.pair E64 (Elt.pair E64 (Elt.pair E64 (Elt.pair E64 (Elt.slice (Elt.slice (Elt.pair E64 (Elt.pair E64 EStr))))))))) A0 c0 l0 :: Cl b1 27 (s2.2.1.map (Value.int .i64)) :: Bf (Elt.pair E64 (Elt.pair E64 (Elt.slice (Elt.slice (Elt.pair E64 (Elt.pair E64 EStr)))))) 32 ((some ⟨b2, 0, none⟩)) 8 s2.2.2.1 :: Cl b3 34 [.int .i64 (((((l0).getD (s2.2.2.2 : Int).toNat default)).1)), .int .i64 (((((l0).getD (s2.2.2.2 : Int).toNat default)).2.1)), .int .i64 (((((l0).getD (s2.2.2.2 : Int).toNat default)).2.2.1)), .int .i64 ((((((l0).getD (s2.2.2.2 : Int).toNat default)).2.2.2).1)), .int .i64 ((((((l0).getD (s2.2.2.2 : Int).toNat default)).2.2.2).2.1)), .slice x8.2.2.2.2.2.1 (((((((l0).getD (s2.2.2.2 : Int).toNat default)).2.2.2).2.2)).length) x8.2.2.2.2.2.2] :: Ro (Elt.slice (Elt.pair E64 (Elt.pair E64 EStr))) x8.2.2.2.2.2.1 x8.2.2.2.2.2.2 ((((((l0).getD (s2.2.2.2 : Int).toNat default)).2.2.2).2.2)) :: hs) rfl ?_
          obtain ⟨r8, hg8, hk5⟩ := inv_bind hk5
          refine T.call .list (wants0 rfl) rfl (run_callF (vs := [_, _]) rfl Tryd.func10 rfl (by decide) rfl) (fun w hS => session_Last.c hB hS (o0a := r1p0.2.1) (o0aa := r1p0.2.2.1) (o0aaa := r1p0.2.2.2.1) (q0aaab := r1p0.2.2.2.2.1) (o0aaac := r1p0.2.2.2.2.2.1) (q0aaacb := r1p0.2.2.2.2.2.2.1) (q0aaacc := r1p0.2.2.2.2.2.2.2.1) (q0aah := r1p0.2.2.2.2.2.2.2.2.1) (q0aak := r1p0.2.2.2.2.2.2.2.2.2.1) (q0b := s2.1)  hg8) (fun x23 => ?_)
          refine T.move .list rfl (wants0 rfl) rfl rfl ?_
          refine T.extract .list rfl (wants0 rfl) rfl rfl rfl ?_
          refine T.extract .list rfl (wants0 rfl) rfl rfl rfl ?_
          refine T.assign .list rfl (wants0 rfl) rfl rfl ?_
          refine T.assign .list rfl (wants0 rfl) rfl rfl ?_
          refine T.nil ?_
          refine T.then_normal ?_
          refine T.seqJ (fun (s13 : Bool) (x24 : Unit) => [(0, .slice A0 l0.length c0), (3, .pointer (some ⟨x2.1, 0, none⟩)), (5, .pointer (some ⟨b1, 0, none⟩)), (6, .pointer (some ⟨b2, 0, none⟩)), (7, .int .i64 s2.2.2.2), (88, .bool s13)]) (fun s13 x24 => Ro (Elt.pair E64 (Elt.pair E64 (Elt.pair E64 (Elt.pair E64 (Elt.pair E64 (Elt.slice (Elt.slice (Elt.pair E64 (Elt.pair E64 EStr))))))))) A0 c0 l0 :: Cl x2.1 84 [.pointer (some ⟨x2.2.1, 0, none⟩), .slice x5.1 s2.1.length x5.2] :: ck4 x2.2.1 r1p0.2.1 x2.2.2.1 :: ck2 x2.2.2.1 r1p0.2.2.1 x2.2.2.2.1 x2.2.2.2.2.2.2.2.2.1 x2.2.2.2.2.2.2.2.2.2.1 :: ck1 x2.2.2.2.1 r1p0.2.2.2.1 x2.2.2.2.2.1 x2.2.2.2.2.2.1 :: Mp E64 x2.2.2.2.2.1 r1p0.2.2.2.2.1 :: ck0 x2.2.2.2.2.2.1 r1p0.2.2.2.2.2.1 x2.2.2.2.2.2.2.1 x2.2.2.2.2.2.2.2.1.1 r1p0.2.2.2.2.2.2.2.1.length x2.2.2.2.2.2.2.2.1.2 :: Mp (Elt.slice E8) x2.2.2.2.2.2.2.1 r1p0.2.2.2.2.2.2.1 :: Bf (Elt.pair E64 (Elt.slice E8)) 174 x2.2.2.2.2.2.2.2.1.1 x2.2.2.2.2.2.2.2.1.2 r1p0.2.2.2.2.2.2.2.1 :: Mp E64 x2.2.2.2.2.2.2.2.2.1 r1p0.2.2.2.2.2.2.2.2.1 :: Mp E64 x2.2.2.2.2.2.2.2.2.2.1 r1p0.2.2.2.2.2.2.2.2.2.1 :: Bf (Elt.pair (Elt.pair E64 (Elt.pair (Elt.slice E8) (Elt.slice E8))) EBool) 88 x5.1 x5.2 s2.1 :: Cl b1 27 (s2.2.1.map (Value.int .i64)) :: Bf (Elt.pair E64 (Elt.pair E64 (Elt.slice (Elt.slice (Elt.pair E64 (Elt.pair E64 EStr)))))) 32 ((some ⟨b2, 0, none⟩)) 8 s2.2.2.1 :: hs) (fun s13 => law18_SessionPlays.k12 s2 s13 = some o1) (fun s13 x24 hk12 => ?_) (fun J12 => ?_)
          ·unfold law18_SessionPlays.k12 at hk12
           refine T.cond rfl (fun hb22 => ?_) (fun hb22 => ?_)
           ·replace hk12 := inv_posB hb22 hk12
            refine T.seq ?_
            refine T.region ?_
            refine T.assign .list rfl (wants0 rfl) rfl rfl ?_
            refine T.nil ?_
            refine T.then_normal ?_
            refine T.ret ?_
            refine T.in_ret ?_
            refine T.in_ret ?_
            refine T.then_ret ?_
            refine T.then_ret ?_
            obtain rfl := inv_some hk12
            obtain rfl := hx1 _ rfl
            refine T.in_ret ?_
            refine T.then_ret ?_
            obtain rfl := inv_some hr
            refine T.pick [] 14 rfl rfl nla rfl ?_
            refine T.ret1 rfl rfl (fun w hS => ⟨(), rfl, hS⟩)
           ·replace hk12 := inv_negB hb22 hk12
            refine T.skip ?_
            refine T.in_normal ?_
            refine T.in_normal ?_
            refine T.then_normal ?_
            exact T.le (EnvLe.cons rfl (EnvLe.cons rfl (EnvLe.cons rfl (EnvLe.cons rfl (EnvLe.cons rfl EnvLe.nil))))) (T.pick [0, 1, 2, 3, 4, 5, 6, 7, 8, 9, 10, 11, 12, 13] 14 rfl rfl nla rfl (J3 (s2.1, s2.2.1, s2.2.2.1) x5 hk12))
          ·refine T.region ?_
           refine T.move .list rfl (wants0 rfl) rfl rfl ?_
           refine T.move .list rfl (wants0 rfl) rfl rfl ?_
           refine T.bool (b := s5) (fun hb23 => ?_) (fun hb23 => ?_)
           ·replace hk5 := inv_posB hb23 hk5
            refine T.move .list rfl (wants1 rfl rfl rfl hb23) rfl rfl ?_
            refine T.bin .list rfl (wants1 rfl rfl rfl hb23) rfl rfl rfl rfl ?_
            refine T.move .list rfl (wants1 rfl rfl rfl hb23) rfl rfl ?_
            refine T.bool (b := (decide (r8.2 = 1))) (fun hb24 => ?_) (fun hb24 => ?_)
            ·replace hk5 := inv_posB hb24 hk5
             refine T.move .list rfl (wants1 rfl rfl rfl (not_t hb24)) rfl rfl ?_
             refine T.bin .list rfl (wants1 rfl rfl rfl (not_t hb24)) rfl rfl rfl rfl ?_
             refine T.pickF .list rfl (wants1 rfl rfl rfl hb23) rfl rfl (not_t hb24) rfl ?_
             refine T.pickT .list rfl (wants0 rfl) rfl rfl hb23 rfl ?_
             refine T.move .list rfl (wants0 rfl) rfl rfl ?_
             refine T.bool (b := (decide (r8.1 = 0))) (fun hb25 => ?_) (fun hb25 => ?_)
             ·replace hk5 := inv_posB hb25 hk5
              refine T.move .list rfl (wants1 rfl rfl rfl (not_t hb25)) rfl rfl ?_
              refine T.not .list rfl (wants1 rfl rfl rfl (not_t hb25)) rfl rfl ?_
              refine T.move .list rfl (wants1 rfl rfl rfl (not_t hb25)) rfl rfl ?_
              refine T.leave .list (wantsNot rfl rfl rfl (not_t hb23)) rfl ?_
              refine T.leave .list (wantsNot rfl rfl rfl (not_t hb23)) rfl ?_
              refine T.leave .list (wantsNot rfl rfl rfl (not_t hb23)) rfl ?_
              refine T.leave .list (wantsUndef rfl rfl rfl) rfl ?_
              refine T.leave .list (wantsUndef rfl rfl rfl) rfl ?_
              refine T.leave .list (wantsUndef rfl rfl rfl) rfl ?_
              refine T.leave .list (wantsUndef rfl rfl rfl) rfl ?_
              refine T.leave .list (wantsUndef rfl rfl rfl) rfl ?_
              refine T.leave .list (wantsUndef rfl rfl rfl) rfl ?_
              refine T.leave .list (wantsNot rfl rfl rfl (not_t hb23)) rfl ?_
              refine T.pickF .list rfl (wants1 rfl rfl rfl (not_t hb25)) rfl rfl (not_t hb23) rfl ?_
              refine T.pickF .list rfl (wants0 rfl) rfl rfl (not_t hb25) rfl ?_
              refine T.nil ?_
              refine T.then_normal ?_
              exact T.le (EnvLe.cons rfl (EnvLe.cons rfl (EnvLe.cons rfl (EnvLe.cons rfl (EnvLe.cons rfl (EnvLe.cons rfl EnvLe.nil)))))) (T.pick [11, 0, 1, 2, 3, 4, 5, 6, 7, 8, 9, 10, 12, 13] 16 rfl rfl nla rfl (J12 false () hk5))
             ·replace hk5 := inv_negB hb25 hk5
              refine T.leave .list (wantsNot rfl rfl rfl (not_f hb25)) rfl ?_
              refine T.leave .list (wantsNot rfl rfl rfl (not_f hb25)) rfl ?_
              refine T.leave .list (wantsNot rfl rfl rfl (not_f hb25)) rfl ?_
              refine T.leave .list (wantsUndef rfl rfl rfl) rfl ?_
              refine T.leave .list (wantsUndef rfl rfl rfl) rfl ?_
              refine T.leave .list (wantsUndef rfl rfl rfl) rfl ?_
              refine T.leave .list (wantsUndef rfl rfl rfl) rfl ?_
              refine T.leave .list (wantsUndef rfl rfl rfl) rfl ?_
              refine T.leave .list (wantsUndef rfl rfl rfl) rfl ?_
              refine T.leave .list (wantsUndef rfl rfl rfl) rfl ?_
              refine T.leave .list (wantsUndef rfl rfl rfl) rfl ?_
              refine T.leave .list (wantsUndef rfl rfl rfl) rfl ?_
              refine T.leave .list (wantsUndef rfl rfl rfl) rfl ?_
              refine T.leave .list (wantsNot rfl rfl rfl (not_f hb25)) rfl ?_
              refine T.pickT .list rfl (wants0 rfl) rfl rfl (not_f hb25) rfl ?_
              refine T.nil ?_
              refine T.then_normal ?_
              exact T.le (EnvLe.cons rfl (EnvLe.cons rfl (EnvLe.cons rfl (EnvLe.cons rfl (EnvLe.cons rfl (EnvLe.cons rfl EnvLe.nil)))))) (T.pick [11, 0, 1, 2, 3, 4, 5, 6, 7, 8, 9, 10, 12, 13] 16 rfl rfl nla rfl (J12 true () hk5))
            ·replace hk5 := inv_negB hb24 hk5
             refine T.leave .list (wantsNot rfl rfl rfl (not_f hb24)) rfl ?_
             refine T.leave .list (wantsNot rfl rfl rfl (not_f hb24)) rfl ?_
             refine T.pickT .list rfl (wants1 rfl rfl rfl hb23) rfl rfl (not_f hb24) rfl ?_
             refine T.pickT .list rfl (wants0 rfl) rfl rfl hb23 rfl ?_
             refine T.move .list rfl (wants0 rfl) rfl rfl ?_
             refine T.leave .list (wantsNot rfl rfl rfl rfl) rfl ?_
             refine T.leave .list (wantsNot rfl rfl rfl rfl) rfl ?_
             refine T.leave .list (wantsNot rfl rfl rfl rfl) rfl ?_
             refine T.leave .list (wantsUndef rfl rfl rfl) rfl ?_
             refine T.leave .list (wantsUndef rfl rfl rfl) rfl ?_
             refine T.leave .list (wantsUndef rfl rfl rfl) rfl ?_
             refine T.leave .list (wantsUndef rfl rfl rfl) rfl ?_
             refine T.leave .list (wantsUndef rfl rfl rfl) rfl ?_
             refine T.leave .list (wantsUndef rfl rfl rfl) rfl ?_
             refine T.leave .list (wantsUndef rfl rfl rfl) rfl ?_
             refine T.leave .list (wantsUndef rfl rfl rfl) rfl ?_
             refine T.leave .list (wantsUndef rfl rfl rfl) rfl ?_
             refine T.leave .list (wantsUndef rfl rfl rfl) rfl ?_
             refine T.leave .list (wantsNot rfl rfl rfl rfl) rfl ?_
             refine T.pickT .list rfl (wants0 rfl) rfl rfl rfl rfl ?_
             refine T.nil ?_
             refine T.then_normal ?_
             exact T.le (EnvLe.cons rfl (EnvLe.cons rfl (EnvLe.cons rfl (EnvLe.cons rfl (EnvLe.cons rfl (EnvLe.cons rfl EnvLe.nil)))))) (T.pick [11, 0, 1, 2, 3, 4, 5, 6, 7, 8, 9, 10, 12, 13] 16 rfl rfl nla rfl (J12 true () hk5))
           ·replace hk5 := inv_negB hb23 hk5
            refine T.leave .list (wantsNot rfl rfl rfl hb23) rfl ?_
            refine T.leave .list (wantsNot rfl rfl rfl hb23) rfl ?_
            refine T.leave .list (wantsNot rfl rfl rfl hb23) rfl ?_
            refine T.leave .list (wantsUndef rfl rfl rfl) rfl ?_
            refine T.leave .list (wantsUndef rfl rfl rfl) rfl ?_
            refine T.leave .list (wantsNot rfl rfl rfl hb23) rfl ?_
            refine T.pickF .list rfl (wants0 rfl) rfl rfl hb23 rfl ?_
            refine T.move .list rfl (wants0 rfl) rfl rfl ?_
            refine T.move .list rfl (wants1 rfl rfl rfl rfl) rfl rfl ?_
            refine T.not .list rfl (wants1 rfl rfl rfl rfl) rfl rfl ?_
            refine T.move .list rfl (wants1 rfl rfl rfl rfl) rfl rfl ?_
            refine T.move .list rfl (wants1 rfl rfl rfl (not_f hb23)) rfl rfl ?_
            refine T.bin .list rfl (wants1 rfl rfl rfl (not_f hb23)) rfl rfl rfl rfl ?_
            refine T.move .list rfl (wants1 rfl rfl rfl (not_f hb23)) rfl rfl ?_
            refine T.bool (b := (decide (r8.2 = 0))) (fun hb26 => ?_) (fun hb26 => ?_)
            ·replace hk5 := inv_posB hb26 hk5
             refine T.move .list rfl (wants1 rfl rfl rfl (not_t hb26)) rfl rfl ?_
             refine T.field .list rfl (wants1 rfl rfl rfl (not_t hb26)) rfl rfl ?_
             refine T.load .list 14 rfl rfl (wants1 rfl rfl rfl (not_t hb26)) rfl rfl rfl ?_
             obtain ⟨hc12, hk5⟩ := inv_chk hk5
             refine T.idxArr .list rfl (wants1 rfl rfl rfl (not_t hb26)) rfl rfl rfl hc12.1 hc12.2 ?_
             obtain ⟨hc13, hk5⟩ := inv_chk hk5
             refine T.ldArr .list 12 rfl rfl (wants1 rfl rfl rfl (not_t hb26)) rfl rfl hc13 ?_
             refine T.bin .list rfl (wants1 rfl rfl rfl (not_t hb26)) rfl rfl rfl rfl ?_
             refine T.pickF .list rfl (wants1 rfl rfl rfl (not_f hb23)) rfl rfl (not_t hb26) rfl ?_
             refine T.pickT .list rfl (wants1 rfl rfl rfl rfl) rfl rfl (not_f hb23) rfl ?_
             refine T.pickF .list rfl (wants0 rfl) rfl rfl rfl rfl ?_
             refine T.nil ?_
             refine T.then_normal ?_
             exact T.le (EnvLe.cons rfl (EnvLe.cons rfl (EnvLe.cons rfl (EnvLe.cons rfl (EnvLe.cons rfl (EnvLe.cons rfl EnvLe.nil)))))) (T.pick [11, 0, 1, 2, 3, 4, 5, 6, 7, 8, 9, 10, 12, 13] 16 rfl rfl nla rfl (J12 (!(decide (r8.1 = (((s2.2.1).getD ((0 + (((((l0).getD (s2.2.2.2 : Int).toNat default)).2.1) : Int).toNat * 1)) default))))) () hk5))
            ·replace hk5 := inv_negB hb26 hk5
             refine T.leave .list (wantsNot rfl rfl rfl (not_f hb26)) rfl ?_
             refine T.leave .list (wantsNot rfl rfl rfl (not_f hb26)) rfl ?_
             refine T.leave .list (wantsNot rfl rfl rfl (not_f hb26)) rfl ?_
             refine T.leave .list (wantsNot rfl rfl rfl (not_f hb26)) rfl ?_
             refine T.leave .list (wantsNot rfl rfl rfl (not_f hb26)) rfl ?_
             refine T.leave .list (wantsNot rfl rfl rfl (not_f hb26)) rfl ?_
             refine T.pickT .list rfl (wants1 rfl rfl rfl (not_f hb23)) rfl rfl (not_f hb26) rfl ?_
             refine T.pickT .list rfl (wants1 rfl rfl rfl rfl) rfl rfl (not_f hb23) rfl ?_
             refine T.pickF .list rfl (wants0 rfl) rfl rfl rfl rfl ?_
             refine T.nil ?_
             refine T.then_normal ?_
             exact T.le (EnvLe.cons rfl (EnvLe.cons rfl (EnvLe.cons rfl (EnvLe.cons rfl (EnvLe.cons rfl (EnvLe.cons rfl EnvLe.nil)))))) (T.pick [11, 0, 1, 2, 3, 4, 5, 6, 7, 8, 9, 10, 12, 13] 16 rfl rfl nla rfl (J12 true () hk5))
       ·refine T.region ?_
        refine T.field .list rfl (wants0 rfl) rfl rfl ?_
        refine T.load .list 14 rfl rfl (wants0 rfl) rfl rfl rfl ?_
        refine T.bin .list rfl (wants0 rfl) rfl rfl rfl rfl ?_
        refine T.move .list rfl (wants0 rfl) rfl rfl ?_
        refine T.bool (b := (decide (((((((l0).getD (s2.2.2.2 : Int).toNat default)).2.2.1))) < 1))) (fun hb27 => ?_) (fun hb27 => ?_)
        ·replace hk4 := inv_posB hb27 hk4
         refine T.leave .list (wantsNot rfl rfl rfl hb27) rfl ?_
         refine T.leave .list (wantsNot rfl rfl rfl hb27) rfl ?_
         refine T.leave .list (wantsNot rfl rfl rfl hb27) rfl ?_
         refine T.pickT .list rfl (wants0 rfl) rfl rfl hb27 rfl ?_
         refine T.assign .list rfl (wants0 rfl) rfl rfl ?_
         refine T.nil ?_
         refine T.then_normal ?_
         exact T.le (EnvLe.cons rfl (EnvLe.cons rfl (EnvLe.cons rfl (EnvLe.cons rfl (EnvLe.cons rfl (EnvLe.cons rfl (EnvLe.cons rfl (EnvLe.cons rfl EnvLe.nil)))))))) (T.pick [0, 1, 2, 3, 4, 5, 6, 7, 8, 9, 10, 11, 12, 13, 14, 15] 16 rfl rfl nla rfl (J5 true () hk4))
        ·replace hk4 := inv_negB hb27 hk4
         refine T.field .list rfl (wants1 rfl rfl rfl hb27) rfl rfl ?_
         refine T.load .list 14 rfl rfl (wants1 rfl rfl rfl hb27) rfl rfl rfl ?_
         refine T.bin .list rfl (wants1 rfl rfl rfl hb27) rfl rfl rfl rfl ?_
         refine T.pickF .list rfl (wants0 rfl) rfl rfl hb27 rfl ?_
         refine T.assign .list rfl (wants0 rfl) rfl rfl ?_
         refine T.nil ?_
         refine T.then_normal ?_
         exact T.le (EnvLe.cons rfl (EnvLe.cons rfl (EnvLe.cons rfl (EnvLe.cons rfl (EnvLe.cons rfl (EnvLe.cons rfl (EnvLe.cons rfl (EnvLe.cons rfl EnvLe.nil)))))))) (T.pick [0, 1, 2, 3, 4, 5, 6, 7, 8, 9, 10, 11, 12, 13, 14, 15] 16 rfl rfl nla rfl (J5 (decide ((2147483647 : Int) < (((((l0).getD (s2.2.2.2 : Int).toNat default)).2.2.1)))) () hk4))
      ·refine T.region ?_
       refine T.field .list rfl (wants0 rfl) rfl rfl ?_
       refine T.load .list 0 rfl rfl (wants0 rfl) rfl rfl rfl ?_
       refine T.bin .list rfl (wants0 rfl) rfl rfl rfl rfl ?_
       refine T.move .list rfl (wants0 rfl) rfl rfl ?_
       refine T.bool (b := (decide (((((((l0).getD (s2.2.2.2 : Int).toNat default)).2.1))) < 0))) (fun hb28 => ?_) (fun hb28 => ?_)
       ·replace hk2 := inv_posB hb28 hk2
        refine T.leave .list (wantsNot rfl rfl rfl hb28) rfl ?_
        refine T.leave .list (wantsNot rfl rfl rfl hb28) rfl ?_
        refine T.leave .list (wantsNot rfl rfl rfl hb28) rfl ?_
        refine T.pickT .list rfl (wants0 rfl) rfl rfl hb28 rfl ?_
        refine T.assign .list rfl (wants0 rfl) rfl rfl ?_
        refine T.nil ?_
        refine T.then_normal ?_
        exact T.le (EnvLe.cons rfl (EnvLe.cons rfl (EnvLe.cons rfl (EnvLe.cons rfl (EnvLe.cons rfl (EnvLe.cons rfl (EnvLe.cons rfl EnvLe.nil))))))) (T.pick [2, 3, 4, 5, 6, 7, 8, 9, 10, 11, 12, 13, 14, 15, 0, 1] 16 rfl rfl nla rfl (J4 true () hk2))
       ·replace hk2 := inv_negB hb28 hk2
        refine T.field .list rfl (wants1 rfl rfl rfl hb28) rfl rfl ?_
        refine T.load .list 0 rfl rfl (wants1 rfl rfl rfl hb28) rfl rfl rfl ?_
        refine T.bin .list rfl (wants1 rfl rfl rfl hb28) rfl rfl rfl rfl ?_
        refine T.pickF .list rfl (wants0 rfl) rfl rfl hb28 rfl ?_
        refine T.assign .list rfl (wants0 rfl) rfl rfl ?_
        refine T.nil ?_
        refine T.then_normal ?_
        exact T.le (EnvLe.cons rfl (EnvLe.cons rfl (EnvLe.cons rfl (EnvLe.cons rfl (EnvLe.cons rfl (EnvLe.cons rfl (EnvLe.cons rfl EnvLe.nil))))))) (T.pick [2, 3, 4, 5, 6, 7, 8, 9, 10, 11, 12, 13, 14, 15, 0, 1] 16 rfl rfl nla rfl (J4 (decide ((7 : Int) < (((((l0).getD (s2.2.2.2 : Int).toNat default)).2.1)))) () hk2))
    ·replace hk2 := inv_negB hb1 hk2
     refine T.exit ?_
     refine T.then_exit ?_
     refine T.then_exit ?_
     obtain rfl := inv_some hk2
     obtain rfl := hx1 _ rfl
     refine T.in_hit ?_
     refine T.then_normal ?_
     exact T.le EnvLe.nil (T.pick [] 14 rfl rfl nla rfl (J1 () () hr))
   ·refine T.region ?_
    refine T.move .list rfl (wants0 rfl) rfl rfl ?_
    refine T.move .list rfl (wants0 rfl) rfl rfl ?_
    refine T.lenSlice .list rfl (wants0 rfl) rfl rfl ?_
    refine T.bin .list rfl (wants0 rfl) rfl rfl rfl rfl ?_
    refine T.move .list rfl (wants0 rfl) rfl rfl ?_
    refine T.bool (b := (decide (s2.2.2.2 < ((l0.length : Int))))) (fun hb29 => ?_) (fun hb29 => ?_)
    ·replace he1 := inv_posB hb29 he1
     refine T.move .list rfl (wants1 rfl rfl rfl hb29) rfl rfl ?_
     refine T.bin .list rfl (wants1 rfl rfl rfl hb29) rfl rfl rfl rfl ?_
     refine T.pickT .list rfl (wants0 rfl) rfl rfl hb29 rfl ?_
     refine T.nil ?_
     refine T.then_normal ?_
     exact T.le (EnvLe.cons rfl (EnvLe.cons rfl (EnvLe.cons rfl (EnvLe.cons rfl (EnvLe.cons rfl (EnvLe.cons rfl EnvLe.nil)))))) (T.pick [0, 1, 2, 3, 4, 5, 6, 7, 8, 9, 10, 11, 12, 13] 14 rfl rfl nla rfl (J2 (decide (s2.2.2.2 < 60)) () he1))
    ·replace he1 := inv_negB hb29 he1
     refine T.leave .list (wantsNot rfl rfl rfl hb29) rfl ?_
     refine T.leave .list (wantsNot rfl rfl rfl hb29) rfl ?_
     refine T.pickF .list rfl (wants0 rfl) rfl rfl hb29 rfl ?_
     refine T.nil ?_
     refine T.then_normal ?_
     exact T.le (EnvLe.cons rfl (EnvLe.cons rfl (EnvLe.cons rfl (EnvLe.cons rfl (EnvLe.cons rfl (EnvLe.cons rfl EnvLe.nil)))))) (T.pick [0, 1, 2, 3, 4, 5, 6, 7, 8, 9, 10, 11, 12, 13] 14 rfl rfl nla rfl (J2 false () he1))
end Go.Proofs.YtdojooblfemmnaaDoor
