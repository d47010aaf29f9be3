/- RefS: what the functions compute, and that the program computes it; printed by a program of ours. -/
import Derived.Test.YtdfbknkgmhddcaaDoorSchema
set_option linter.unusedVariables false
set_option linter.unusedSimpArgs false
namespace Go.Proofs.YtdfbknkgmhddcaaDoor
open Go.RowKit
noncomputable def ref14_Name.k2 (s2 : Unit) : Option Bool :=
  some true
noncomputable def ref14_Name.k3 (s3 : Int) (s4 : Bool) : Option (Int ⊕ (Bool ⊕ Unit)) :=
  (if s4 = true then some (.inr (.inl false)) else some (.inl (IntKind.i64.wrap (s3 + 1))))
noncomputable def ref14_Name.st1 (l0 : List UInt8) (s3 : Int) : Option (Int ⊕ (Bool ⊕ Unit)) :=
  (if ((decide (s3 < ((l0.length : Int))))) = true then chk (0 ≤ s3 ∧ s3 < (l0.length : Int)) ((if ((decide ((((((l0).getD (s3 : Int).toNat default).toNat : Int))) < 97))) = true then ref14_Name.k3 s3 true else chk (0 ≤ s3 ∧ s3 < (l0.length : Int)) (ref14_Name.k3 s3 (decide ((122 : Int) < ((((l0).getD (s3 : Int).toNat default).toNat : Int))))))) else some (.inr (.inr ())))
noncomputable def ref14_Name.k1 (l0 : List UInt8) (s1 : Bool) : Option Bool :=
  (if s1 = true then some false else (loop (ref14_Name.st1 l0) 0).bind (fun e1 => match e1 with | .inl v => some v | .inr v => ref14_Name.k2 v))
noncomputable def ref14_Name.impl (l0 : List UInt8) : Option Bool :=
  (if ((decide ((((l0.length : Int))) < 1))) = true then ref14_Name.k1 l0 true else ref14_Name.k1 l0 (decide ((8 : Int) < ((l0.length : Int)))))
set_option maxRecDepth 100000 in
set_option maxHeartbeats 4000000 in
theorem ref14_Name.c {B : World} {hs : List MP} {w : World} {l0 : List UInt8} (hB : Base B) (hS : St B (hs) w) {r : Bool} (hr : ref14_Name.impl l0 = some r) :
    Calls Tryd.prog 17 #[str l0] w fun e w' => ∃ x : Unit, e = .returned (.bool r) ∧ St B (hs) w' := by
 unfold ref14_Name.impl at hr
 refine calls_T Tryd.func17 rfl rfl rfl hS ?_
 refine T.seq ?_
 refine T.region ?_
 refine T.assign .list rfl (wants0 rfl) rfl rfl ?_
 refine T.nil ?_
 refine T.then_normal ?_
 refine T.seq ?_
 refine T.seqJ (fun (s1 : Bool) (x1 : Unit) => [(0, str l0), (11, .bool s1)]) (fun s1 x1 => hs) (fun s1 => ref14_Name.k1 l0 s1 = some r) (fun s1 x1 hk1 => ?_) (fun J1 => ?_)
 ·unfold ref14_Name.k1 at hk1
  refine T.cond rfl (fun hb1 => ?_) (fun hb1 => ?_)
  ·replace hk1 := inv_posB hb1 hk1
   refine T.seq ?_
   refine T.region ?_
   refine T.assign .list rfl (wants0 rfl) rfl rfl ?_
   refine T.nil ?_
   refine T.then_normal ?_
   refine T.ret ?_
   refine T.then_ret ?_
   obtain rfl := inv_some hk1
   refine T.pick [] 0 rfl rfl (Nat.le_add_left _ _) rfl ?_
   refine T.ret1 rfl rfl (fun w hS => ⟨(), rfl, hS⟩)
  ·replace hk1 := inv_negB hb1 hk1
   refine T.skip ?_
   refine T.then_normal ?_
   refine T.seqJ (fun (s2 : Unit) (x2 : Unit) => []) (fun s2 x2 => hs) (fun s2 => ref14_Name.k2 s2 = some r) (fun s2 x2 hk2 => ?_) (fun J2 => ?_)
   ·unfold ref14_Name.k2 at hk2
    refine T.seq ?_
    refine T.region ?_
    refine T.assign .list rfl (wants0 rfl) rfl rfl ?_
    refine T.nil ?_
    refine T.then_normal ?_
    refine T.ret ?_
    obtain rfl := inv_some hk2
    refine T.pick [] 0 rfl rfl (Nat.le_add_left _ _) rfl ?_
    refine T.ret1 rfl rfl (fun w hS => ⟨(), rfl, hS⟩)
   ·refine T.seq ?_
    refine T.region ?_
    refine T.assign .list rfl (wants0 rfl) rfl rfl ?_
    refine T.nil ?_
    refine T.then_normal ?_
    refine T.block ?_
    obtain ⟨e1, hl1, hk1⟩ := inv_bind hk1
    refine T.le (EnvLe.cons rfl (EnvLe.cons rfl EnvLe.nil)) (T.pick [] 0 rfl rfl (Nat.le_add_left _ _) rfl (T.loop (s0 := 0) (env := fun s3 x3 => [(0, str l0), (3, .int .i64 s3)]) (hs := fun (s3 : Int) (x3 : Unit) => hs) hl1 () (fun K1 s3 x3 o1 he1 hm1 hx1 => ?_)))
    unfold ref14_Name.st1 at he1
    refine T.seq ?_
    refine T.seq ?_
    refine T.region ?_
    refine T.move .list rfl (wants0 rfl) rfl rfl ?_
    refine T.move .list rfl (wants0 rfl) rfl rfl ?_
    refine T.lenStr .list rfl (wants0 rfl) rfl (l := l0) rfl ?_
    refine T.bin .list rfl (wants0 rfl) rfl rfl rfl rfl ?_
    refine T.nil ?_
    refine T.then_normal ?_
    refine T.cond rfl (fun hb2 => ?_) (fun hb2 => ?_)
    ·replace he1 := inv_posB hb2 he1
     refine T.skip ?_
     refine T.then_normal ?_
     refine T.seq ?_
     refine T.block ?_
     refine T.seqJ (fun (s4 : Bool) (x4 : Unit) => [(0, str l0), (3, .int .i64 s3), (27, .bool s4)]) (fun s4 x4 => hs) (fun s4 => ref14_Name.k3 s3 s4 = some o1) (fun s4 x4 hk3 => ?_) (fun J3 => ?_)
     ·unfold ref14_Name.k3 at hk3
      refine T.cond rfl (fun hb3 => ?_) (fun hb3 => ?_)
      ·replace hk3 := inv_posB hb3 hk3
       refine T.seq ?_
       refine T.region ?_
       refine T.assign .list rfl (wants0 rfl) rfl rfl ?_
       refine T.nil ?_
       refine T.then_normal ?_
       refine T.ret ?_
       refine T.in_ret ?_
       refine T.then_ret ?_
       refine T.then_ret ?_
       obtain rfl := inv_some hk3
       obtain rfl := hx1 _ rfl
       refine T.in_ret ?_
       refine T.then_ret ?_
       obtain rfl := inv_some hk1
       refine T.pick [] 0 rfl rfl (Nat.le_add_left _ _) rfl ?_
       refine T.ret1 rfl rfl (fun w hS => ⟨(), rfl, hS⟩)
      ·replace hk3 := inv_negB hb3 hk3
       refine T.skip ?_
       refine T.in_normal ?_
       refine T.then_normal ?_
       refine T.region ?_
       refine T.move .list rfl (wants0 rfl) rfl rfl ?_
       refine T.bin .list rfl (wants0 rfl) rfl rfl rfl rfl ?_
       refine T.assign .list rfl (wants0 rfl) rfl rfl ?_
       refine T.nil ?_
       refine T.then_normal ?_
       obtain rfl := inv_some hk3
       exact T.le (EnvLe.cons rfl (EnvLe.cons rfl EnvLe.nil)) (T.pick [] 0 rfl rfl (Nat.le_add_left _ _) rfl (hm1 _ rfl ()))
     ·refine T.region ?_
      refine T.move .list rfl (wants0 rfl) rfl rfl ?_
      refine T.move .list rfl (wants0 rfl) rfl rfl ?_
      obtain ⟨hc1, he1⟩ := inv_chk he1
      refine T.byteAt .list rfl (wants0 rfl) rfl (l := l0) rfl rfl hc1.1 hc1.2 ?_
      refine T.bin .list rfl (wants0 rfl) rfl rfl rfl rfl ?_
      refine T.move .list rfl (wants0 rfl) rfl rfl ?_
      refine T.bool (b := (decide ((((((l0).getD (s3 : Int).toNat default).toNat : Int))) < 97))) (fun hb4 => ?_) (fun hb4 => ?_)
      ·replace he1 := inv_posB hb4 he1
       refine T.leave .list (wantsNot rfl rfl rfl hb4) rfl ?_
       refine T.leave .list (wantsNot rfl rfl rfl hb4) rfl ?_
       refine T.leave .list (wantsNot rfl rfl rfl hb4) rfl ?_
       refine T.leave .list (wantsNot rfl rfl rfl hb4) rfl ?_
       refine T.pickT .list rfl (wants0 rfl) rfl rfl hb4 rfl ?_
       refine T.nil ?_
       refine T.then_normal ?_
       exact T.le (EnvLe.cons rfl (EnvLe.cons rfl (EnvLe.cons rfl EnvLe.nil))) (T.pick [] 0 rfl rfl (Nat.le_add_left _ _) rfl (J3 true () he1))
      ·replace he1 := inv_negB hb4 he1
       refine T.move .list rfl (wants1 rfl rfl rfl hb4) rfl rfl ?_
       refine T.move .list rfl (wants1 rfl rfl rfl hb4) rfl rfl ?_
       obtain ⟨hc2, he1⟩ := inv_chk he1
       refine T.byteAt .list rfl (wants1 rfl rfl rfl hb4) rfl (l := l0) rfl rfl hc2.1 hc2.2 ?_
       refine T.bin .list rfl (wants1 rfl rfl rfl hb4) rfl rfl rfl rfl ?_
       refine T.pickF .list rfl (wants0 rfl) rfl rfl hb4 rfl ?_
       refine T.nil ?_
       refine T.then_normal ?_
       exact T.le (EnvLe.cons rfl (EnvLe.cons rfl (EnvLe.cons rfl EnvLe.nil))) (T.pick [] 0 rfl rfl (Nat.le_add_left _ _) rfl (J3 (decide ((122 : Int) < ((((l0).getD (s3 : Int).toNat default).toNat : Int)))) () he1))
    ·replace he1 := inv_negB hb2 he1
     refine T.exit ?_
     refine T.then_exit ?_
     refine T.then_exit ?_
     obtain rfl := inv_some he1
     obtain rfl := hx1 _ rfl
     refine T.in_hit ?_
     refine T.then_normal ?_
     exact T.le EnvLe.nil (T.pick [] 0 rfl rfl (Nat.le_add_left _ _) rfl (J2 () () hk1))
 ·refine T.region ?_
  refine T.move .list rfl (wants0 rfl) rfl rfl ?_
  refine T.lenStr .list rfl (wants0 rfl) rfl (l := l0) rfl ?_
  refine T.bin .list rfl (wants0 rfl) rfl rfl rfl rfl ?_
  refine T.move .list rfl (wants0 rfl) rfl rfl ?_
  refine T.bool (b := (decide ((((l0.length : Int))) < 1))) (fun hb5 => ?_) (fun hb5 => ?_)
  ·replace hr := inv_posB hb5 hr
   refine T.leave .list (wantsNot rfl rfl rfl hb5) rfl ?_
   refine T.leave .list (wantsNot rfl rfl rfl hb5) rfl ?_
   refine T.leave .list (wantsNot rfl rfl rfl hb5) rfl ?_
   refine T.pickT .list rfl (wants0 rfl) rfl rfl hb5 rfl ?_
   refine T.nil ?_
   refine T.then_normal ?_
   exact T.le (EnvLe.cons rfl (EnvLe.cons rfl EnvLe.nil)) (T.pick [] 0 rfl rfl (Nat.le_add_left _ _) rfl (J1 true () hr))
  ·replace hr := inv_negB hb5 hr
   refine T.move .list rfl (wants1 rfl rfl rfl hb5) rfl rfl ?_
   refine T.lenStr .list rfl (wants1 rfl rfl rfl hb5) rfl (l := l0) rfl ?_
   refine T.bin .list rfl (wants1 rfl rfl rfl hb5) rfl rfl rfl rfl ?_
   refine T.pickF .list rfl (wants0 rfl) rfl rfl hb5 rfl ?_
   refine T.nil ?_
   refine T.then_normal ?_
   exact T.le (EnvLe.cons rfl (EnvLe.cons rfl EnvLe.nil)) (T.pick [] 0 rfl rfl (Nat.le_add_left _ _) rfl (J1 (decide ((8 : Int) < ((l0.length : Int)))) () hr))

noncomputable def ref14_Right.k3 (s3 : Unit) : Option Bool :=
  some true
noncomputable def ref14_Right.k4 (s4 : Int) (s5 : Unit) : Option (Int ⊕ (Bool ⊕ Unit)) :=
  some (.inl (IntKind.i64.wrap (s4 + 1)))
noncomputable def ref14_Right.st2 (s4 : Int) (a0 : (List UInt8) × (List ((List UInt8) × Int × Int)) × (List (Int × Bool))) (s7 : Int) : Option (Int ⊕ (Bool ⊕ Unit)) :=
  (if ((decide (s7 < s4))) = true then chk (0 ≤ s7 ∧ s7 < (a0.2.2.length : Int)) ((if ((decide (((((((a0.2.2).getD (s7 : Int).toNat default)).1))) = (((((a0.2.2).getD (s4 : Int).toNat default)).1))))) = true then some (.inr (.inl false)) else some (.inl (IntKind.i64.wrap (s7 + 1))))) else some (.inr (.inr ())))
noncomputable def ref14_Right.k5 (s4 : Int) (a0 : (List UInt8) × (List ((List UInt8) × Int × Int)) × (List (Int × Bool))) (s6 : Bool) : Option (Int ⊕ (Bool ⊕ Unit)) :=
  (if s6 = true then some (.inr (.inl false)) else (loop (ref14_Right.st2 s4 a0) 0).bind (fun e2 => match e2 with | .inl v => some (.inr (.inl v)) | .inr v => ref14_Right.k4 s4 v))
noncomputable def ref14_Right.st1 (a0 : (List UInt8) × (List ((List UInt8) × Int × Int)) × (List (Int × Bool))) (s4 : Int) : Option (Int ⊕ (Bool ⊕ Unit)) :=
  (if ((decide (s4 < ((a0.2.2.length : Int))))) = true then chk (0 ≤ s4 ∧ s4 < (a0.2.2.length : Int)) ((if ((decide (((((((a0.2.2).getD (s4 : Int).toNat default)).1))) < 1))) = true then ref14_Right.k5 s4 a0 true else ref14_Right.k5 s4 a0 (decide ((((a0.2.1.length : Int))) ≤ (((((a0.2.2).getD (s4 : Int).toNat default)).1)))))) else some (.inr (.inr ())))
noncomputable def ref14_Right.k2 (a0 : (List UInt8) × (List ((List UInt8) × Int × Int)) × (List (Int × Bool))) (s2 : Unit) : Option Bool :=
  (loop (ref14_Right.st1 a0) 0).bind (fun e1 => match e1 with | .inl v => some v | .inr v => ref14_Right.k3 v)
noncomputable def ref14_Right.k6 (s8 : Int) (s9 : Unit) : Option (Int ⊕ (Bool ⊕ Unit)) :=
  some (.inl (IntKind.i64.wrap (s8 + 1)))
noncomputable def ref14_Right.st4 (s8 : Int) (a0 : (List UInt8) × (List ((List UInt8) × Int × Int)) × (List (Int × Bool))) (s11 : Int) : Option (Int ⊕ (Bool ⊕ Unit)) :=
  (if ((decide (s11 < s8))) = true then chk (0 ≤ s11 ∧ s11 < (a0.2.1.length : Int)) ((if ((decide ((((((a0.2.1).getD (s11 : Int).toNat default)).1)) = (((((a0.2.1).getD (s8 : Int).toNat default)).1))))) = true then some (.inr (.inl false)) else some (.inl (IntKind.i64.wrap (s11 + 1))))) else some (.inr (.inr ())))
noncomputable def ref14_Right.k7 (s8 : Int) (a0 : (List UInt8) × (List ((List UInt8) × Int × Int)) × (List (Int × Bool))) (s10 : Bool) : Option (Int ⊕ (Bool ⊕ Unit)) :=
  (if s10 = true then some (.inr (.inl false)) else (loop (ref14_Right.st4 s8 a0) 0).bind (fun e4 => match e4 with | .inl v => some (.inr (.inl v)) | .inr v => ref14_Right.k6 s8 v))
noncomputable def ref14_Right.st3 (a0 : (List UInt8) × (List ((List UInt8) × Int × Int)) × (List (Int × Bool))) (s8 : Int) : Option (Int ⊕ (Bool ⊕ Unit)) :=
  (if ((decide (s8 < ((a0.2.1.length : Int))))) = true then chk (0 ≤ s8 ∧ s8 < (a0.2.1.length : Int)) ((ref14_Name.impl (((((a0.2.1).getD (s8 : Int).toNat default)).1))).bind fun r1 => (if r1 = true then (if ((decide (((((((a0.2.1).getD (s8 : Int).toNat default)).2.1))) < 1))) = true then ref14_Right.k7 s8 a0 true else (if ((decide ((3 : Int) < (((((a0.2.1).getD (s8 : Int).toNat default)).2.1))))) = true then ref14_Right.k7 s8 a0 true else (if ((decide (((((((a0.2.1).getD (s8 : Int).toNat default)).2.1))) = 2))) = true then (if ((decide (((((((a0.2.1).getD (s8 : Int).toNat default)).2.2))) < 1))) = true then ref14_Right.k7 s8 a0 true else (if ((decide ((8 : Int) < (((((a0.2.1).getD (s8 : Int).toNat default)).2.2))))) = true then ref14_Right.k7 s8 a0 true else ref14_Right.k7 s8 a0 false)) else ref14_Right.k7 s8 a0 (!(decide (((((((a0.2.1).getD (s8 : Int).toNat default)).2.2))) = 0)))))) else ref14_Right.k7 s8 a0 true)) else some (.inr (.inr ())))
noncomputable def ref14_Right.k1 (a0 : (List UInt8) × (List ((List UInt8) × Int × Int)) × (List (Int × Bool))) (s1 : Bool) : Option Bool :=
  (if s1 = true then some false else (loop (ref14_Right.st3 a0) 0).bind (fun e3 => match e3 with | .inl v => some v | .inr v => ref14_Right.k2 a0 v))
noncomputable def ref14_Right.impl (a0 : (List UInt8) × (List ((List UInt8) × Int × Int)) × (List (Int × Bool))) : Option Bool :=
  (ref14_Name.impl a0.1).bind fun r2 => (if r2 = true then (if ((decide ((((a0.2.1.length : Int))) < 1))) = true then ref14_Right.k1 a0 true else (if ((decide ((3 : Int) < ((a0.2.1.length : Int))))) = true then ref14_Right.k1 a0 true else ref14_Right.k1 a0 (decide ((3 : Int) < ((a0.2.2.length : Int)))))) else ref14_Right.k1 a0 true)
set_option maxRecDepth 100000 in
set_option maxHeartbeats 4000000 in
theorem ref14_Right.c {B : World} {hs : List MP} {w : World} {a0 : (List UInt8) × (List ((List UInt8) × Int × Int)) × (List (Int × Bool))} {i0a c0a : Nat} {A0a : Option Addr} {i0b c0b : Nat} {A0b : Option Addr} (hB : Base B) (hS : St B (hs) w) (h0a : (hs)[i0a]? = some (Ro (Elt.pair EStr (Elt.pair E64 E64)) A0a c0a a0.2.1)) (h0b : (hs)[i0b]? = some (Ro (Elt.pair E64 EBool) A0b c0b a0.2.2)) {r : Bool} (hr : ref14_Right.impl a0 = some r) :
    Calls Tryd.prog 11 #[.agg #[str a0.1, .slice A0a a0.2.1.length c0a, .slice A0b a0.2.2.length c0b]] w fun e w' => ∃ x : Unit, e = .returned (.bool r) ∧ St B (hs) w' := by
 unfold ref14_Right.impl at hr
 refine calls_T Tryd.func11 rfl rfl rfl hS ?_
 refine T.front i0a h0a ?_
 refine T.front (i0b + 1) h0b ?_
 refine T.seq ?_
 refine T.region ?_
 refine T.boxS .list rfl (wants0 rfl) rfl rfl (cs := [str a0.1, .slice A0a a0.2.1.length c0a, .slice A0b a0.2.2.length c0b]) rfl (fun b1 => ?_)
 refine T.assign .list rfl (wants0 rfl) rfl rfl ?_
 refine T.nil ?_
 refine T.then_normal ?_
 refine T.seq ?_
 refine T.seqJ (fun (s1 : Bool) (x1 : Unit) => [(1, .pointer (some ⟨b1, 0, none⟩)), (30, .bool s1)]) (fun s1 x1 => Cl b1 25 [str a0.1, .slice A0a a0.2.1.length c0a, .slice A0b a0.2.2.length c0b] :: Ro (Elt.pair EStr (Elt.pair E64 E64)) A0a c0a a0.2.1 :: Ro (Elt.pair E64 EBool) A0b c0b a0.2.2 :: hs) (fun s1 => ref14_Right.k1 a0 s1 = some r) (fun s1 x1 hk1 => ?_) (fun J1 => ?_)
 ·unfold ref14_Right.k1 at hk1
  refine T.cond rfl (fun hb1 => ?_) (fun hb1 => ?_)
  ·replace hk1 := inv_posB hb1 hk1
   refine T.seq ?_
   refine T.region ?_
   refine T.assign .list rfl (wants0 rfl) rfl rfl ?_
   refine T.nil ?_
   refine T.then_normal ?_
   refine T.ret ?_
   refine T.then_ret ?_
   obtain rfl := inv_some hk1
   refine T.pick [] 3 rfl rfl (Nat.le_add_left _ _) rfl ?_
   refine T.ret1 rfl rfl (fun w hS => ⟨(), rfl, hS⟩)
  ·replace hk1 := inv_negB hb1 hk1
   refine T.skip ?_
   refine T.then_normal ?_
   refine T.seqJ (fun (s2 : Unit) (x2 : Unit) => [(1, .pointer (some ⟨b1, 0, none⟩))]) (fun s2 x2 => Cl b1 25 [str a0.1, .slice A0a a0.2.1.length c0a, .slice A0b a0.2.2.length c0b] :: Ro (Elt.pair EStr (Elt.pair E64 E64)) A0a c0a a0.2.1 :: Ro (Elt.pair E64 EBool) A0b c0b a0.2.2 :: hs) (fun s2 => ref14_Right.k2 a0 s2 = some r) (fun s2 x2 hk2 => ?_) (fun J2 => ?_)
   ·unfold ref14_Right.k2 at hk2
    refine T.seqJ (fun (s3 : Unit) (x3 : Unit) => []) (fun s3 x3 => hs) (fun s3 => ref14_Right.k3 s3 = some r) (fun s3 x3 hk3 => ?_) (fun J3 => ?_)
    ·unfold ref14_Right.k3 at hk3
     refine T.seq ?_
     refine T.region ?_
     refine T.assign .list rfl (wants0 rfl) rfl rfl ?_
     refine T.nil ?_
     refine T.then_normal ?_
     refine T.ret ?_
     obtain rfl := inv_some hk3
     refine T.pick [] 0 rfl rfl (Nat.le_add_left _ _) rfl ?_
     refine T.ret1 rfl rfl (fun w hS => ⟨(), rfl, hS⟩)
    ·refine T.seq ?_
     refine T.region ?_
     refine T.assign .list rfl (wants0 rfl) rfl rfl ?_
     refine T.nil ?_
     refine T.then_normal ?_
     refine T.block ?_
     obtain ⟨e1, hl1, hk2⟩ := inv_bind hk2
     refine T.le (EnvLe.cons rfl (EnvLe.cons rfl EnvLe.nil)) (T.pick [0, 1, 2] 3 rfl rfl (Nat.le_add_left _ _) rfl (T.loop (s0 := 0) (env := fun s4 x4 => [(1, .pointer (some ⟨b1, 0, none⟩)), (6, .int .i64 s4)]) (hs := fun (s4 : Int) (x4 : Unit) => Cl b1 25 [str a0.1, .slice A0a a0.2.1.length c0a, .slice A0b a0.2.2.length c0b] :: Ro (Elt.pair EStr (Elt.pair E64 E64)) A0a c0a a0.2.1 :: Ro (Elt.pair E64 EBool) A0b c0b a0.2.2 :: hs) hl1 () (fun K1 s4 x4 o1 he1 hm1 hx1 => ?_)))
     unfold ref14_Right.st1 at he1
     refine T.seq ?_
     refine T.seq ?_
     refine T.region ?_
     refine T.move .list rfl (wants0 rfl) rfl rfl ?_
     refine T.field .list rfl (wants0 rfl) rfl rfl ?_
     refine T.load .list 0 rfl rfl (wants0 rfl) rfl rfl rfl ?_
     refine T.lenSlice .list rfl (wants0 rfl) rfl rfl ?_
     refine T.bin .list rfl (wants0 rfl) rfl rfl rfl rfl ?_
     refine T.nil ?_
     refine T.then_normal ?_
     refine T.cond rfl (fun hb2 => ?_) (fun hb2 => ?_)
     ·replace he1 := inv_posB hb2 he1
      refine T.skip ?_
      refine T.then_normal ?_
      refine T.seqJ (fun (s5 : Unit) (x5 : Unit) => [(1, .pointer (some ⟨b1, 0, none⟩)), (6, .int .i64 s4)]) (fun s5 x5 => Cl b1 25 [str a0.1, .slice A0a a0.2.1.length c0a, .slice A0b a0.2.2.length c0b] :: Ro (Elt.pair EStr (Elt.pair E64 E64)) A0a c0a a0.2.1 :: Ro (Elt.pair E64 EBool) A0b c0b a0.2.2 :: hs) (fun s5 => ref14_Right.k4 s4 s5 = some o1) (fun s5 x5 hk4 => ?_) (fun J4 => ?_)
      ·unfold ref14_Right.k4 at hk4
       refine T.region ?_
       refine T.move .list rfl (wants0 rfl) rfl rfl ?_
       refine T.bin .list rfl (wants0 rfl) rfl rfl rfl rfl ?_
       refine T.assign .list rfl (wants0 rfl) rfl rfl ?_
       refine T.nil ?_
       refine T.then_normal ?_
       obtain rfl := inv_some hk4
       exact T.le (EnvLe.cons rfl (EnvLe.cons rfl EnvLe.nil)) (T.pick [0, 1, 2] 3 rfl rfl (Nat.le_add_left _ _) rfl (hm1 _ rfl ()))
      ·refine T.block ?_
       refine T.seq ?_
       refine T.region ?_
       refine T.field .list rfl (wants0 rfl) rfl rfl ?_
       refine T.load .list 0 rfl rfl (wants0 rfl) rfl rfl rfl ?_
       refine T.move .list rfl (wants0 rfl) rfl rfl ?_
       obtain ⟨hc1, he1⟩ := inv_chk he1
       refine T.idxRo .list 2 rfl rfl (wants0 rfl) rfl rfl rfl hc1.1 hc1.2 (Nat.le_refl _) ?_
       refine T.ldFRo 2 .list Fd.self (Sh.pair Sh.sc Sh.sc) rfl (.inl rfl) rfl rfl hc1.1 hc1.2 rfl (wants0 rfl) rfl rfl rfl (v := fun x6 => .agg #[.int .i64 (((((a0.2.2).getD (s4 : Int).toNat default)).1)), .bool (((((a0.2.2).getD (s4 : Int).toNat default)).2))]) (hs' := fun x6 => Cl b1 25 [str a0.1, .slice A0a a0.2.1.length c0a, .slice A0b a0.2.2.length c0b] :: Ro (Elt.pair EStr (Elt.pair E64 E64)) A0a c0a a0.2.1 :: Ro (Elt.pair E64 EBool) A0b c0b a0.2.2 :: hs) (fun _ => rfl) (fun _ => rfl) (fun x6 => ?_)
       refine T.allocS .list rfl (wants0 rfl) rfl (cs := [.int .i64 0, .bool false]) rfl (fun b2 => ?_)
       refine T.store .list 0 rfl rfl (wants0 rfl) rfl rfl rfl rfl (Nat.le_of_ble_eq_true rfl) rfl (cs' := [.int .i64 (((((a0.2.2).getD (s4 : Int).toNat default)).1)), .bool (((((a0.2.2).getD (s4 : Int).toNat default)).2))]) rfl rfl ?_
       refine T.nil ?_
       refine T.then_normal ?_
       refine T.seq ?_
       refine T.seqJ (fun (s6 : Bool) (x7 : Unit) => [(1, .pointer (some ⟨b1, 0, none⟩)), (6, .int .i64 s4), (7, .pointer (some ⟨b2, 0, none⟩)), (118, .bool s6)]) (fun s6 x7 => Cl b1 25 [str a0.1, .slice A0a a0.2.1.length c0a, .slice A0b a0.2.2.length c0b] :: Ro (Elt.pair EStr (Elt.pair E64 E64)) A0a c0a a0.2.1 :: Ro (Elt.pair E64 EBool) A0b c0b a0.2.2 :: Cl b2 58 [.int .i64 (((((a0.2.2).getD (s4 : Int).toNat default)).1)), .bool (((((a0.2.2).getD (s4 : Int).toNat default)).2))] :: hs) (fun s6 => ref14_Right.k5 s4 a0 s6 = some o1) (fun s6 x7 hk5 => ?_) (fun J5 => ?_)
       ·unfold ref14_Right.k5 at hk5
        refine T.cond rfl (fun hb3 => ?_) (fun hb3 => ?_)
        ·replace hk5 := inv_posB hb3 hk5
         refine T.seq ?_
         refine T.region ?_
         refine T.assign .list rfl (wants0 rfl) rfl rfl ?_
         refine T.nil ?_
         refine T.then_normal ?_
         refine T.ret ?_
         refine T.then_ret ?_
         refine T.in_ret ?_
         refine T.then_ret ?_
         refine T.then_ret ?_
         obtain rfl := inv_some hk5
         obtain rfl := hx1 _ rfl
         refine T.in_ret ?_
         refine T.then_ret ?_
         obtain rfl := inv_some hk2
         refine T.pick [] 4 rfl rfl (Nat.le_add_left _ _) rfl ?_
         refine T.ret1 rfl rfl (fun w hS => ⟨(), rfl, hS⟩)
        ·replace hk5 := inv_negB hb3 hk5
         refine T.skip ?_
         refine T.then_normal ?_
         refine T.seq ?_
         refine T.region ?_
         refine T.assign .list rfl (wants0 rfl) rfl rfl ?_
         refine T.nil ?_
         refine T.then_normal ?_
         refine T.block ?_
         obtain ⟨e2, hl2, hk5⟩ := inv_bind hk5
         refine T.le (EnvLe.cons rfl (EnvLe.cons rfl (EnvLe.cons rfl (EnvLe.cons rfl EnvLe.nil)))) (T.pick [0, 1, 2, 3] 4 rfl rfl (Nat.le_add_left _ _) rfl (T.loop (s0 := 0) (env := fun s7 x8 => [(1, .pointer (some ⟨b1, 0, none⟩)), (6, .int .i64 s4), (7, .pointer (some ⟨b2, 0, none⟩)), (8, .int .i64 s7)]) (hs := fun (s7 : Int) (x8 : Unit) => Cl b1 25 [str a0.1, .slice A0a a0.2.1.length c0a, .slice A0b a0.2.2.length c0b] :: Ro (Elt.pair EStr (Elt.pair E64 E64)) A0a c0a a0.2.1 :: Ro (Elt.pair E64 EBool) A0b c0b a0.2.2 :: Cl b2 58 [.int .i64 (((((a0.2.2).getD (s4 : Int).toNat default)).1)), .bool (((((a0.2.2).getD (s4 : Int).toNat default)).2))] :: hs) hl2 () (fun K2 s7 x8 o2 he2 hm2 hx2 => ?_)))
         unfold ref14_Right.st2 at he2
         refine T.seq ?_
         refine T.seq ?_
         refine T.region ?_
         refine T.move .list rfl (wants0 rfl) rfl rfl ?_
         refine T.move .list rfl (wants0 rfl) rfl rfl ?_
         refine T.bin .list rfl (wants0 rfl) rfl rfl rfl rfl ?_
         refine T.nil ?_
         refine T.then_normal ?_
         refine T.cond rfl (fun hb4 => ?_) (fun hb4 => ?_)
         ·replace he2 := inv_posB hb4 he2
          refine T.skip ?_
          refine T.then_normal ?_
          refine T.seq ?_
          refine T.block ?_
          refine T.seq ?_
          refine T.plan [(0, 0), (2, 0), (6, 0), (1, 1), (3, 0), (4, 0), (5, 1), (7, 1), (8, 0)] mixed (by kernel_rfl) (by kernel_rfl) rfl (fun d _ _ _ _ h => by cases d <;> exact h) ?_
          refine T.field (.plan rfl) rfl (wants0 rfl) rfl rfl ?_
          refine T.move (.plan rfl) rfl (wants0 rfl) rfl rfl ?_
          refine T.field (.plan rfl) rfl (wants0 rfl) rfl rfl ?_
          refine T.load (.plan rfl) 0 rfl rfl (wants0 rfl) rfl rfl rfl ?_
          obtain ⟨hc2, he2⟩ := inv_chk he2
          refine T.idxRo (.plan rfl) 2 rfl rfl (wants0 rfl) rfl rfl rfl hc2.1 hc2.2 (Nat.le_refl _) ?_
          refine T.fieldRo (.plan rfl) 2 rfl hc2.1 hc2.2 rfl (wants0 rfl) rfl rfl ?_
          refine T.fldRo 2 (.plan rfl) (Fd.fst Fd.self) rfl rfl hc2.1 hc2.2 rfl (wants0 rfl) rfl rfl rfl ?_
          refine T.load (.plan rfl) 3 rfl rfl (wants0 rfl) rfl rfl rfl ?_
          refine T.bin (.plan rfl) rfl (wants0 rfl) rfl rfl rfl rfl ?_
          refine T.planEnd ?_
          refine T.then_normal ?_
          refine T.cond rfl (fun hb5 => ?_) (fun hb5 => ?_)
          ·replace he2 := inv_posB hb5 he2
           refine T.seq ?_
           refine T.region ?_
           refine T.assign .list rfl (wants0 rfl) rfl rfl ?_
           refine T.nil ?_
           refine T.then_normal ?_
           refine T.ret ?_
           refine T.in_ret ?_
           refine T.then_ret ?_
           refine T.then_ret ?_
           obtain rfl := inv_some he2
           obtain rfl := hx2 _ rfl
           refine T.in_ret ?_
           refine T.in_ret ?_
           refine T.then_ret ?_
           refine T.then_ret ?_
           obtain rfl := inv_some hk5
           obtain rfl := hx1 _ rfl
           refine T.in_ret ?_
           refine T.then_ret ?_
           obtain rfl := inv_some hk2
           refine T.pick [] 4 rfl rfl (Nat.le_add_left _ _) rfl ?_
           refine T.ret1 rfl rfl (fun w hS => ⟨(), rfl, hS⟩)
          ·replace he2 := inv_negB hb5 he2
           refine T.skip ?_
           refine T.in_normal ?_
           refine T.then_normal ?_
           refine T.region ?_
           refine T.move .list rfl (wants0 rfl) rfl rfl ?_
           refine T.bin .list rfl (wants0 rfl) rfl rfl rfl rfl ?_
           refine T.assign .list rfl (wants0 rfl) rfl rfl ?_
           refine T.nil ?_
           refine T.then_normal ?_
           obtain rfl := inv_some he2
           exact T.le (EnvLe.cons rfl (EnvLe.cons rfl (EnvLe.cons rfl (EnvLe.cons rfl EnvLe.nil)))) (T.pick [0, 1, 2, 3] 4 rfl rfl (Nat.le_add_left _ _) rfl (hm2 _ rfl ()))
         ·replace he2 := inv_negB hb4 he2
          refine T.exit ?_
          refine T.then_exit ?_
          refine T.then_exit ?_
          obtain rfl := inv_some he2
          obtain rfl := hx2 _ rfl
          refine T.in_hit ?_
          refine T.in_normal ?_
          refine T.then_normal ?_
          exact T.le (EnvLe.cons rfl (EnvLe.cons rfl EnvLe.nil)) (T.pick [0, 1, 2] 4 rfl rfl (Nat.le_add_left _ _) rfl (J4 () () hk5))
       ·refine T.region ?_
        refine T.field .list rfl (wants0 rfl) rfl rfl ?_
        refine T.load .list 0 rfl rfl (wants0 rfl) rfl rfl rfl ?_
        refine T.bin .list rfl (wants0 rfl) rfl rfl rfl rfl ?_
        refine T.move .list rfl (wants0 rfl) rfl rfl ?_
        refine T.bool (b := (decide (((((((a0.2.2).getD (s4 : Int).toNat default)).1))) < 1))) (fun hb6 => ?_) (fun hb6 => ?_)
        ·replace he1 := inv_posB hb6 he1
         refine T.leave .list (wantsNot rfl rfl rfl hb6) rfl ?_
         refine T.leave .list (wantsNot rfl rfl rfl hb6) rfl ?_
         refine T.leave .list (wantsNot rfl rfl rfl hb6) rfl ?_
         refine T.leave .list (wantsNot rfl rfl rfl hb6) rfl ?_
         refine T.leave .list (wantsNot rfl rfl rfl hb6) rfl ?_
         refine T.leave .list (wantsNot rfl rfl rfl hb6) rfl ?_
         refine T.pickT .list rfl (wants0 rfl) rfl rfl hb6 rfl ?_
         refine T.nil ?_
         refine T.then_normal ?_
         exact T.le (EnvLe.cons rfl (EnvLe.cons rfl (EnvLe.cons rfl (EnvLe.cons rfl EnvLe.nil)))) (T.pick [1, 2, 3, 0] 4 rfl rfl (Nat.le_add_left _ _) rfl (J5 true () he1))
        ·replace he1 := inv_negB hb6 he1
         refine T.field .list rfl (wants1 rfl rfl rfl hb6) rfl rfl ?_
         refine T.load .list 0 rfl rfl (wants1 rfl rfl rfl hb6) rfl rfl rfl ?_
         refine T.field .list rfl (wants1 rfl rfl rfl hb6) rfl rfl ?_
         refine T.load .list 1 rfl rfl (wants1 rfl rfl rfl hb6) rfl rfl rfl ?_
         refine T.lenSlice .list rfl (wants1 rfl rfl rfl hb6) rfl rfl ?_
         refine T.bin .list rfl (wants1 rfl rfl rfl hb6) rfl rfl rfl rfl ?_
         refine T.pickF .list rfl (wants0 rfl) rfl rfl hb6 rfl ?_
         refine T.nil ?_
         refine T.then_normal ?_
         exact T.le (EnvLe.cons rfl (EnvLe.cons rfl (EnvLe.cons rfl (EnvLe.cons rfl EnvLe.nil)))) (T.pick [1, 2, 3, 0] 4 rfl rfl (Nat.le_add_left _ _) rfl (J5 (decide ((((a0.2.1.length : Int))) ≤ (((((a0.2.2).getD (s4 : Int).toNat default)).1)))) () he1))
     ·replace he1 := inv_negB hb2 he1
      refine T.exit ?_
      refine T.then_exit ?_
      refine T.then_exit ?_
      obtain rfl := inv_some he1
      obtain rfl := hx1 _ rfl
      refine T.in_hit ?_
      refine T.then_normal ?_
      exact T.le EnvLe.nil (T.pick [] 3 rfl rfl (Nat.le_add_left _ _) rfl (J3 () () hk2))
   ·refine T.seq ?_
    refine T.region ?_
    refine T.assign .list rfl (wants0 rfl) rfl rfl ?_
    refine T.nil ?_
    refine T.then_normal ?_
    refine T.block ?_
    obtain ⟨e3, hl3, hk1⟩ := inv_bind hk1
    refine T.le (EnvLe.cons rfl (EnvLe.cons rfl EnvLe.nil)) (T.pick [0, 1, 2] 3 rfl rfl (Nat.le_add_left _ _) rfl (T.loop (s0 := 0) (env := fun s8 x9 => [(1, .pointer (some ⟨b1, 0, none⟩)), (3, .int .i64 s8)]) (hs := fun (s8 : Int) (x9 : Unit) => Cl b1 25 [str a0.1, .slice A0a a0.2.1.length c0a, .slice A0b a0.2.2.length c0b] :: Ro (Elt.pair EStr (Elt.pair E64 E64)) A0a c0a a0.2.1 :: Ro (Elt.pair E64 EBool) A0b c0b a0.2.2 :: hs) hl3 () (fun K3 s8 x9 o3 he3 hm3 hx3 => ?_)))
    unfold ref14_Right.st3 at he3
    refine T.seq ?_
    refine T.seq ?_
    refine T.region ?_
    refine T.move .list rfl (wants0 rfl) rfl rfl ?_
    refine T.field .list rfl (wants0 rfl) rfl rfl ?_
    refine T.load .list 0 rfl rfl (wants0 rfl) rfl rfl rfl ?_
    refine T.lenSlice .list rfl (wants0 rfl) rfl rfl ?_
    refine T.bin .list rfl (wants0 rfl) rfl rfl rfl rfl ?_
    refine T.nil ?_
    refine T.then_normal ?_
    refine T.cond rfl (fun hb7 => ?_) (fun hb7 => ?_)
    ·replace he3 := inv_posB hb7 he3
     refine T.skip ?_
     refine T.then_normal ?_
     refine T.seqJ (fun (s9 : Unit) (x10 : Unit) => [(1, .pointer (some ⟨b1, 0, none⟩)), (3, .int .i64 s8)]) (fun s9 x10 => Cl b1 25 [str a0.1, .slice A0a a0.2.1.length c0a, .slice A0b a0.2.2.length c0b] :: Ro (Elt.pair EStr (Elt.pair E64 E64)) A0a c0a a0.2.1 :: Ro (Elt.pair E64 EBool) A0b c0b a0.2.2 :: hs) (fun s9 => ref14_Right.k6 s8 s9 = some o3) (fun s9 x10 hk6 => ?_) (fun J6 => ?_)
     ·unfold ref14_Right.k6 at hk6
      refine T.region ?_
      refine T.move .list rfl (wants0 rfl) rfl rfl ?_
      refine T.bin .list rfl (wants0 rfl) rfl rfl rfl rfl ?_
      refine T.assign .list rfl (wants0 rfl) rfl rfl ?_
      refine T.nil ?_
      refine T.then_normal ?_
      obtain rfl := inv_some hk6
      exact T.le (EnvLe.cons rfl (EnvLe.cons rfl EnvLe.nil)) (T.pick [0, 1, 2] 3 rfl rfl (Nat.le_add_left _ _) rfl (hm3 _ rfl ()))
     ·refine T.block ?_
      refine T.seq ?_
      refine T.region ?_
      refine T.field .list rfl (wants0 rfl) rfl rfl ?_
      refine T.load .list 0 rfl rfl (wants0 rfl) rfl rfl rfl ?_
      refine T.move .list rfl (wants0 rfl) rfl rfl ?_
      obtain ⟨hc3, he3⟩ := inv_chk he3
      refine T.idxRo .list 1 rfl rfl (wants0 rfl) rfl rfl rfl hc3.1 hc3.2 (Nat.le_refl _) ?_
      refine T.ldFRo 1 .list Fd.self (Sh.pair Sh.sc (Sh.pair Sh.sc Sh.sc)) rfl (.inl rfl) rfl rfl hc3.1 hc3.2 rfl (wants0 rfl) rfl rfl rfl (v := fun x11 => .agg #[str (((((a0.2.1).getD (s8 : Int).toNat default)).1)), .int .i64 (((((a0.2.1).getD (s8 : Int).toNat default)).2.1)), .int .i64 (((((a0.2.1).getD (s8 : Int).toNat default)).2.2))]) (hs' := fun x11 => Cl b1 25 [str a0.1, .slice A0a a0.2.1.length c0a, .slice A0b a0.2.2.length c0b] :: Ro (Elt.pair EStr (Elt.pair E64 E64)) A0a c0a a0.2.1 :: Ro (Elt.pair E64 EBool) A0b c0b a0.2.2 :: hs) (fun _ => rfl) (fun _ => rfl) (fun x11 => ?_)
      refine T.allocS .list rfl (wants0 rfl) rfl (cs := [str (([] : List UInt8)), .int .i64 0, .int .i64 0]) rfl (fun b3 => ?_)
      refine T.store .list 0 rfl rfl (wants0 rfl) rfl rfl rfl rfl (Nat.le_of_ble_eq_true rfl) rfl (cs' := [str (((((a0.2.1).getD (s8 : Int).toNat default)).1)), .int .i64 (((((a0.2.1).getD (s8 : Int).toNat default)).2.1)), .int .i64 (((((a0.2.1).getD (s8 : Int).toNat default)).2.2))]) rfl rfl ?_
      refine T.nil ?_
      refine T.then_normal ?_
      refine T.seq ?_
      refine T.seqJ (fun (s10 : Bool) (x12 : Unit) => [(1, .pointer (some ⟨b1, 0, none⟩)), (3, .int .i64 s8), (4, .pointer (some ⟨b3, 0, none⟩)), (81, .bool s10)]) (fun s10 x12 => Cl b1 25 [str a0.1, .slice A0a a0.2.1.length c0a, .slice A0b a0.2.2.length c0b] :: Ro (Elt.pair EStr (Elt.pair E64 E64)) A0a c0a a0.2.1 :: Ro (Elt.pair E64 EBool) A0b c0b a0.2.2 :: Cl b3 54 [str (((((a0.2.1).getD (s8 : Int).toNat default)).1)), .int .i64 (((((a0.2.1).getD (s8 : Int).toNat default)).2.1)), .int .i64 (((((a0.2.1).getD (s8 : Int).toNat default)).2.2))] :: hs) (fun s10 => ref14_Right.k7 s8 a0 s10 = some o3) (fun s10 x12 hk7 => ?_) (fun J7 => ?_)
      ·unfold ref14_Right.k7 at hk7
       refine T.cond rfl (fun hb8 => ?_) (fun hb8 => ?_)
       ·replace hk7 := inv_posB hb8 hk7
        refine T.seq ?_
        refine T.region ?_
        refine T.assign .list rfl (wants0 rfl) rfl rfl ?_
        refine T.nil ?_
        refine T.then_normal ?_
        refine T.ret ?_
        refine T.then_ret ?_
        refine T.in_ret ?_
        refine T.then_ret ?_
        refine T.then_ret ?_
        obtain rfl := inv_some hk7
        obtain rfl := hx3 _ rfl
        refine T.in_ret ?_
        refine T.then_ret ?_
        obtain rfl := inv_some hk1
        refine T.pick [] 4 rfl rfl (Nat.le_add_left _ _) rfl ?_
        refine T.ret1 rfl rfl (fun w hS => ⟨(), rfl, hS⟩)
       ·replace hk7 := inv_negB hb8 hk7
        refine T.skip ?_
        refine T.then_normal ?_
        refine T.seq ?_
        refine T.region ?_
        refine T.assign .list rfl (wants0 rfl) rfl rfl ?_
        refine T.nil ?_
        refine T.then_normal ?_
        refine T.block ?_
        obtain ⟨e4, hl4, hk7⟩ := inv_bind hk7
        refine T.le (EnvLe.cons rfl (EnvLe.cons rfl (EnvLe.cons rfl (EnvLe.cons rfl EnvLe.nil)))) (T.pick [0, 1, 2, 3] 4 rfl rfl (Nat.le_add_left _ _) rfl (T.loop (s0 := 0) (env := fun s11 x13 => [(1, .pointer (some ⟨b1, 0, none⟩)), (3, .int .i64 s8), (4, .pointer (some ⟨b3, 0, none⟩)), (5, .int .i64 s11)]) (hs := fun (s11 : Int) (x13 : Unit) => Cl b1 25 [str a0.1, .slice A0a a0.2.1.length c0a, .slice A0b a0.2.2.length c0b] :: Ro (Elt.pair EStr (Elt.pair E64 E64)) A0a c0a a0.2.1 :: Ro (Elt.pair E64 EBool) A0b c0b a0.2.2 :: Cl b3 54 [str (((((a0.2.1).getD (s8 : Int).toNat default)).1)), .int .i64 (((((a0.2.1).getD (s8 : Int).toNat default)).2.1)), .int .i64 (((((a0.2.1).getD (s8 : Int).toNat default)).2.2))] :: hs) hl4 () (fun K4 s11 x13 o4 he4 hm4 hx4 => ?_)))
        unfold ref14_Right.st4 at he4
        refine T.seq ?_
        refine T.seq ?_
        refine T.region ?_
        refine T.move .list rfl (wants0 rfl) rfl rfl ?_
        refine T.move .list rfl (wants0 rfl) rfl rfl ?_
        refine T.bin .list rfl (wants0 rfl) rfl rfl rfl rfl ?_
        refine T.nil ?_
        refine T.then_normal ?_
        refine T.cond rfl (fun hb9 => ?_) (fun hb9 => ?_)
        ·replace he4 := inv_posB hb9 he4
         refine T.skip ?_
         refine T.then_normal ?_
         refine T.seq ?_
         refine T.block ?_
         refine T.seq ?_
         refine T.plan [(0, 0), (2, 0), (6, 0), (1, 1), (3, 0), (4, 0), (5, 1), (7, 1), (8, 0)] mixed (by kernel_rfl) (by kernel_rfl) rfl (fun d _ _ _ _ h => by cases d <;> exact h) ?_
         refine T.field (.plan rfl) rfl (wants0 rfl) rfl rfl ?_
         refine T.move (.plan rfl) rfl (wants0 rfl) rfl rfl ?_
         refine T.field (.plan rfl) rfl (wants0 rfl) rfl rfl ?_
         refine T.load (.plan rfl) 0 rfl rfl (wants0 rfl) rfl rfl rfl ?_
         obtain ⟨hc4, he4⟩ := inv_chk he4
         refine T.idxRo (.plan rfl) 1 rfl rfl (wants0 rfl) rfl rfl rfl hc4.1 hc4.2 (Nat.le_refl _) ?_
         refine T.fieldRo (.plan rfl) 1 rfl hc4.1 hc4.2 rfl (wants0 rfl) rfl rfl ?_
         refine T.fldRo 1 (.plan rfl) (Fd.fst Fd.self) rfl rfl hc4.1 hc4.2 rfl (wants0 rfl) rfl rfl rfl ?_
         refine T.load (.plan rfl) 3 rfl rfl (wants0 rfl) rfl rfl rfl ?_
         refine T.strEq (.plan rfl) rfl (wants0 rfl) rfl (l := (((((a0.2.1).getD (s11 : Int).toNat default)).1))) (l' := (((((a0.2.1).getD (s8 : Int).toNat default)).1))) rfl rfl ?_
         refine T.planEnd ?_
         refine T.then_normal ?_
         refine T.cond rfl (fun hb10 => ?_) (fun hb10 => ?_)
         ·replace he4 := inv_posB hb10 he4
          refine T.seq ?_
          refine T.region ?_
          refine T.assign .list rfl (wants0 rfl) rfl rfl ?_
          refine T.nil ?_
          refine T.then_normal ?_
          refine T.ret ?_
          refine T.in_ret ?_
          refine T.then_ret ?_
          refine T.then_ret ?_
          obtain rfl := inv_some he4
          obtain rfl := hx4 _ rfl
          refine T.in_ret ?_
          refine T.in_ret ?_
          refine T.then_ret ?_
          refine T.then_ret ?_
          obtain rfl := inv_some hk7
          obtain rfl := hx3 _ rfl
          refine T.in_ret ?_
          refine T.then_ret ?_
          obtain rfl := inv_some hk1
          refine T.pick [] 4 rfl rfl (Nat.le_add_left _ _) rfl ?_
          refine T.ret1 rfl rfl (fun w hS => ⟨(), rfl, hS⟩)
         ·replace he4 := inv_negB hb10 he4
          refine T.skip ?_
          refine T.in_normal ?_
          refine T.then_normal ?_
          refine T.region ?_
          refine T.move .list rfl (wants0 rfl) rfl rfl ?_
          refine T.bin .list rfl (wants0 rfl) rfl rfl rfl rfl ?_
          refine T.assign .list rfl (wants0 rfl) rfl rfl ?_
          refine T.nil ?_
          refine T.then_normal ?_
          obtain rfl := inv_some he4
          exact T.le (EnvLe.cons rfl (EnvLe.cons rfl (EnvLe.cons rfl (EnvLe.cons rfl EnvLe.nil)))) (T.pick [0, 1, 2, 3] 4 rfl rfl (Nat.le_add_left _ _) rfl (hm4 _ rfl ()))
        ·replace he4 := inv_negB hb9 he4
         refine T.exit ?_
         refine T.then_exit ?_
         refine T.then_exit ?_
         obtain rfl := inv_some he4
         obtain rfl := hx4 _ rfl
         refine T.in_hit ?_
         refine T.in_normal ?_
         refine T.then_normal ?_
         exact T.le (EnvLe.cons rfl (EnvLe.cons rfl EnvLe.nil)) (T.pick [0, 1, 2] 4 rfl rfl (Nat.le_add_left _ _) rfl (J6 () () hk7))
      ·refine T.region ?_
       refine T.field .list rfl (wants0 rfl) rfl rfl ?_
       refine T.load .list 0 rfl rfl (wants0 rfl) rfl rfl rfl ?_
       obtain ⟨r1, hg1, he3⟩ := inv_bind he3
       refine T.call .list (wants0 rfl) rfl (run_callF (vs := [_]) rfl Tryd.func17 rfl (by decide) rfl) (fun w hS => ref14_Name.c hB hS  hg1) (fun x14 => ?_)
       refine T.not .list rfl (wants0 rfl) rfl rfl ?_
       refine T.move .list rfl (wants0 rfl) rfl rfl ?_
       refine T.bool (b := r1) (fun hb11 => ?_) (fun hb11 => ?_)
       ·replace he3 := inv_posB hb11 he3
        refine T.field .list rfl (wants1 rfl rfl rfl (not_t hb11)) rfl rfl ?_
        refine T.load .list 0 rfl rfl (wants1 rfl rfl rfl (not_t hb11)) rfl rfl rfl ?_
        refine T.bin .list rfl (wants1 rfl rfl rfl (not_t hb11)) rfl rfl rfl rfl ?_
        refine T.pickF .list rfl (wants0 rfl) rfl rfl (not_t hb11) rfl ?_
        refine T.move .list rfl (wants0 rfl) rfl rfl ?_
        refine T.bool (b := (decide (((((((a0.2.1).getD (s8 : Int).toNat default)).2.1))) < 1))) (fun hb12 => ?_) (fun hb12 => ?_)
        ·replace he3 := inv_posB hb12 he3
         refine T.leave .list (wantsNot rfl rfl rfl hb12) rfl ?_
         refine T.leave .list (wantsNot rfl rfl rfl hb12) rfl ?_
         refine T.leave .list (wantsNot rfl rfl rfl hb12) rfl ?_
         refine T.pickT .list rfl (wants0 rfl) rfl rfl hb12 rfl ?_
         refine T.move .list rfl (wants0 rfl) rfl rfl ?_
         refine T.leave .list (wantsNot rfl rfl rfl rfl) rfl ?_
         refine T.leave .list (wantsNot rfl rfl rfl rfl) rfl ?_
         refine T.leave .list (wantsNot rfl rfl rfl rfl) rfl ?_
         refine T.leave .list (wantsNot rfl rfl rfl rfl) rfl ?_
         refine T.leave .list (wantsUndef rfl rfl rfl) rfl ?_
         refine T.leave .list (wantsUndef rfl rfl rfl) rfl ?_
         refine T.leave .list (wantsUndef rfl rfl rfl) rfl ?_
         refine T.leave .list (wantsUndef rfl rfl rfl) rfl ?_
         refine T.leave .list (wantsUndef rfl rfl rfl) rfl ?_
         refine T.leave .list (wantsUndef rfl rfl rfl) rfl ?_
         refine T.leave .list (wantsUndef rfl rfl rfl) rfl ?_
         refine T.leave .list (wantsUndef rfl rfl rfl) rfl ?_
         refine T.leave .list (wantsNot rfl rfl rfl rfl) rfl ?_
         refine T.pickT .list rfl (wants0 rfl) rfl rfl rfl rfl ?_
         refine T.move .list rfl (wants0 rfl) rfl rfl ?_
         refine T.leave .list (wantsNot rfl rfl rfl rfl) rfl ?_
         refine T.leave .list (wantsNot rfl rfl rfl rfl) rfl ?_
         refine T.leave .list (wantsNot rfl rfl rfl rfl) rfl ?_
         refine T.leave .list (wantsNot rfl rfl rfl rfl) rfl ?_
         refine T.leave .list (wantsUndef rfl rfl rfl) rfl ?_
         refine T.leave .list (wantsUndef rfl rfl rfl) rfl ?_
         refine T.leave .list (wantsUndef rfl rfl rfl) rfl ?_
         refine T.leave .list (wantsNot rfl rfl rfl rfl) rfl ?_
         refine T.pickT .list rfl (wants0 rfl) rfl rfl rfl rfl ?_
         refine T.nil ?_
         refine T.then_normal ?_
         exact T.le (EnvLe.cons rfl (EnvLe.cons rfl (EnvLe.cons rfl (EnvLe.cons rfl EnvLe.nil)))) (T.pick [1, 2, 3, 0] 4 rfl rfl (Nat.le_add_left _ _) rfl (J7 true () he3))
        ·replace he3 := inv_negB hb12 he3
         refine T.field .list rfl (wants1 rfl rfl rfl hb12) rfl rfl ?_
         refine T.load .list 0 rfl rfl (wants1 rfl rfl rfl hb12) rfl rfl rfl ?_
         refine T.bin .list rfl (wants1 rfl rfl rfl hb12) rfl rfl rfl rfl ?_
         refine T.pickF .list rfl (wants0 rfl) rfl rfl hb12 rfl ?_
         refine T.move .list rfl (wants0 rfl) rfl rfl ?_
         refine T.bool (b := (decide ((3 : Int) < (((((a0.2.1).getD (s8 : Int).toNat default)).2.1))))) (fun hb13 => ?_) (fun hb13 => ?_)
         ·replace he3 := inv_posB hb13 he3
          refine T.leave .list (wantsNot rfl rfl rfl hb13) rfl ?_
          refine T.leave .list (wantsNot rfl rfl rfl hb13) rfl ?_
          refine T.leave .list (wantsNot rfl rfl rfl hb13) rfl ?_
          refine T.leave .list (wantsNot rfl rfl rfl hb13) rfl ?_
          refine T.leave .list (wantsUndef rfl rfl rfl) rfl ?_
          refine T.leave .list (wantsUndef rfl rfl rfl) rfl ?_
          refine T.leave .list (wantsUndef rfl rfl rfl) rfl ?_
          refine T.leave .list (wantsUndef rfl rfl rfl) rfl ?_
          refine T.leave .list (wantsUndef rfl rfl rfl) rfl ?_
          refine T.leave .list (wantsUndef rfl rfl rfl) rfl ?_
          refine T.leave .list (wantsUndef rfl rfl rfl) rfl ?_
          refine T.leave .list (wantsUndef rfl rfl rfl) rfl ?_
          refine T.leave .list (wantsNot rfl rfl rfl hb13) rfl ?_
          refine T.pickT .list rfl (wants0 rfl) rfl rfl hb13 rfl ?_
          refine T.move .list rfl (wants0 rfl) rfl rfl ?_
          refine T.leave .list (wantsNot rfl rfl rfl rfl) rfl ?_
          refine T.leave .list (wantsNot rfl rfl rfl rfl) rfl ?_
          refine T.leave .list (wantsNot rfl rfl rfl rfl) rfl ?_
          refine T.leave .list (wantsNot rfl rfl rfl rfl) rfl ?_
          refine T.leave .list (wantsUndef rfl rfl rfl) rfl ?_
          refine T.leave .list (wantsUndef rfl rfl rfl) rfl ?_
          refine T.leave .list (wantsUndef rfl rfl rfl) rfl ?_
          refine T.leave .list (wantsNot rfl rfl rfl rfl) rfl ?_
          refine T.pickT .list rfl (wants0 rfl) rfl rfl rfl rfl ?_
          refine T.nil ?_
          refine T.then_normal ?_
          exact T.le (EnvLe.cons rfl (EnvLe.cons rfl (EnvLe.cons rfl (EnvLe.cons rfl EnvLe.nil)))) (T.pick [1, 2, 3, 0] 4 rfl rfl (Nat.le_add_left _ _) rfl (J7 true () he3))
         ·replace he3 := inv_negB hb13 he3
          refine T.field .list rfl (wants1 rfl rfl rfl hb13) rfl rfl ?_
          refine T.load .list 0 rfl rfl (wants1 rfl rfl rfl hb13) rfl rfl rfl ?_
          refine T.bin .list rfl (wants1 rfl rfl rfl hb13) rfl rfl rfl rfl ?_
          refine T.move .list rfl (wants1 rfl rfl rfl hb13) rfl rfl ?_
          refine T.bool (b := (decide (((((((a0.2.1).getD (s8 : Int).toNat default)).2.1))) = 2))) (fun hb14 => ?_) (fun hb14 => ?_)
          ·replace he3 := inv_posB hb14 he3
           refine T.field .list rfl (wants1 rfl rfl rfl hb14) rfl rfl ?_
           refine T.load .list 0 rfl rfl (wants1 rfl rfl rfl hb14) rfl rfl rfl ?_
           refine T.bin .list rfl (wants1 rfl rfl rfl hb14) rfl rfl rfl rfl ?_
           refine T.move .list rfl (wants1 rfl rfl rfl hb14) rfl rfl ?_
           refine T.bool (b := (decide (((((((a0.2.1).getD (s8 : Int).toNat default)).2.2))) < 1))) (fun hb15 => ?_) (fun hb15 => ?_)
           ·replace he3 := inv_posB hb15 he3
            refine T.leave .list (wantsNot rfl rfl rfl hb15) rfl ?_
            refine T.leave .list (wantsNot rfl rfl rfl hb15) rfl ?_
            refine T.leave .list (wantsNot rfl rfl rfl hb15) rfl ?_
            refine T.pickT .list rfl (wants1 rfl rfl rfl hb14) rfl rfl hb15 rfl ?_
            refine T.pickT .list rfl (wants1 rfl rfl rfl hb13) rfl rfl hb14 rfl ?_
            refine T.pickF .list rfl (wants0 rfl) rfl rfl hb13 rfl ?_
            refine T.move .list rfl (wants0 rfl) rfl rfl ?_
            refine T.leave .list (wantsNot rfl rfl rfl rfl) rfl ?_
            refine T.leave .list (wantsNot rfl rfl rfl rfl) rfl ?_
            refine T.leave .list (wantsNot rfl rfl rfl rfl) rfl ?_
            refine T.leave .list (wantsNot rfl rfl rfl rfl) rfl ?_
            refine T.leave .list (wantsUndef rfl rfl rfl) rfl ?_
            refine T.leave .list (wantsUndef rfl rfl rfl) rfl ?_
            refine T.leave .list (wantsUndef rfl rfl rfl) rfl ?_
            refine T.leave .list (wantsNot rfl rfl rfl rfl) rfl ?_
            refine T.pickT .list rfl (wants0 rfl) rfl rfl rfl rfl ?_
            refine T.nil ?_
            refine T.then_normal ?_
            exact T.le (EnvLe.cons rfl (EnvLe.cons rfl (EnvLe.cons rfl (EnvLe.cons rfl EnvLe.nil)))) (T.pick [1, 2, 3, 0] 4 rfl rfl (Nat.le_add_left _ _) rfl (J7 true () he3))
           ·replace he3 := inv_negB hb15 he3
            refine T.field .list rfl (wants1 rfl rfl rfl hb15) rfl rfl ?_
            refine T.load .list 0 rfl rfl (wants1 rfl rfl rfl hb15) rfl rfl rfl ?_
            refine T.bin .list rfl (wants1 rfl rfl rfl hb15) rfl rfl rfl rfl ?_
            refine T.pickF .list rfl (wants1 rfl rfl rfl hb14) rfl rfl hb15 rfl ?_
            refine T.pickT .list rfl (wants1 rfl rfl rfl hb13) rfl rfl hb14 rfl ?_
            refine T.pickF .list rfl (wants0 rfl) rfl rfl hb13 rfl ?_
            refine T.move .list rfl (wants0 rfl) rfl rfl ?_
            refine T.bool (b := (decide ((8 : Int) < (((((a0.2.1).getD (s8 : Int).toNat default)).2.2))))) (fun hb16 => ?_) (fun hb16 => ?_)
            ·replace he3 := inv_posB hb16 he3
             refine T.leave .list (wantsNot rfl rfl rfl hb16) rfl ?_
             refine T.leave .list (wantsNot rfl rfl rfl hb16) rfl ?_
             refine T.leave .list (wantsNot rfl rfl rfl hb16) rfl ?_
             refine T.leave .list (wantsNot rfl rfl rfl hb16) rfl ?_
             refine T.leave .list (wantsUndef rfl rfl rfl) rfl ?_
             refine T.leave .list (wantsUndef rfl rfl rfl) rfl ?_
             refine T.leave .list (wantsUndef rfl rfl rfl) rfl ?_
             refine T.leave .list (wantsNot rfl rfl rfl hb16) rfl ?_
             refine T.pickT .list rfl (wants0 rfl) rfl rfl hb16 rfl ?_
             refine T.nil ?_
             refine T.then_normal ?_
             exact T.le (EnvLe.cons rfl (EnvLe.cons rfl (EnvLe.cons rfl (EnvLe.cons rfl EnvLe.nil)))) (T.pick [1, 2, 3, 0] 4 rfl rfl (Nat.le_add_left _ _) rfl (J7 true () he3))
            ·replace he3 := inv_negB hb16 he3
             refine T.field .list rfl (wants1 rfl rfl rfl hb16) rfl rfl ?_
             refine T.load .list 0 rfl rfl (wants1 rfl rfl rfl hb16) rfl rfl rfl ?_
             refine T.bin .list rfl (wants1 rfl rfl rfl hb16) rfl rfl rfl rfl ?_
             refine T.move .list rfl (wants1 rfl rfl rfl hb16) rfl rfl ?_
             refine T.leave .list (wantsNot rfl rfl rfl (not_t hb14)) rfl ?_
             refine T.leave .list (wantsNot rfl rfl rfl (not_t hb14)) rfl ?_
             refine T.leave .list (wantsNot rfl rfl rfl (not_t hb14)) rfl ?_
             refine T.pickF .list rfl (wants1 rfl rfl rfl hb16) rfl rfl (not_t hb14) rfl ?_
             refine T.pickF .list rfl (wants0 rfl) rfl rfl hb16 rfl ?_
             refine T.nil ?_
             refine T.then_normal ?_
             exact T.le (EnvLe.cons rfl (EnvLe.cons rfl (EnvLe.cons rfl (EnvLe.cons rfl EnvLe.nil)))) (T.pick [1, 2, 3, 0] 4 rfl rfl (Nat.le_add_left _ _) rfl (J7 false () he3))
          ·replace he3 := inv_negB hb14 he3
           refine T.leave .list (wantsNot rfl rfl rfl hb14) rfl ?_
           refine T.leave .list (wantsNot rfl rfl rfl hb14) rfl ?_
           refine T.leave .list (wantsNot rfl rfl rfl hb14) rfl ?_
           refine T.leave .list (wantsNot rfl rfl rfl hb14) rfl ?_
           refine T.leave .list (wantsUndef rfl rfl rfl) rfl ?_
           refine T.leave .list (wantsUndef rfl rfl rfl) rfl ?_
           refine T.leave .list (wantsUndef rfl rfl rfl) rfl ?_
           refine T.leave .list (wantsNot rfl rfl rfl hb14) rfl ?_
           refine T.pickF .list rfl (wants1 rfl rfl rfl hb13) rfl rfl hb14 rfl ?_
           refine T.pickF .list rfl (wants0 rfl) rfl rfl hb13 rfl ?_
           refine T.move .list rfl (wants0 rfl) rfl rfl ?_
           refine T.field .list rfl (wants1 rfl rfl rfl rfl) rfl rfl ?_
           refine T.load .list 0 rfl rfl (wants1 rfl rfl rfl rfl) rfl rfl rfl ?_
           refine T.bin .list rfl (wants1 rfl rfl rfl rfl) rfl rfl rfl rfl ?_
           refine T.move .list rfl (wants1 rfl rfl rfl rfl) rfl rfl ?_
           refine T.field .list rfl (wants1 rfl rfl rfl (not_f hb14)) rfl rfl ?_
           refine T.load .list 0 rfl rfl (wants1 rfl rfl rfl (not_f hb14)) rfl rfl rfl ?_
           refine T.bin .list rfl (wants1 rfl rfl rfl (not_f hb14)) rfl rfl rfl rfl ?_
           refine T.pickT .list rfl (wants1 rfl rfl rfl rfl) rfl rfl (not_f hb14) rfl ?_
           refine T.pickF .list rfl (wants0 rfl) rfl rfl rfl rfl ?_
           refine T.nil ?_
           refine T.then_normal ?_
           exact T.le (EnvLe.cons rfl (EnvLe.cons rfl (EnvLe.cons rfl (EnvLe.cons rfl EnvLe.nil)))) (T.pick [1, 2, 3, 0] 4 rfl rfl (Nat.le_add_left _ _) rfl (J7 (!(decide (((((((a0.2.1).getD (s8 : Int).toNat default)).2.2))) = 0))) () he3))
       ·replace he3 := inv_negB hb11 he3
        refine T.leave .list (wantsNot rfl rfl rfl (not_f hb11)) rfl ?_
        refine T.leave .list (wantsNot rfl rfl rfl (not_f hb11)) rfl ?_
        refine T.leave .list (wantsNot rfl rfl rfl (not_f hb11)) rfl ?_
        refine T.pickT .list rfl (wants0 rfl) rfl rfl (not_f hb11) rfl ?_
        refine T.move .list rfl (wants0 rfl) rfl rfl ?_
        refine T.leave .list (wantsNot rfl rfl rfl rfl) rfl ?_
        refine T.leave .list (wantsNot rfl rfl rfl rfl) rfl ?_
        refine T.leave .list (wantsNot rfl rfl rfl rfl) rfl ?_
        refine T.pickT .list rfl (wants0 rfl) rfl rfl rfl rfl ?_
        refine T.move .list rfl (wants0 rfl) rfl rfl ?_
        refine T.leave .list (wantsNot rfl rfl rfl rfl) rfl ?_
        refine T.leave .list (wantsNot rfl rfl rfl rfl) rfl ?_
        refine T.leave .list (wantsNot rfl rfl rfl rfl) rfl ?_
        refine T.leave .list (wantsNot rfl rfl rfl rfl) rfl ?_
        refine T.leave .list (wantsUndef rfl rfl rfl) rfl ?_
        refine T.leave .list (wantsUndef rfl rfl rfl) rfl ?_
        refine T.leave .list (wantsUndef rfl rfl rfl) rfl ?_
        refine T.leave .list (wantsUndef rfl rfl rfl) rfl ?_
        refine T.leave .list (wantsUndef rfl rfl rfl) rfl ?_
        refine T.leave .list (wantsUndef rfl rfl rfl) rfl ?_
        refine T.leave .list (wantsUndef rfl rfl rfl) rfl ?_
        refine T.leave .list (wantsUndef rfl rfl rfl) rfl ?_
        refine T.leave .list (wantsNot rfl rfl rfl rfl) rfl ?_
        refine T.pickT .list rfl (wants0 rfl) rfl rfl rfl rfl ?_
        refine T.move .list rfl (wants0 rfl) rfl rfl ?_
        refine T.leave .list (wantsNot rfl rfl rfl rfl) rfl ?_
        refine T.leave .list (wantsNot rfl rfl rfl rfl) rfl ?_
        refine T.leave .list (wantsNot rfl rfl rfl rfl) rfl ?_
        refine T.leave .list (wantsNot rfl rfl rfl rfl) rfl ?_
        refine T.leave .list (wantsUndef rfl rfl rfl) rfl ?_
        refine T.leave .list (wantsUndef rfl rfl rfl) rfl ?_
        refine T.leave .list (wantsUndef rfl rfl rfl) rfl ?_
        refine T.leave .list (wantsNot rfl rfl rfl rfl) rfl ?_
        refine T.pickT .list rfl (wants0 rfl) rfl rfl rfl rfl ?_
        refine T.nil ?_
        refine T.then_normal ?_
        exact T.le (EnvLe.cons rfl (EnvLe.cons rfl (EnvLe.cons rfl (EnvLe.cons rfl EnvLe.nil)))) (T.pick [1, 2, 3, 0] 4 rfl rfl (Nat.le_add_left _ _) rfl (J7 true () he3))
    ·replace he3 := inv_negB hb7 he3
     refine T.exit ?_
     refine T.then_exit ?_
     refine T.then_exit ?_
     obtain rfl := inv_some he3
     obtain rfl := hx3 _ rfl
     refine T.in_hit ?_
     refine T.then_normal ?_
     exact T.le (EnvLe.cons rfl EnvLe.nil) (T.pick [0, 1, 2] 3 rfl rfl (Nat.le_add_left _ _) rfl (J2 () () hk1))
 ·refine T.region ?_
  refine T.field .list rfl (wants0 rfl) rfl rfl ?_
  refine T.load .list 0 rfl rfl (wants0 rfl) rfl rfl rfl ?_
  obtain ⟨r2, hg2, hr⟩ := inv_bind hr
  refine T.call .list (wants0 rfl) rfl (run_callF (vs := [_]) rfl Tryd.func17 rfl (by decide) rfl) (fun w hS => ref14_Name.c hB hS  hg2) (fun x15 => ?_)
  refine T.not .list rfl (wants0 rfl) rfl rfl ?_
  refine T.move .list rfl (wants0 rfl) rfl rfl ?_
  refine T.bool (b := r2) (fun hb17 => ?_) (fun hb17 => ?_)
  ·replace hr := inv_posB hb17 hr
   refine T.field .list rfl (wants1 rfl rfl rfl (not_t hb17)) rfl rfl ?_
   refine T.load .list 0 rfl rfl (wants1 rfl rfl rfl (not_t hb17)) rfl rfl rfl ?_
   refine T.lenSlice .list rfl (wants1 rfl rfl rfl (not_t hb17)) rfl rfl ?_
   refine T.bin .list rfl (wants1 rfl rfl rfl (not_t hb17)) rfl rfl rfl rfl ?_
   refine T.pickF .list rfl (wants0 rfl) rfl rfl (not_t hb17) rfl ?_
   refine T.move .list rfl (wants0 rfl) rfl rfl ?_
   refine T.bool (b := (decide ((((a0.2.1.length : Int))) < 1))) (fun hb18 => ?_) (fun hb18 => ?_)
   ·replace hr := inv_posB hb18 hr
    refine T.leave .list (wantsNot rfl rfl rfl hb18) rfl ?_
    refine T.leave .list (wantsNot rfl rfl rfl hb18) rfl ?_
    refine T.leave .list (wantsNot rfl rfl rfl hb18) rfl ?_
    refine T.leave .list (wantsNot rfl rfl rfl hb18) rfl ?_
    refine T.pickT .list rfl (wants0 rfl) rfl rfl hb18 rfl ?_
    refine T.move .list rfl (wants0 rfl) rfl rfl ?_
    refine T.leave .list (wantsNot rfl rfl rfl rfl) rfl ?_
    refine T.leave .list (wantsNot rfl rfl rfl rfl) rfl ?_
    refine T.leave .list (wantsNot rfl rfl rfl rfl) rfl ?_
    refine T.leave .list (wantsNot rfl rfl rfl rfl) rfl ?_
    refine T.pickT .list rfl (wants0 rfl) rfl rfl rfl rfl ?_
    refine T.nil ?_
    refine T.then_normal ?_
    exact T.le (EnvLe.cons rfl (EnvLe.cons rfl EnvLe.nil)) (T.pick [0, 2, 1] 3 rfl rfl (Nat.le_add_left _ _) rfl (J1 true () hr))
   ·replace hr := inv_negB hb18 hr
    refine T.field .list rfl (wants1 rfl rfl rfl hb18) rfl rfl ?_
    refine T.load .list 0 rfl rfl (wants1 rfl rfl rfl hb18) rfl rfl rfl ?_
    refine T.lenSlice .list rfl (wants1 rfl rfl rfl hb18) rfl rfl ?_
    refine T.bin .list rfl (wants1 rfl rfl rfl hb18) rfl rfl rfl rfl ?_
    refine T.pickF .list rfl (wants0 rfl) rfl rfl hb18 rfl ?_
    refine T.move .list rfl (wants0 rfl) rfl rfl ?_
    refine T.bool (b := (decide ((3 : Int) < ((a0.2.1.length : Int))))) (fun hb19 => ?_) (fun hb19 => ?_)
    ·replace hr := inv_posB hb19 hr
     refine T.leave .list (wantsNot rfl rfl rfl hb19) rfl ?_
     refine T.leave .list (wantsNot rfl rfl rfl hb19) rfl ?_
     refine T.leave .list (wantsNot rfl rfl rfl hb19) rfl ?_
     refine T.leave .list (wantsNot rfl rfl rfl hb19) rfl ?_
     refine T.pickT .list rfl (wants0 rfl) rfl rfl hb19 rfl ?_
     refine T.nil ?_
     refine T.then_normal ?_
     exact T.le (EnvLe.cons rfl (EnvLe.cons rfl EnvLe.nil)) (T.pick [0, 2, 1] 3 rfl rfl (Nat.le_add_left _ _) rfl (J1 true () hr))
    ·replace hr := inv_negB hb19 hr
     refine T.field .list rfl (wants1 rfl rfl rfl hb19) rfl rfl ?_
     refine T.load .list 0 rfl rfl (wants1 rfl rfl rfl hb19) rfl rfl rfl ?_
     refine T.lenSlice .list rfl (wants1 rfl rfl rfl hb19) rfl rfl ?_
     refine T.bin .list rfl (wants1 rfl rfl rfl hb19) rfl rfl rfl rfl ?_
     refine T.pickF .list rfl (wants0 rfl) rfl rfl hb19 rfl ?_
     refine T.nil ?_
     refine T.then_normal ?_
     exact T.le (EnvLe.cons rfl (EnvLe.cons rfl EnvLe.nil)) (T.pick [0, 2, 1] 3 rfl rfl (Nat.le_add_left _ _) rfl (J1 (decide ((3 : Int) < ((a0.2.2.length : Int)))) () hr))
  ·replace hr := inv_negB hb17 hr
   refine T.leave .list (wantsNot rfl rfl rfl (not_f hb17)) rfl ?_
   refine T.leave .list (wantsNot rfl rfl rfl (not_f hb17)) rfl ?_
   refine T.leave .list (wantsNot rfl rfl rfl (not_f hb17)) rfl ?_
   refine T.leave .list (wantsNot rfl rfl rfl (not_f hb17)) rfl ?_
   refine T.pickT .list rfl (wants0 rfl) rfl rfl (not_f hb17) rfl ?_
   refine T.move .list rfl (wants0 rfl) rfl rfl ?_
   refine T.leave .list (wantsNot rfl rfl rfl rfl) rfl ?_
   refine T.leave .list (wantsNot rfl rfl rfl rfl) rfl ?_
   refine T.leave .list (wantsNot rfl rfl rfl rfl) rfl ?_
   refine T.leave .list (wantsNot rfl rfl rfl rfl) rfl ?_
   refine T.pickT .list rfl (wants0 rfl) rfl rfl rfl rfl ?_
   refine T.move .list rfl (wants0 rfl) rfl rfl ?_
   refine T.leave .list (wantsNot rfl rfl rfl rfl) rfl ?_
   refine T.leave .list (wantsNot rfl rfl rfl rfl) rfl ?_
   refine T.leave .list (wantsNot rfl rfl rfl rfl) rfl ?_
   refine T.leave .list (wantsNot rfl rfl rfl rfl) rfl ?_
   refine T.pickT .list rfl (wants0 rfl) rfl rfl rfl rfl ?_
   refine T.nil ?_
   refine T.then_normal ?_
   exact T.le (EnvLe.cons rfl (EnvLe.cons rfl EnvLe.nil)) (T.pick [0, 2, 1] 3 rfl rfl (Nat.le_add_left _ _) rfl (J1 true () hr))

noncomputable def ref14_Fits.k1 (s1 : Unit) : Option Int :=
  some 0
noncomputable def ref14_Fits.k3 (s2 : Int) (s4 : Bool) : Option (Int ⊕ (Int ⊕ Unit)) :=
  (if s4 = true then some (.inr (.inl 62)) else some (.inl (IntKind.i64.wrap (s2 + 1))))
noncomputable def ref14_Fits.k2 (l1 : List (Int × Int × (List UInt8))) (s2 : Int) (a0 : (List UInt8) × (List ((List UInt8) × Int × Int)) × (List (Int × Bool))) (s3 : Unit) : Option (Int ⊕ (Int ⊕ Unit)) :=
  (ref2_Right.impl ((((((l1).getD (s2 : Int).toNat default)).1), ((((l1).getD (s2 : Int).toNat default)).2.1), ((((l1).getD (s2 : Int).toNat default)).2.2)))).bind fun r2 => (if ((decide (r2 = 0))) = true then (if ((decide (((((((l1).getD (s2 : Int).toNat default)).1))) = (((((a0.2.1).getD (s2 : Int).toNat default)).2.1))))) = true then (if ((decide (s2 = 0))) = true then (if ((decide (((((((l1).getD (s2 : Int).toNat default)).1))) = 0))) = true then ref14_Fits.k3 s2 true else (if ((decide (((((((l1).getD (s2 : Int).toNat default)).1))) = 2))) = true then (ref2_Runes.impl (((((l1).getD (s2 : Int).toNat default)).2.2))).bind fun r3 => ref14_Fits.k3 s2 (decide (((((((a0.2.1).getD (s2 : Int).toNat default)).2.2))) < r3)) else ref14_Fits.k3 s2 false)) else (if ((decide (((((((l1).getD (s2 : Int).toNat default)).1))) = 2))) = true then (ref2_Runes.impl (((((l1).getD (s2 : Int).toNat default)).2.2))).bind fun r4 => ref14_Fits.k3 s2 (decide (((((((a0.2.1).getD (s2 : Int).toNat default)).2.2))) < r4)) else ref14_Fits.k3 s2 false)) else (if ((decide (((((((l1).getD (s2 : Int).toNat default)).1))) = 0))) = true then (if ((decide (s2 = 0))) = true then ref14_Fits.k3 s2 true else (if ((decide (((((((l1).getD (s2 : Int).toNat default)).1))) = 2))) = true then (ref2_Runes.impl (((((l1).getD (s2 : Int).toNat default)).2.2))).bind fun r5 => ref14_Fits.k3 s2 (decide (((((((a0.2.1).getD (s2 : Int).toNat default)).2.2))) < r5)) else ref14_Fits.k3 s2 false)) else ref14_Fits.k3 s2 true)) else ref14_Fits.k3 s2 true)
noncomputable def ref14_Fits.st1 (l1 : List (Int × Int × (List UInt8))) (a0 : (List UInt8) × (List ((List UInt8) × Int × Int)) × (List (Int × Bool))) (s2 : Int) : Option (Int ⊕ (Int ⊕ Unit)) :=
  (if ((decide (s2 < ((l1.length : Int))))) = true then chk (0 ≤ s2 ∧ s2 < (l1.length : Int)) (chk (0 ≤ s2 ∧ s2 < (a0.2.1.length : Int)) (ref14_Fits.k2 l1 s2 a0 ())) else some (.inr (.inr ())))
noncomputable def ref14_Fits.impl (a0 : (List UInt8) × (List ((List UInt8) × Int × Int)) × (List (Int × Bool))) (l1 : List (Int × Int × (List UInt8))) : Option Int :=
  (ref14_Right.impl ((a0.1, a0.2.1, a0.2.2))).bind fun r1 => (if ((!r1)) = true then some 61 else (if ((!(decide ((((l1.length : Int))) = ((a0.2.1.length : Int)))))) = true then some 62 else (loop (ref14_Fits.st1 l1 a0) 0).bind (fun e1 => match e1 with | .inl v => some v | .inr v => ref14_Fits.k1 v)))
set_option maxRecDepth 100000 in
set_option maxHeartbeats 4000000 in
theorem ref14_Fits.c {B : World} {hs : List MP} {w : World} {a0 : (List UInt8) × (List ((List UInt8) × Int × Int)) × (List (Int × Bool))} {i0a c0a : Nat} {A0a : Option Addr} {i0b c0b : Nat} {A0b : Option Addr} {i1 c1 : Nat} {A1 : Option Addr} {l1 : List (Int × Int × (List UInt8))} (hB : Base B) (hS : St B (hs) w) (h0a : (hs)[i0a]? = some (Ro (Elt.pair EStr (Elt.pair E64 E64)) A0a c0a a0.2.1)) (h0b : (hs)[i0b]? = some (Ro (Elt.pair E64 EBool) A0b c0b a0.2.2)) (h1 : (hs)[i1]? = some (Ro (Elt.pair E64 (Elt.pair E64 EStr)) A1 c1 l1)) {r : Int} (hr : ref14_Fits.impl a0 l1 = some r) :
    Calls Tryd.prog 13 #[.agg #[str a0.1, .slice A0a a0.2.1.length c0a, .slice A0b a0.2.2.length c0b], .slice A1 l1.length c1] w fun e w' => ∃ x : Unit, e = .returned (.int .i64 r) ∧ St B (hs) w' := by
 unfold ref14_Fits.impl at hr
 refine calls_T Tryd.func13 rfl rfl rfl hS ?_
 refine T.front i0a h0a ?_
 refine T.front (i0b + 1) h0b ?_
 refine T.front (i1 + 2) h1 ?_
 refine T.seq ?_
 refine T.region ?_
 refine T.boxS .list rfl (wants0 rfl) rfl rfl (cs := [str a0.1, .slice A0a a0.2.1.length c0a, .slice A0b a0.2.2.length c0b]) rfl (fun b1 => ?_)
 refine T.assign .list rfl (wants0 rfl) rfl rfl ?_
 refine T.nil ?_
 refine T.then_normal ?_
 refine T.seq ?_
 refine T.seq ?_
 refine T.region ?_
 refine T.loadN .list 0 rfl rfl (wants0 rfl) rfl rfl (vs := [str a0.1, .slice A0a a0.2.1.length c0a, .slice A0b a0.2.2.length c0b]) rfl rfl ?_
 obtain ⟨r1, hg1, hr⟩ := inv_bind hr
 refine T.call .list (wants0 rfl) rfl (run_callF (vs := [_]) rfl Tryd.func11 rfl (by decide) rfl) (fun w hS => ref14_Right.c hB hS (i0a := 3) (i0b := 2) (a0 := (a0.1, a0.2.1, a0.2.2)) rfl rfl hg1) (fun x1 => ?_)
 refine T.not .list rfl (wants0 rfl) rfl rfl ?_
 refine T.nil ?_
 refine T.then_normal ?_
 refine T.cond rfl (fun hb1 => ?_) (fun hb1 => ?_)
 ·replace hr := inv_posB hb1 hr
  refine T.seq ?_
  refine T.region ?_
  refine T.assign .list rfl (wants0 rfl) rfl rfl ?_
  refine T.nil ?_
  refine T.then_normal ?_
  refine T.ret ?_
  refine T.then_ret ?_
  obtain rfl := inv_some hr
  refine T.pick [] 4 rfl rfl (Nat.le_add_left _ _) rfl ?_
  refine T.ret1 rfl rfl (fun w hS => ⟨(), rfl, hS⟩)
 ·replace hr := inv_negB hb1 hr
  refine T.skip ?_
  refine T.then_normal ?_
  refine T.seq ?_
  refine T.seq ?_
  refine T.region ?_
  refine T.move .list rfl (wants0 rfl) rfl rfl ?_
  refine T.lenSlice .list rfl (wants0 rfl) rfl rfl ?_
  refine T.field .list rfl (wants0 rfl) rfl rfl ?_
  refine T.load .list 0 rfl rfl (wants0 rfl) rfl rfl rfl ?_
  refine T.lenSlice .list rfl (wants0 rfl) rfl rfl ?_
  refine T.bin .list rfl (wants0 rfl) rfl rfl rfl rfl ?_
  refine T.nil ?_
  refine T.then_normal ?_
  refine T.cond rfl (fun hb2 => ?_) (fun hb2 => ?_)
  ·replace hr := inv_posB hb2 hr
   refine T.seq ?_
   refine T.region ?_
   refine T.assign .list rfl (wants0 rfl) rfl rfl ?_
   refine T.nil ?_
   refine T.then_normal ?_
   refine T.ret ?_
   refine T.then_ret ?_
   obtain rfl := inv_some hr
   refine T.pick [] 4 rfl rfl (Nat.le_add_left _ _) rfl ?_
   refine T.ret1 rfl rfl (fun w hS => ⟨(), rfl, hS⟩)
  ·replace hr := inv_negB hb2 hr
   refine T.skip ?_
   refine T.then_normal ?_
   refine T.seqJ (fun (s1 : Unit) (x2 : Unit) => []) (fun s1 x2 => hs) (fun s1 => ref14_Fits.k1 s1 = some r) (fun s1 x2 hk1 => ?_) (fun J1 => ?_)
   ·unfold ref14_Fits.k1 at hk1
    refine T.seq ?_
    refine T.region ?_
    refine T.assign .list rfl (wants0 rfl) rfl rfl ?_
    refine T.nil ?_
    refine T.then_normal ?_
    refine T.ret ?_
    obtain rfl := inv_some hk1
    refine T.pick [] 0 rfl rfl (Nat.le_add_left _ _) rfl ?_
    refine T.ret1 rfl rfl (fun w hS => ⟨(), rfl, hS⟩)
   ·refine T.seq ?_
    refine T.region ?_
    refine T.assign .list rfl (wants0 rfl) rfl rfl ?_
    refine T.nil ?_
    refine T.then_normal ?_
    refine T.block ?_
    obtain ⟨e1, hl1, hr⟩ := inv_bind hr
    refine T.le (EnvLe.cons rfl (EnvLe.cons rfl (EnvLe.cons rfl EnvLe.nil))) (T.pick [1, 0, 3, 2] 4 rfl rfl (Nat.le_add_left _ _) rfl (T.loop (s0 := 0) (env := fun s2 x3 => [(1, .slice A1 l1.length c1), (2, .pointer (some ⟨b1, 0, none⟩)), (5, .int .i64 s2)]) (hs := fun (s2 : Int) (x3 : Unit) => Ro (Elt.pair E64 (Elt.pair E64 EStr)) A1 c1 l1 :: Cl b1 25 [str a0.1, .slice A0a a0.2.1.length c0a, .slice A0b a0.2.2.length c0b] :: Ro (Elt.pair EStr (Elt.pair E64 E64)) A0a c0a a0.2.1 :: Ro (Elt.pair E64 EBool) A0b c0b a0.2.2 :: hs) hl1 () (fun K1 s2 x3 o1 he1 hm1 hx1 => ?_)))
    unfold ref14_Fits.st1 at he1
    refine T.seq ?_
    refine T.seq ?_
    refine T.region ?_
    refine T.move .list rfl (wants0 rfl) rfl rfl ?_
    refine T.move .list rfl (wants0 rfl) rfl rfl ?_
    refine T.lenSlice .list rfl (wants0 rfl) rfl rfl ?_
    refine T.bin .list rfl (wants0 rfl) rfl rfl rfl rfl ?_
    refine T.nil ?_
    refine T.then_normal ?_
    refine T.cond rfl (fun hb3 => ?_) (fun hb3 => ?_)
    ·replace he1 := inv_posB hb3 he1
     refine T.skip ?_
     refine T.then_normal ?_
     refine T.seq ?_
     refine T.block ?_
     refine T.seqJ (fun (s3 : Unit) (x4 : (Nat) × (Nat)) => [(1, .slice A1 l1.length c1), (2, .pointer (some ⟨b1, 0, none⟩)), (5, .int .i64 s2), (6, .pointer (some ⟨x4.1, 0, none⟩)), (7, .pointer (some ⟨x4.2, 0, none⟩))]) (fun s3 x4 => Ro (Elt.pair E64 (Elt.pair E64 EStr)) A1 c1 l1 :: Cl b1 25 [str a0.1, .slice A0a a0.2.1.length c0a, .slice A0b a0.2.2.length c0b] :: Ro (Elt.pair EStr (Elt.pair E64 E64)) A0a c0a a0.2.1 :: Ro (Elt.pair E64 EBool) A0b c0b a0.2.2 :: Cl x4.1 39 [.int .i64 (((((l1).getD (s2 : Int).toNat default)).1)), .int .i64 (((((l1).getD (s2 : Int).toNat default)).2.1)), str (((((l1).getD (s2 : Int).toNat default)).2.2))] :: Cl x4.2 54 [str (((((a0.2.1).getD (s2 : Int).toNat default)).1)), .int .i64 (((((a0.2.1).getD (s2 : Int).toNat default)).2.1)), .int .i64 (((((a0.2.1).getD (s2 : Int).toNat default)).2.2))] :: hs) (fun s3 => ref14_Fits.k2 l1 s2 a0 s3 = some o1) (fun s3 x4 hk2 => ?_) (fun J2 => ?_)
     ·unfold ref14_Fits.k2 at hk2
      refine T.seqJ (fun (s4 : Bool) (x5 : Unit) => [(1, .slice A1 l1.length c1), (2, .pointer (some ⟨b1, 0, none⟩)), (5, .int .i64 s2), (68, .bool s4)]) (fun s4 x5 => Ro (Elt.pair E64 (Elt.pair E64 EStr)) A1 c1 l1 :: Cl b1 25 [str a0.1, .slice A0a a0.2.1.length c0a, .slice A0b a0.2.2.length c0b] :: Ro (Elt.pair EStr (Elt.pair E64 E64)) A0a c0a a0.2.1 :: Ro (Elt.pair E64 EBool) A0b c0b a0.2.2 :: hs) (fun s4 => ref14_Fits.k3 s2 s4 = some o1) (fun s4 x5 hk3 => ?_) (fun J3 => ?_)
      ·unfold ref14_Fits.k3 at hk3
       refine T.cond rfl (fun hb4 => ?_) (fun hb4 => ?_)
       ·replace hk3 := inv_posB hb4 hk3
        refine T.seq ?_
        refine T.region ?_
        refine T.assign .list rfl (wants0 rfl) rfl rfl ?_
        refine T.nil ?_
        refine T.then_normal ?_
        refine T.ret ?_
        refine T.in_ret ?_
        refine T.then_ret ?_
        refine T.then_ret ?_
        obtain rfl := inv_some hk3
        obtain rfl := hx1 _ rfl
        refine T.in_ret ?_
        refine T.then_ret ?_
        obtain rfl := inv_some hr
        refine T.pick [] 4 rfl rfl (Nat.le_add_left _ _) rfl ?_
        refine T.ret1 rfl rfl (fun w hS => ⟨(), rfl, hS⟩)
       ·replace hk3 := inv_negB hb4 hk3
        refine T.skip ?_
        refine T.in_normal ?_
        refine T.then_normal ?_
        refine T.region ?_
        refine T.move .list rfl (wants0 rfl) rfl rfl ?_
        refine T.bin .list rfl (wants0 rfl) rfl rfl rfl rfl ?_
        refine T.assign .list rfl (wants0 rfl) rfl rfl ?_
        refine T.nil ?_
        refine T.then_normal ?_
        obtain rfl := inv_some hk3
        exact T.le (EnvLe.cons rfl (EnvLe.cons rfl (EnvLe.cons rfl EnvLe.nil))) (T.pick [0, 1, 2, 3] 4 rfl rfl (Nat.le_add_left _ _) rfl (hm1 _ rfl ()))
      ·refine T.dStart mixed ?_
       refine T.dAdd 37 (fun w => w.heap[x4.1]? = some (.cells [.int .i64 (((((l1).getD (s2 : Int).toNat default)).1)), .int .i64 (((((l1).getD (s2 : Int).toNat default)).2.1)), str (((((l1).getD (s2 : Int).toNat default)).2.2))].toArray 39 (0, 0))) (Cl.stays 4 rfl) ?_
       refine T.valS 0 (i := 0) (.agg #[.int .i64 (((((l1).getD (s2 : Int).toNat default)).1)), .int .i64 (((((l1).getD (s2 : Int).toNat default)).2.1)), str (((((l1).getD (s2 : Int).toNat default)).2.2))]) rfl rfl (by kernel_rfl) (by kernel_rfl) (fun d _ _ _ _ h => by cases d <;> exact h) (wants0 rfl) rfl (run_ldClN rfl rfl (vs := [.int .i64 (((((l1).getD (s2 : Int).toNat default)).1)), .int .i64 (((((l1).getD (s2 : Int).toNat default)).2.1)), str (((((l1).getD (s2 : Int).toNat default)).2.2))]) rfl rfl) ?_
       obtain ⟨r2, hg2, hk2⟩ := inv_bind hk2
       refine T.dOnly (i := 1) (by kernel_rfl) ?_
       refine T.call (.dOne rfl (by kernel_rfl)) (wants0 rfl) rfl (run_callF (vs := [_]) rfl Tryd.func36 rfl (by decide) rfl) (fun w hS => ref2_Right.c hB hS (a0 := (((((l1).getD (s2 : Int).toNat default)).1), ((((l1).getD (s2 : Int).toNat default)).2.1), ((((l1).getD (s2 : Int).toNat default)).2.2)))  hg2) (fun x6 => ?_)
       refine T.dNext (phi_cons (.inr (Cl.stays 4 rfl)) phi_nil) ?_
       refine T.bin (.dPure (i := 2) rfl (by kernel_rfl) (fun d _ _ _ _ h => by cases d <;> exact h)) rfl (wants0 rfl) rfl rfl rfl rfl ?_
       refine T.move (.dPure (i := 3) rfl (by kernel_rfl) (fun d _ _ _ _ h => by cases d <;> exact h)) rfl (wants0 rfl) rfl rfl ?_
       refine T.bool (b := (decide (r2 = 0))) (fun hb5 => ?_) (fun hb5 => ?_)
       ·replace hk2 := inv_posB hb5 hk2
        refine T.field (.dPure (i := 4) rfl (by kernel_rfl) (fun d _ _ _ _ h => by cases d <;> exact h)) rfl (wants1 rfl rfl rfl (not_t hb5)) rfl rfl ?_
        refine T.field (.dPure (i := 6) rfl (by kernel_rfl) (fun d _ _ _ _ h => by cases d <;> exact h)) rfl (wants1 rfl rfl rfl (not_t hb5)) rfl rfl ?_
        refine T.valS 0 (i := 5) (.int .i64 (((((l1).getD (s2 : Int).toNat default)).1))) rfl rfl (by kernel_rfl) (by kernel_rfl) (fun d _ _ _ _ h => by cases d <;> exact h) (wants1 rfl rfl rfl (not_t hb5)) rfl (run_ldCl rfl rfl rfl) ?_
        refine T.dAdd 37 (fun w => w.heap[x4.2]? = some (.cells [str (((((a0.2.1).getD (s2 : Int).toNat default)).1)), .int .i64 (((((a0.2.1).getD (s2 : Int).toNat default)).2.1)), .int .i64 (((((a0.2.1).getD (s2 : Int).toNat default)).2.2))].toArray 54 (0, 0))) (Cl.stays 5 rfl) ?_
        refine T.valS 0 (i := 7) (.int .i64 (((((a0.2.1).getD (s2 : Int).toNat default)).2.1))) rfl rfl (by kernel_rfl) (by kernel_rfl) (fun d _ _ _ _ h => by cases d <;> exact h) (wants1 rfl rfl rfl (not_t hb5)) rfl (run_ldCl rfl rfl rfl) ?_
        refine T.bin (.dPure (i := 8) rfl (by kernel_rfl) (fun d _ _ _ _ h => by cases d <;> exact h)) rfl (wants1 rfl rfl rfl (not_t hb5)) rfl rfl rfl rfl ?_
        refine T.move (.dPure (i := 9) rfl (by kernel_rfl) (fun d _ _ _ _ h => by cases d <;> exact h)) rfl (wants1 rfl rfl rfl (not_t hb5)) rfl rfl ?_
        refine T.bool (b := (decide (((((((l1).getD (s2 : Int).toNat default)).1))) = (((((a0.2.1).getD (s2 : Int).toNat default)).2.1))))) (fun hb6 => ?_) (fun hb6 => ?_)
        ·replace hk2 := inv_posB hb6 hk2
         refine T.leave (.dPure (i := 10) rfl (by kernel_rfl) (fun d _ _ _ _ h => by cases d <;> exact h)) (wantsNot rfl rfl rfl (not_t hb6)) rfl ?_
         refine T.leave (.dPure (i := 11) rfl (by kernel_rfl) (fun d _ _ _ _ h => by cases d <;> exact h)) (wantsNot rfl rfl rfl (not_t hb6)) rfl ?_
         refine T.leave (.dPure (i := 12) rfl (by kernel_rfl) (fun d _ _ _ _ h => by cases d <;> exact h)) (wantsNot rfl rfl rfl (not_t hb6)) rfl ?_
         refine T.pickF (.dPure (i := 13) rfl (by kernel_rfl) (fun d _ _ _ _ h => by cases d <;> exact h)) rfl (wants1 rfl rfl rfl (not_t hb5)) rfl rfl (not_t hb6) rfl ?_
         refine T.pickF (.dPure (i := 14) rfl (by kernel_rfl) (fun d _ _ _ _ h => by cases d <;> exact h)) rfl (wants0 rfl) rfl rfl (not_t hb5) rfl ?_
         refine T.move (.dPure (i := 15) rfl (by kernel_rfl) (fun d _ _ _ _ h => by cases d <;> exact h)) rfl (wants0 rfl) rfl rfl ?_
         refine T.move (.dPure (i := 16) rfl (by kernel_rfl) (fun d _ _ _ _ h => by cases d <;> exact h)) rfl (wants1 rfl rfl rfl rfl) rfl rfl ?_
         refine T.bin (.dPure (i := 17) rfl (by kernel_rfl) (fun d _ _ _ _ h => by cases d <;> exact h)) rfl (wants1 rfl rfl rfl rfl) rfl rfl rfl rfl ?_
         refine T.move (.dPure (i := 18) rfl (by kernel_rfl) (fun d _ _ _ _ h => by cases d <;> exact h)) rfl (wants1 rfl rfl rfl rfl) rfl rfl ?_
         refine T.bool (b := (decide (s2 = 0))) (fun hb7 => ?_) (fun hb7 => ?_)
         ·replace hk2 := inv_posB hb7 hk2
          refine T.field (.dPure (i := 19) rfl (by kernel_rfl) (fun d _ _ _ _ h => by cases d <;> exact h)) rfl (wants1 rfl rfl rfl hb7) rfl rfl ?_
          refine T.valS 1 (i := 20) (.int .i64 (((((l1).getD (s2 : Int).toNat default)).1))) rfl rfl (by kernel_rfl) (by kernel_rfl) (fun d _ _ _ _ h => by cases d <;> exact h) (wants1 rfl rfl rfl hb7) rfl (run_ldCl rfl rfl rfl) ?_
          refine T.bin (.dPure (i := 21) rfl (by kernel_rfl) (fun d _ _ _ _ h => by cases d <;> exact h)) rfl (wants1 rfl rfl rfl hb7) rfl rfl rfl rfl ?_
          refine T.pickT (.dPure (i := 22) rfl (by kernel_rfl) (fun d _ _ _ _ h => by cases d <;> exact h)) rfl (wants1 rfl rfl rfl rfl) rfl rfl hb7 rfl ?_
          refine T.pickF (.dPure (i := 23) rfl (by kernel_rfl) (fun d _ _ _ _ h => by cases d <;> exact h)) rfl (wants0 rfl) rfl rfl rfl rfl ?_
          refine T.move (.dPure (i := 24) rfl (by kernel_rfl) (fun d _ _ _ _ h => by cases d <;> exact h)) rfl (wants0 rfl) rfl rfl ?_
          refine T.bool (b := (decide (((((((l1).getD (s2 : Int).toNat default)).1))) = 0))) (fun hb8 => ?_) (fun hb8 => ?_)
          ·replace hk2 := inv_posB hb8 hk2
           refine T.leave (.dPure (i := 25) rfl (by kernel_rfl) (fun d _ _ _ _ h => by cases d <;> exact h)) (wantsNot rfl rfl rfl hb8) rfl ?_
           refine T.leave (.dPure (i := 26) rfl (by kernel_rfl) (fun d _ _ _ _ h => by cases d <;> exact h)) (wantsNot rfl rfl rfl hb8) rfl ?_
           refine T.leave (.dPure (i := 27) rfl (by kernel_rfl) (fun d _ _ _ _ h => by cases d <;> exact h)) (wantsNot rfl rfl rfl hb8) rfl ?_
           refine T.leave (.dPure (i := 28) rfl (by kernel_rfl) (fun d _ _ _ _ h => by cases d <;> exact h)) (wantsNot rfl rfl rfl hb8) rfl ?_
           refine T.leave (.dPure (i := 29) rfl (by kernel_rfl) (fun d _ _ _ _ h => by cases d <;> exact h)) (wantsUndef rfl rfl rfl) rfl ?_
           refine T.leave (.dPure (i := 30) rfl (by kernel_rfl) (fun d _ _ _ _ h => by cases d <;> exact h)) (wantsUndef rfl rfl rfl) rfl ?_
           refine T.leave (.dPure (i := 31) rfl (by kernel_rfl) (fun d _ _ _ _ h => by cases d <;> exact h)) (wantsUndef rfl rfl rfl) rfl ?_
           refine T.leave (.dPure (i := 32) rfl (by kernel_rfl) (fun d _ _ _ _ h => by cases d <;> exact h)) (wantsUndef rfl rfl rfl) rfl ?_
           refine T.leave (.dPure (i := 33) rfl (by kernel_rfl) (fun d _ _ _ _ h => by cases d <;> exact h)) (wantsUndef rfl rfl rfl) rfl ?_
           refine T.leave (.dPure (i := 34) rfl (by kernel_rfl) (fun d _ _ _ _ h => by cases d <;> exact h)) (wantsUndef rfl rfl rfl) rfl ?_
           refine T.leave (.dPure (i := 35) rfl (by kernel_rfl) (fun d _ _ _ _ h => by cases d <;> exact h)) (wantsNot rfl rfl rfl hb8) rfl ?_
           refine T.pickT (.dPure (i := 36) rfl (by kernel_rfl) (fun d _ _ _ _ h => by cases d <;> exact h)) rfl (wants0 rfl) rfl rfl hb8 rfl ?_
           refine T.dDone (by kernel_rfl) ?_
           refine T.then_normal ?_
           exact T.le (EnvLe.cons rfl (EnvLe.cons rfl (EnvLe.cons rfl (EnvLe.cons rfl EnvLe.nil)))) (T.pick [0, 1, 2, 3] 6 rfl rfl (Nat.le_add_left _ _) rfl (J3 true () hk2))
          ·replace hk2 := inv_negB hb8 hk2
           refine T.field (.dPure (i := 25) rfl (by kernel_rfl) (fun d _ _ _ _ h => by cases d <;> exact h)) rfl (wants1 rfl rfl rfl hb8) rfl rfl ?_
           refine T.valS 1 (i := 26) (.int .i64 (((((l1).getD (s2 : Int).toNat default)).1))) rfl rfl (by kernel_rfl) (by kernel_rfl) (fun d _ _ _ _ h => by cases d <;> exact h) (wants1 rfl rfl rfl hb8) rfl (run_ldCl rfl rfl rfl) ?_
           refine T.bin (.dPure (i := 27) rfl (by kernel_rfl) (fun d _ _ _ _ h => by cases d <;> exact h)) rfl (wants1 rfl rfl rfl hb8) rfl rfl rfl rfl ?_
           refine T.move (.dPure (i := 28) rfl (by kernel_rfl) (fun d _ _ _ _ h => by cases d <;> exact h)) rfl (wants1 rfl rfl rfl hb8) rfl rfl ?_
           refine T.bool (b := (decide (((((((l1).getD (s2 : Int).toNat default)).1))) = 2))) (fun hb9 => ?_) (fun hb9 => ?_)
           ·replace hk2 := inv_posB hb9 hk2
            refine T.field (.dPure (i := 29) rfl (by kernel_rfl) (fun d _ _ _ _ h => by cases d <;> exact h)) rfl (wants1 rfl rfl rfl hb9) rfl rfl ?_
            refine T.field (.dPure (i := 32) rfl (by kernel_rfl) (fun d _ _ _ _ h => by cases d <;> exact h)) rfl (wants1 rfl rfl rfl hb9) rfl rfl ?_
            refine T.valS 1 (i := 30) (str (((((l1).getD (s2 : Int).toNat default)).2.2))) rfl rfl (by kernel_rfl) (by kernel_rfl) (fun d _ _ _ _ h => by cases d <;> exact h) (wants1 rfl rfl rfl hb9) rfl (run_ldCl rfl rfl rfl) ?_
            refine T.valS 0 (i := 33) (.int .i64 (((((a0.2.1).getD (s2 : Int).toNat default)).2.2))) rfl rfl (by kernel_rfl) (by kernel_rfl) (fun d _ _ _ _ h => by cases d <;> exact h) (wants1 rfl rfl rfl hb9) rfl (run_ldCl rfl rfl rfl) ?_
            obtain ⟨r3, hg3, hk2⟩ := inv_bind hk2
            refine T.dOnly (i := 31) (by kernel_rfl) ?_
            refine T.call (.dOne rfl (by kernel_rfl)) (wants1 rfl rfl rfl hb9) rfl (run_callF (vs := [_]) rfl Tryd.func37 rfl (by decide) rfl) (fun w hS => ref2_Runes.c hB hS  hg3) (fun x7 => ?_)
            refine T.dNext (phi_cons (.inr (Cl.stays 5 rfl)) (phi_cons (.inr (Cl.stays 4 rfl)) phi_nil)) ?_
            refine T.bin (.dPure (i := 34) rfl (by kernel_rfl) (fun d _ _ _ _ h => by cases d <;> exact h)) rfl (wants1 rfl rfl rfl hb9) rfl rfl rfl rfl ?_
            refine T.pickT (.dPure (i := 35) rfl (by kernel_rfl) (fun d _ _ _ _ h => by cases d <;> exact h)) rfl (wants1 rfl rfl rfl hb8) rfl rfl hb9 rfl ?_
            refine T.pickF (.dPure (i := 36) rfl (by kernel_rfl) (fun d _ _ _ _ h => by cases d <;> exact h)) rfl (wants0 rfl) rfl rfl hb8 rfl ?_
            refine T.dDone (by kernel_rfl) ?_
            refine T.then_normal ?_
            exact T.le (EnvLe.cons rfl (EnvLe.cons rfl (EnvLe.cons rfl (EnvLe.cons rfl EnvLe.nil)))) (T.pick [0, 1, 2, 3] 6 rfl rfl (Nat.le_add_left _ _) rfl (J3 (decide (((((((a0.2.1).getD (s2 : Int).toNat default)).2.2))) < r3)) () hk2))
           ·replace hk2 := inv_negB hb9 hk2
            refine T.leave (.dPure (i := 29) rfl (by kernel_rfl) (fun d _ _ _ _ h => by cases d <;> exact h)) (wantsNot rfl rfl rfl hb9) rfl ?_
            refine T.leave (.dPure (i := 30) rfl (by kernel_rfl) (fun d _ _ _ _ h => by cases d <;> exact h)) (wantsNot rfl rfl rfl hb9) rfl ?_
            refine T.leave (.dPure (i := 31) rfl (by kernel_rfl) (fun d _ _ _ _ h => by cases d <;> exact h)) (wantsNot rfl rfl rfl hb9) rfl ?_
            refine T.leave (.dPure (i := 32) rfl (by kernel_rfl) (fun d _ _ _ _ h => by cases d <;> exact h)) (wantsNot rfl rfl rfl hb9) rfl ?_
            refine T.leave (.dPure (i := 33) rfl (by kernel_rfl) (fun d _ _ _ _ h => by cases d <;> exact h)) (wantsNot rfl rfl rfl hb9) rfl ?_
            refine T.leave (.dPure (i := 34) rfl (by kernel_rfl) (fun d _ _ _ _ h => by cases d <;> exact h)) (wantsNot rfl rfl rfl hb9) rfl ?_
            refine T.pickF (.dPure (i := 35) rfl (by kernel_rfl) (fun d _ _ _ _ h => by cases d <;> exact h)) rfl (wants1 rfl rfl rfl hb8) rfl rfl hb9 rfl ?_
            refine T.pickF (.dPure (i := 36) rfl (by kernel_rfl) (fun d _ _ _ _ h => by cases d <;> exact h)) rfl (wants0 rfl) rfl rfl hb8 rfl ?_
            refine T.dDone (by kernel_rfl) ?_
            refine T.then_normal ?_
            exact T.le (EnvLe.cons rfl (EnvLe.cons rfl (EnvLe.cons rfl (EnvLe.cons rfl EnvLe.nil)))) (T.pick [0, 1, 2, 3] 6 rfl rfl (Nat.le_add_left _ _) rfl (J3 false () hk2))
         ·replace hk2 := inv_negB hb7 hk2
          refine T.leave (.dPure (i := 19) rfl (by kernel_rfl) (fun d _ _ _ _ h => by cases d <;> exact h)) (wantsNot rfl rfl rfl hb7) rfl ?_
          refine T.leave (.dPure (i := 20) rfl (by kernel_rfl) (fun d _ _ _ _ h => by cases d <;> exact h)) (wantsNot rfl rfl rfl hb7) rfl ?_
          refine T.leave (.dPure (i := 21) rfl (by kernel_rfl) (fun d _ _ _ _ h => by cases d <;> exact h)) (wantsNot rfl rfl rfl hb7) rfl ?_
          refine T.pickF (.dPure (i := 22) rfl (by kernel_rfl) (fun d _ _ _ _ h => by cases d <;> exact h)) rfl (wants1 rfl rfl rfl rfl) rfl rfl hb7 rfl ?_
          refine T.pickF (.dPure (i := 23) rfl (by kernel_rfl) (fun d _ _ _ _ h => by cases d <;> exact h)) rfl (wants0 rfl) rfl rfl rfl rfl ?_
          refine T.move (.dPure (i := 24) rfl (by kernel_rfl) (fun d _ _ _ _ h => by cases d <;> exact h)) rfl (wants0 rfl) rfl rfl ?_
          refine T.field (.dPure (i := 25) rfl (by kernel_rfl) (fun d _ _ _ _ h => by cases d <;> exact h)) rfl (wants1 rfl rfl rfl rfl) rfl rfl ?_
          refine T.valS 1 (i := 26) (.int .i64 (((((l1).getD (s2 : Int).toNat default)).1))) rfl rfl (by kernel_rfl) (by kernel_rfl) (fun d _ _ _ _ h => by cases d <;> exact h) (wants1 rfl rfl rfl rfl) rfl (run_ldCl rfl rfl rfl) ?_
          refine T.bin (.dPure (i := 27) rfl (by kernel_rfl) (fun d _ _ _ _ h => by cases d <;> exact h)) rfl (wants1 rfl rfl rfl rfl) rfl rfl rfl rfl ?_
          refine T.move (.dPure (i := 28) rfl (by kernel_rfl) (fun d _ _ _ _ h => by cases d <;> exact h)) rfl (wants1 rfl rfl rfl rfl) rfl rfl ?_
          refine T.bool (b := (decide (((((((l1).getD (s2 : Int).toNat default)).1))) = 2))) (fun hb10 => ?_) (fun hb10 => ?_)
          ·replace hk2 := inv_posB hb10 hk2
           refine T.field (.dPure (i := 29) rfl (by kernel_rfl) (fun d _ _ _ _ h => by cases d <;> exact h)) rfl (wants1 rfl rfl rfl hb10) rfl rfl ?_
           refine T.field (.dPure (i := 32) rfl (by kernel_rfl) (fun d _ _ _ _ h => by cases d <;> exact h)) rfl (wants1 rfl rfl rfl hb10) rfl rfl ?_
           refine T.valS 1 (i := 30) (str (((((l1).getD (s2 : Int).toNat default)).2.2))) rfl rfl (by kernel_rfl) (by kernel_rfl) (fun d _ _ _ _ h => by cases d <;> exact h) (wants1 rfl rfl rfl hb10) rfl (run_ldCl rfl rfl rfl) ?_
           refine T.valS 0 (i := 33) (.int .i64 (((((a0.2.1).getD (s2 : Int).toNat default)).2.2))) rfl rfl (by kernel_rfl) (by kernel_rfl) (fun d _ _ _ _ h => by cases d <;> exact h) (wants1 rfl rfl rfl hb10) rfl (run_ldCl rfl rfl rfl) ?_
           obtain ⟨r4, hg4, hk2⟩ := inv_bind hk2
           refine T.dOnly (i := 31) (by kernel_rfl) ?_
           refine T.call (.dOne rfl (by kernel_rfl)) (wants1 rfl rfl rfl hb10) rfl (run_callF (vs := [_]) rfl Tryd.func37 rfl (by decide) rfl) (fun w hS => ref2_Runes.c hB hS  hg4) (fun x8 => ?_)
           refine T.dNext (phi_cons (.inr (Cl.stays 5 rfl)) (phi_cons (.inr (Cl.stays 4 rfl)) phi_nil)) ?_
           refine T.bin (.dPure (i := 34) rfl (by kernel_rfl) (fun d _ _ _ _ h => by cases d <;> exact h)) rfl (wants1 rfl rfl rfl hb10) rfl rfl rfl rfl ?_
           refine T.pickT (.dPure (i := 35) rfl (by kernel_rfl) (fun d _ _ _ _ h => by cases d <;> exact h)) rfl (wants1 rfl rfl rfl rfl) rfl rfl hb10 rfl ?_
           refine T.pickF (.dPure (i := 36) rfl (by kernel_rfl) (fun d _ _ _ _ h => by cases d <;> exact h)) rfl (wants0 rfl) rfl rfl rfl rfl ?_
           refine T.dDone (by kernel_rfl) ?_
           refine T.then_normal ?_
           exact T.le (EnvLe.cons rfl (EnvLe.cons rfl (EnvLe.cons rfl (EnvLe.cons rfl EnvLe.nil)))) (T.pick [0, 1, 2, 3] 6 rfl rfl (Nat.le_add_left _ _) rfl (J3 (decide (((((((a0.2.1).getD (s2 : Int).toNat default)).2.2))) < r4)) () hk2))
          ·replace hk2 := inv_negB hb10 hk2
           refine T.leave (.dPure (i := 29) rfl (by kernel_rfl) (fun d _ _ _ _ h => by cases d <;> exact h)) (wantsNot rfl rfl rfl hb10) rfl ?_
           refine T.leave (.dPure (i := 30) rfl (by kernel_rfl) (fun d _ _ _ _ h => by cases d <;> exact h)) (wantsNot rfl rfl rfl hb10) rfl ?_
           refine T.leave (.dPure (i := 31) rfl (by kernel_rfl) (fun d _ _ _ _ h => by cases d <;> exact h)) (wantsNot rfl rfl rfl hb10) rfl ?_
           refine T.leave (.dPure (i := 32) rfl (by kernel_rfl) (fun d _ _ _ _ h => by cases d <;> exact h)) (wantsNot rfl rfl rfl hb10) rfl ?_
           refine T.leave (.dPure (i := 33) rfl (by kernel_rfl) (fun d _ _ _ _ h => by cases d <;> exact h)) (wantsNot rfl rfl rfl hb10) rfl ?_
           refine T.leave (.dPure (i := 34) rfl (by kernel_rfl) (fun d _ _ _ _ h => by cases d <;> exact h)) (wantsNot rfl rfl rfl hb10) rfl ?_
           refine T.pickF (.dPure (i := 35) rfl (by kernel_rfl) (fun d _ _ _ _ h => by cases d <;> exact h)) rfl (wants1 rfl rfl rfl rfl) rfl rfl hb10 rfl ?_
           refine T.pickF (.dPure (i := 36) rfl (by kernel_rfl) (fun d _ _ _ _ h => by cases d <;> exact h)) rfl (wants0 rfl) rfl rfl rfl rfl ?_
           refine T.dDone (by kernel_rfl) ?_
           refine T.then_normal ?_
           exact T.le (EnvLe.cons rfl (EnvLe.cons rfl (EnvLe.cons rfl (EnvLe.cons rfl EnvLe.nil)))) (T.pick [0, 1, 2, 3] 6 rfl rfl (Nat.le_add_left _ _) rfl (J3 false () hk2))
        ·replace hk2 := inv_negB hb6 hk2
         refine T.field (.dPure (i := 10) rfl (by kernel_rfl) (fun d _ _ _ _ h => by cases d <;> exact h)) rfl (wants1 rfl rfl rfl (not_f hb6)) rfl rfl ?_
         refine T.valS 1 (i := 11) (.int .i64 (((((l1).getD (s2 : Int).toNat default)).1))) rfl rfl (by kernel_rfl) (by kernel_rfl) (fun d _ _ _ _ h => by cases d <;> exact h) (wants1 rfl rfl rfl (not_f hb6)) rfl (run_ldCl rfl rfl rfl) ?_
         refine T.bin (.dPure (i := 12) rfl (by kernel_rfl) (fun d _ _ _ _ h => by cases d <;> exact h)) rfl (wants1 rfl rfl rfl (not_f hb6)) rfl rfl rfl rfl ?_
         refine T.pickT (.dPure (i := 13) rfl (by kernel_rfl) (fun d _ _ _ _ h => by cases d <;> exact h)) rfl (wants1 rfl rfl rfl (not_t hb5)) rfl rfl (not_f hb6) rfl ?_
         refine T.pickF (.dPure (i := 14) rfl (by kernel_rfl) (fun d _ _ _ _ h => by cases d <;> exact h)) rfl (wants0 rfl) rfl rfl (not_t hb5) rfl ?_
         refine T.move (.dPure (i := 15) rfl (by kernel_rfl) (fun d _ _ _ _ h => by cases d <;> exact h)) rfl (wants0 rfl) rfl rfl ?_
         refine T.bool (b := (decide (((((((l1).getD (s2 : Int).toNat default)).1))) = 0))) (fun hb11 => ?_) (fun hb11 => ?_)
         ·replace hk2 := inv_posB hb11 hk2
          refine T.move (.dPure (i := 16) rfl (by kernel_rfl) (fun d _ _ _ _ h => by cases d <;> exact h)) rfl (wants1 rfl rfl rfl (not_t hb11)) rfl rfl ?_
          refine T.bin (.dPure (i := 17) rfl (by kernel_rfl) (fun d _ _ _ _ h => by cases d <;> exact h)) rfl (wants1 rfl rfl rfl (not_t hb11)) rfl rfl rfl rfl ?_
          refine T.move (.dPure (i := 18) rfl (by kernel_rfl) (fun d _ _ _ _ h => by cases d <;> exact h)) rfl (wants1 rfl rfl rfl (not_t hb11)) rfl rfl ?_
          refine T.bool (b := (decide (s2 = 0))) (fun hb12 => ?_) (fun hb12 => ?_)
          ·replace hk2 := inv_posB hb12 hk2
           refine T.field (.dPure (i := 19) rfl (by kernel_rfl) (fun d _ _ _ _ h => by cases d <;> exact h)) rfl (wants1 rfl rfl rfl hb12) rfl rfl ?_
           refine T.valS 1 (i := 20) (.int .i64 (((((l1).getD (s2 : Int).toNat default)).1))) rfl rfl (by kernel_rfl) (by kernel_rfl) (fun d _ _ _ _ h => by cases d <;> exact h) (wants1 rfl rfl rfl hb12) rfl (run_ldCl rfl rfl rfl) ?_
           refine T.bin (.dPure (i := 21) rfl (by kernel_rfl) (fun d _ _ _ _ h => by cases d <;> exact h)) rfl (wants1 rfl rfl rfl hb12) rfl rfl rfl rfl ?_
           refine T.pickT (.dPure (i := 22) rfl (by kernel_rfl) (fun d _ _ _ _ h => by cases d <;> exact h)) rfl (wants1 rfl rfl rfl (not_t hb11)) rfl rfl hb12 rfl ?_
           refine T.pickF (.dPure (i := 23) rfl (by kernel_rfl) (fun d _ _ _ _ h => by cases d <;> exact h)) rfl (wants0 rfl) rfl rfl (not_t hb11) rfl ?_
           refine T.move (.dPure (i := 24) rfl (by kernel_rfl) (fun d _ _ _ _ h => by cases d <;> exact h)) rfl (wants0 rfl) rfl rfl ?_
           refine T.leave (.dPure (i := 25) rfl (by kernel_rfl) (fun d _ _ _ _ h => by cases d <;> exact h)) (wantsNot rfl rfl rfl hb11) rfl ?_
           refine T.leave (.dPure (i := 26) rfl (by kernel_rfl) (fun d _ _ _ _ h => by cases d <;> exact h)) (wantsNot rfl rfl rfl hb11) rfl ?_
           refine T.leave (.dPure (i := 27) rfl (by kernel_rfl) (fun d _ _ _ _ h => by cases d <;> exact h)) (wantsNot rfl rfl rfl hb11) rfl ?_
           refine T.leave (.dPure (i := 28) rfl (by kernel_rfl) (fun d _ _ _ _ h => by cases d <;> exact h)) (wantsNot rfl rfl rfl hb11) rfl ?_
           refine T.leave (.dPure (i := 29) rfl (by kernel_rfl) (fun d _ _ _ _ h => by cases d <;> exact h)) (wantsUndef rfl rfl rfl) rfl ?_
           refine T.leave (.dPure (i := 30) rfl (by kernel_rfl) (fun d _ _ _ _ h => by cases d <;> exact h)) (wantsUndef rfl rfl rfl) rfl ?_
           refine T.leave (.dPure (i := 31) rfl (by kernel_rfl) (fun d _ _ _ _ h => by cases d <;> exact h)) (wantsUndef rfl rfl rfl) rfl ?_
           refine T.leave (.dPure (i := 32) rfl (by kernel_rfl) (fun d _ _ _ _ h => by cases d <;> exact h)) (wantsUndef rfl rfl rfl) rfl ?_
           refine T.leave (.dPure (i := 33) rfl (by kernel_rfl) (fun d _ _ _ _ h => by cases d <;> exact h)) (wantsUndef rfl rfl rfl) rfl ?_
           refine T.leave (.dPure (i := 34) rfl (by kernel_rfl) (fun d _ _ _ _ h => by cases d <;> exact h)) (wantsUndef rfl rfl rfl) rfl ?_
           refine T.leave (.dPure (i := 35) rfl (by kernel_rfl) (fun d _ _ _ _ h => by cases d <;> exact h)) (wantsNot rfl rfl rfl hb11) rfl ?_
           refine T.pickT (.dPure (i := 36) rfl (by kernel_rfl) (fun d _ _ _ _ h => by cases d <;> exact h)) rfl (wants0 rfl) rfl rfl hb11 rfl ?_
           refine T.dDone (by kernel_rfl) ?_
           refine T.then_normal ?_
           exact T.le (EnvLe.cons rfl (EnvLe.cons rfl (EnvLe.cons rfl (EnvLe.cons rfl EnvLe.nil)))) (T.pick [0, 1, 2, 3] 6 rfl rfl (Nat.le_add_left _ _) rfl (J3 true () hk2))
          ·replace hk2 := inv_negB hb12 hk2
           refine T.leave (.dPure (i := 19) rfl (by kernel_rfl) (fun d _ _ _ _ h => by cases d <;> exact h)) (wantsNot rfl rfl rfl hb12) rfl ?_
           refine T.leave (.dPure (i := 20) rfl (by kernel_rfl) (fun d _ _ _ _ h => by cases d <;> exact h)) (wantsNot rfl rfl rfl hb12) rfl ?_
           refine T.leave (.dPure (i := 21) rfl (by kernel_rfl) (fun d _ _ _ _ h => by cases d <;> exact h)) (wantsNot rfl rfl rfl hb12) rfl ?_
           refine T.pickF (.dPure (i := 22) rfl (by kernel_rfl) (fun d _ _ _ _ h => by cases d <;> exact h)) rfl (wants1 rfl rfl rfl (not_t hb11)) rfl rfl hb12 rfl ?_
           refine T.pickF (.dPure (i := 23) rfl (by kernel_rfl) (fun d _ _ _ _ h => by cases d <;> exact h)) rfl (wants0 rfl) rfl rfl (not_t hb11) rfl ?_
           refine T.move (.dPure (i := 24) rfl (by kernel_rfl) (fun d _ _ _ _ h => by cases d <;> exact h)) rfl (wants0 rfl) rfl rfl ?_
           refine T.field (.dPure (i := 25) rfl (by kernel_rfl) (fun d _ _ _ _ h => by cases d <;> exact h)) rfl (wants1 rfl rfl rfl rfl) rfl rfl ?_
           refine T.valS 1 (i := 26) (.int .i64 (((((l1).getD (s2 : Int).toNat default)).1))) rfl rfl (by kernel_rfl) (by kernel_rfl) (fun d _ _ _ _ h => by cases d <;> exact h) (wants1 rfl rfl rfl rfl) rfl (run_ldCl rfl rfl rfl) ?_
           refine T.bin (.dPure (i := 27) rfl (by kernel_rfl) (fun d _ _ _ _ h => by cases d <;> exact h)) rfl (wants1 rfl rfl rfl rfl) rfl rfl rfl rfl ?_
           refine T.move (.dPure (i := 28) rfl (by kernel_rfl) (fun d _ _ _ _ h => by cases d <;> exact h)) rfl (wants1 rfl rfl rfl rfl) rfl rfl ?_
           refine T.bool (b := (decide (((((((l1).getD (s2 : Int).toNat default)).1))) = 2))) (fun hb13 => ?_) (fun hb13 => ?_)
           ·replace hk2 := inv_posB hb13 hk2
            refine T.field (.dPure (i := 29) rfl (by kernel_rfl) (fun d _ _ _ _ h => by cases d <;> exact h)) rfl (wants1 rfl rfl rfl hb13) rfl rfl ?_
            refine T.field (.dPure (i := 32) rfl (by kernel_rfl) (fun d _ _ _ _ h => by cases d <;> exact h)) rfl (wants1 rfl rfl rfl hb13) rfl rfl ?_
            refine T.valS 1 (i := 30) (str (((((l1).getD (s2 : Int).toNat default)).2.2))) rfl rfl (by kernel_rfl) (by kernel_rfl) (fun d _ _ _ _ h => by cases d <;> exact h) (wants1 rfl rfl rfl hb13) rfl (run_ldCl rfl rfl rfl) ?_
            refine T.valS 0 (i := 33) (.int .i64 (((((a0.2.1).getD (s2 : Int).toNat default)).2.2))) rfl rfl (by kernel_rfl) (by kernel_rfl) (fun d _ _ _ _ h => by cases d <;> exact h) (wants1 rfl rfl rfl hb13) rfl (run_ldCl rfl rfl rfl) ?_
            obtain ⟨r5, hg5, hk2⟩ := inv_bind hk2
            refine T.dOnly (i := 31) (by kernel_rfl) ?_
            refine T.call (.dOne rfl (by kernel_rfl)) (wants1 rfl rfl rfl hb13) rfl (run_callF (vs := [_]) rfl Tryd.func37 rfl (by decide) rfl) (fun w hS => ref2_Runes.c hB hS  hg5) (fun x9 => ?_)
            refine T.dNext (phi_cons (.inr (Cl.stays 5 rfl)) (phi_cons (.inr (Cl.stays 4 rfl)) phi_nil)) ?_
            refine T.bin (.dPure (i := 34) rfl (by kernel_rfl) (fun d _ _ _ _ h => by cases d <;> exact h)) rfl (wants1 rfl rfl rfl hb13) rfl rfl rfl rfl ?_
            refine T.pickT (.dPure (i := 35) rfl (by kernel_rfl) (fun d _ _ _ _ h => by cases d <;> exact h)) rfl (wants1 rfl rfl rfl rfl) rfl rfl hb13 rfl ?_
            refine T.pickF (.dPure (i := 36) rfl (by kernel_rfl) (fun d _ _ _ _ h => by cases d <;> exact h)) rfl (wants0 rfl) rfl rfl rfl rfl ?_
            refine T.dDone (by kernel_rfl) ?_
            refine T.then_normal ?_
            exact T.le (EnvLe.cons rfl (EnvLe.cons rfl (EnvLe.cons rfl (EnvLe.cons rfl EnvLe.nil)))) (T.pick [0, 1, 2, 3] 6 rfl rfl (Nat.le_add_left _ _) rfl (J3 (decide (((((((a0.2.1).getD (s2 : Int).toNat default)).2.2))) < r5)) () hk2))
           ·replace hk2 := inv_negB hb13 hk2
            refine T.leave (.dPure (i := 29) rfl (by kernel_rfl) (fun d _ _ _ _ h => by cases d <;> exact h)) (wantsNot rfl rfl rfl hb13) rfl ?_
            refine T.leave (.dPure (i := 30) rfl (by kernel_rfl) (fun d _ _ _ _ h => by cases d <;> exact h)) (wantsNot rfl rfl rfl hb13) rfl ?_
            refine T.leave (.dPure (i := 31) rfl (by kernel_rfl) (fun d _ _ _ _ h => by cases d <;> exact h)) (wantsNot rfl rfl rfl hb13) rfl ?_
            refine T.leave (.dPure (i := 32) rfl (by kernel_rfl) (fun d _ _ _ _ h => by cases d <;> exact h)) (wantsNot rfl rfl rfl hb13) rfl ?_
            refine T.leave (.dPure (i := 33) rfl (by kernel_rfl) (fun d _ _ _ _ h => by cases d <;> exact h)) (wantsNot rfl rfl rfl hb13) rfl ?_
            refine T.leave (.dPure (i := 34) rfl (by kernel_rfl) (fun d _ _ _ _ h => by cases d <;> exact h)) (wantsNot rfl rfl rfl hb13) rfl ?_
            refine T.pickF (.dPure (i := 35) rfl (by kernel_rfl) (fun d _ _ _ _ h => by cases d <;> exact h)) rfl (wants1 rfl rfl rfl rfl) rfl rfl hb13 rfl ?_
            refine T.pickF (.dPure (i := 36) rfl (by kernel_rfl) (fun d _ _ _ _ h => by cases d <;> exact h)) rfl (wants0 rfl) rfl rfl rfl rfl ?_
            refine T.dDone (by kernel_rfl) ?_
            refine T.then_normal ?_
            exact T.le (EnvLe.cons rfl (EnvLe.cons rfl (EnvLe.cons rfl (EnvLe.cons rfl EnvLe.nil)))) (T.pick [0, 1, 2, 3] 6 rfl rfl (Nat.le_add_left _ _) rfl (J3 false () hk2))
         ·replace hk2 := inv_negB hb11 hk2
          refine T.leave (.dPure (i := 16) rfl (by kernel_rfl) (fun d _ _ _ _ h => by cases d <;> exact h)) (wantsNot rfl rfl rfl (not_f hb11)) rfl ?_
          refine T.leave (.dPure (i := 17) rfl (by kernel_rfl) (fun d _ _ _ _ h => by cases d <;> exact h)) (wantsNot rfl rfl rfl (not_f hb11)) rfl ?_
          refine T.leave (.dPure (i := 18) rfl (by kernel_rfl) (fun d _ _ _ _ h => by cases d <;> exact h)) (wantsNot rfl rfl rfl (not_f hb11)) rfl ?_
          refine T.leave (.dPure (i := 19) rfl (by kernel_rfl) (fun d _ _ _ _ h => by cases d <;> exact h)) (wantsUndef rfl rfl rfl) rfl ?_
          refine T.leave (.dPure (i := 20) rfl (by kernel_rfl) (fun d _ _ _ _ h => by cases d <;> exact h)) (wantsUndef rfl rfl rfl) rfl ?_
          refine T.leave (.dPure (i := 21) rfl (by kernel_rfl) (fun d _ _ _ _ h => by cases d <;> exact h)) (wantsUndef rfl rfl rfl) rfl ?_
          refine T.leave (.dPure (i := 22) rfl (by kernel_rfl) (fun d _ _ _ _ h => by cases d <;> exact h)) (wantsNot rfl rfl rfl (not_f hb11)) rfl ?_
          refine T.pickT (.dPure (i := 23) rfl (by kernel_rfl) (fun d _ _ _ _ h => by cases d <;> exact h)) rfl (wants0 rfl) rfl rfl (not_f hb11) rfl ?_
          refine T.move (.dPure (i := 24) rfl (by kernel_rfl) (fun d _ _ _ _ h => by cases d <;> exact h)) rfl (wants0 rfl) rfl rfl ?_
          refine T.leave (.dPure (i := 25) rfl (by kernel_rfl) (fun d _ _ _ _ h => by cases d <;> exact h)) (wantsNot rfl rfl rfl rfl) rfl ?_
          refine T.leave (.dPure (i := 26) rfl (by kernel_rfl) (fun d _ _ _ _ h => by cases d <;> exact h)) (wantsNot rfl rfl rfl rfl) rfl ?_
          refine T.leave (.dPure (i := 27) rfl (by kernel_rfl) (fun d _ _ _ _ h => by cases d <;> exact h)) (wantsNot rfl rfl rfl rfl) rfl ?_
          refine T.leave (.dPure (i := 28) rfl (by kernel_rfl) (fun d _ _ _ _ h => by cases d <;> exact h)) (wantsNot rfl rfl rfl rfl) rfl ?_
          refine T.leave (.dPure (i := 29) rfl (by kernel_rfl) (fun d _ _ _ _ h => by cases d <;> exact h)) (wantsUndef rfl rfl rfl) rfl ?_
          refine T.leave (.dPure (i := 30) rfl (by kernel_rfl) (fun d _ _ _ _ h => by cases d <;> exact h)) (wantsUndef rfl rfl rfl) rfl ?_
          refine T.leave (.dPure (i := 31) rfl (by kernel_rfl) (fun d _ _ _ _ h => by cases d <;> exact h)) (wantsUndef rfl rfl rfl) rfl ?_
          refine T.leave (.dPure (i := 32) rfl (by kernel_rfl) (fun d _ _ _ _ h => by cases d <;> exact h)) (wantsUndef rfl rfl rfl) rfl ?_
          refine T.leave (.dPure (i := 33) rfl (by kernel_rfl) (fun d _ _ _ _ h => by cases d <;> exact h)) (wantsUndef rfl rfl rfl) rfl ?_
          refine T.leave (.dPure (i := 34) rfl (by kernel_rfl) (fun d _ _ _ _ h => by cases d <;> exact h)) (wantsUndef rfl rfl rfl) rfl ?_
          refine T.leave (.dPure (i := 35) rfl (by kernel_rfl) (fun d _ _ _ _ h => by cases d <;> exact h)) (wantsNot rfl rfl rfl rfl) rfl ?_
          refine T.pickT (.dPure (i := 36) rfl (by kernel_rfl) (fun d _ _ _ _ h => by cases d <;> exact h)) rfl (wants0 rfl) rfl rfl rfl rfl ?_
          refine T.dDone (by kernel_rfl) ?_
          refine T.then_normal ?_
          exact T.le (EnvLe.cons rfl (EnvLe.cons rfl (EnvLe.cons rfl (EnvLe.cons rfl EnvLe.nil)))) (T.pick [0, 1, 2, 3] 6 rfl rfl (Nat.le_add_left _ _) rfl (J3 true () hk2))
       ·replace hk2 := inv_negB hb5 hk2
        refine T.leave (.dPure (i := 4) rfl (by kernel_rfl) (fun d _ _ _ _ h => by cases d <;> exact h)) (wantsNot rfl rfl rfl (not_f hb5)) rfl ?_
        refine T.leave (.dPure (i := 5) rfl (by kernel_rfl) (fun d _ _ _ _ h => by cases d <;> exact h)) (wantsNot rfl rfl rfl (not_f hb5)) rfl ?_
        refine T.leave (.dPure (i := 6) rfl (by kernel_rfl) (fun d _ _ _ _ h => by cases d <;> exact h)) (wantsNot rfl rfl rfl (not_f hb5)) rfl ?_
        refine T.leave (.dPure (i := 7) rfl (by kernel_rfl) (fun d _ _ _ _ h => by cases d <;> exact h)) (wantsNot rfl rfl rfl (not_f hb5)) rfl ?_
        refine T.leave (.dPure (i := 8) rfl (by kernel_rfl) (fun d _ _ _ _ h => by cases d <;> exact h)) (wantsNot rfl rfl rfl (not_f hb5)) rfl ?_
        refine T.leave (.dPure (i := 9) rfl (by kernel_rfl) (fun d _ _ _ _ h => by cases d <;> exact h)) (wantsNot rfl rfl rfl (not_f hb5)) rfl ?_
        refine T.leave (.dPure (i := 10) rfl (by kernel_rfl) (fun d _ _ _ _ h => by cases d <;> exact h)) (wantsUndef rfl rfl rfl) rfl ?_
        refine T.leave (.dPure (i := 11) rfl (by kernel_rfl) (fun d _ _ _ _ h => by cases d <;> exact h)) (wantsUndef rfl rfl rfl) rfl ?_
        refine T.leave (.dPure (i := 12) rfl (by kernel_rfl) (fun d _ _ _ _ h => by cases d <;> exact h)) (wantsUndef rfl rfl rfl) rfl ?_
        refine T.leave (.dPure (i := 13) rfl (by kernel_rfl) (fun d _ _ _ _ h => by cases d <;> exact h)) (wantsNot rfl rfl rfl (not_f hb5)) rfl ?_
        refine T.pickT (.dPure (i := 14) rfl (by kernel_rfl) (fun d _ _ _ _ h => by cases d <;> exact h)) rfl (wants0 rfl) rfl rfl (not_f hb5) rfl ?_
        refine T.move (.dPure (i := 15) rfl (by kernel_rfl) (fun d _ _ _ _ h => by cases d <;> exact h)) rfl (wants0 rfl) rfl rfl ?_
        refine T.leave (.dPure (i := 16) rfl (by kernel_rfl) (fun d _ _ _ _ h => by cases d <;> exact h)) (wantsNot rfl rfl rfl rfl) rfl ?_
        refine T.leave (.dPure (i := 17) rfl (by kernel_rfl) (fun d _ _ _ _ h => by cases d <;> exact h)) (wantsNot rfl rfl rfl rfl) rfl ?_
        refine T.leave (.dPure (i := 18) rfl (by kernel_rfl) (fun d _ _ _ _ h => by cases d <;> exact h)) (wantsNot rfl rfl rfl rfl) rfl ?_
        refine T.leave (.dPure (i := 19) rfl (by kernel_rfl) (fun d _ _ _ _ h => by cases d <;> exact h)) (wantsUndef rfl rfl rfl) rfl ?_
        refine T.leave (.dPure (i := 20) rfl (by kernel_rfl) (fun d _ _ _ _ h => by cases d <;> exact h)) (wantsUndef rfl rfl rfl) rfl ?_
        refine T.leave (.dPure (i := 21) rfl (by kernel_rfl) (fun d _ _ _ _ h => by cases d <;> exact h)) (wantsUndef rfl rfl rfl) rfl ?_
        refine T.leave (.dPure (i := 22) rfl (by kernel_rfl) (fun d _ _ _ _ h => by cases d <;> exact h)) (wantsNot rfl rfl rfl rfl) rfl ?_
        refine T.pickT (.dPure (i := 23) rfl (by kernel_rfl) (fun d _ _ _ _ h => by cases d <;> exact h)) rfl (wants0 rfl) rfl rfl rfl rfl ?_
        refine T.move (.dPure (i := 24) rfl (by kernel_rfl) (fun d _ _ _ _ h => by cases d <;> exact h)) rfl (wants0 rfl) rfl rfl ?_
        refine T.leave (.dPure (i := 25) rfl (by kernel_rfl) (fun d _ _ _ _ h => by cases d <;> exact h)) (wantsNot rfl rfl rfl rfl) rfl ?_
        refine T.leave (.dPure (i := 26) rfl (by kernel_rfl) (fun d _ _ _ _ h => by cases d <;> exact h)) (wantsNot rfl rfl rfl rfl) rfl ?_
        refine T.leave (.dPure (i := 27) rfl (by kernel_rfl) (fun d _ _ _ _ h => by cases d <;> exact h)) (wantsNot rfl rfl rfl rfl) rfl ?_
        refine T.leave (.dPure (i := 28) rfl (by kernel_rfl) (fun d _ _ _ _ h => by cases d <;> exact h)) (wantsNot rfl rfl rfl rfl) rfl ?_
        refine T.leave (.dPure (i := 29) rfl (by kernel_rfl) (fun d _ _ _ _ h => by cases d <;> exact h)) (wantsUndef rfl rfl rfl) rfl ?_
        refine T.leave (.dPure (i := 30) rfl (by kernel_rfl) (fun d _ _ _ _ h => by cases d <;> exact h)) (wantsUndef rfl rfl rfl) rfl ?_
        refine T.leave (.dPure (i := 31) rfl (by kernel_rfl) (fun d _ _ _ _ h => by cases d <;> exact h)) (wantsUndef rfl rfl rfl) rfl ?_
        refine T.leave (.dPure (i := 32) rfl (by kernel_rfl) (fun d _ _ _ _ h => by cases d <;> exact h)) (wantsUndef rfl rfl rfl) rfl ?_
        refine T.leave (.dPure (i := 33) rfl (by kernel_rfl) (fun d _ _ _ _ h => by cases d <;> exact h)) (wantsUndef rfl rfl rfl) rfl ?_
        refine T.leave (.dPure (i := 34) rfl (by kernel_rfl) (fun d _ _ _ _ h => by cases d <;> exact h)) (wantsUndef rfl rfl rfl) rfl ?_
        refine T.leave (.dPure (i := 35) rfl (by kernel_rfl) (fun d _ _ _ _ h => by cases d <;> exact h)) (wantsNot rfl rfl rfl rfl) rfl ?_
        refine T.pickT (.dPure (i := 36) rfl (by kernel_rfl) (fun d _ _ _ _ h => by cases d <;> exact h)) rfl (wants0 rfl) rfl rfl rfl rfl ?_
        refine T.dDone (by kernel_rfl) ?_
        refine T.then_normal ?_
        exact T.le (EnvLe.cons rfl (EnvLe.cons rfl (EnvLe.cons rfl (EnvLe.cons rfl EnvLe.nil)))) (T.pick [0, 1, 2, 3] 6 rfl rfl (Nat.le_add_left _ _) rfl (J3 true () hk2))
     ·refine T.dStart mixed ?_
      refine T.move (.dPure (i := 0) rfl (by kernel_rfl) (fun d _ _ _ _ h => by cases d <;> exact h)) rfl (wants0 rfl) rfl rfl ?_
      refine T.move (.dPure (i := 1) rfl (by kernel_rfl) (fun d _ _ _ _ h => by cases d <;> exact h)) rfl (wants0 rfl) rfl rfl ?_
      obtain ⟨hc1, he1⟩ := inv_chk he1
      refine T.idxRo (.dPure (i := 2) rfl (by kernel_rfl) (fun d _ _ _ _ h => by cases d <;> exact h)) 0 rfl rfl (wants0 rfl) rfl rfl rfl hc1.1 hc1.2 (Nat.le_refl _) ?_
      refine T.field (.dPure (i := 4) rfl (by kernel_rfl) (fun d _ _ _ _ h => by cases d <;> exact h)) rfl (wants0 rfl) rfl rfl ?_
      refine T.move (.dPure (i := 6) rfl (by kernel_rfl) (fun d _ _ _ _ h => by cases d <;> exact h)) rfl (wants0 rfl) rfl rfl ?_
      refine T.keep (fun z1 hk4 => ?_)
      refine T.dAdd 13 (fun w => PH.le z1 (PH.of w)) (Kp.le 0 rfl) ?_
      refine T.valS 0 (i := 3) (.agg #[.int .i64 (((((l1).getD (s2 : Int).toNat default)).1)), .int .i64 (((((l1).getD (s2 : Int).toNat default)).2.1)), str (((((l1).getD (s2 : Int).toNat default)).2.2))]) rfl rfl (by kernel_rfl) (by kernel_rfl) (fun d _ _ _ _ h => by cases d <;> exact h) (wants0 rfl) rfl (run_ldRoN (Sh.pair Sh.sc (Sh.pair Sh.sc Sh.sc)) rfl (hk4 0 rfl).1 rfl rfl hc1.1 hc1.2 (fun _ => rfl)) ?_
      refine T.dAdd 13 (fun w => w.heap[b1]? = some (.cells [str a0.1, .slice A0a a0.2.1.length c0a, .slice A0b a0.2.2.length c0b].toArray 25 (0, 0))) (Cl.stays 2 rfl) ?_
      refine T.valS 0 (i := 5) (.slice A0a a0.2.1.length c0a) rfl rfl (by kernel_rfl) (by kernel_rfl) (fun d _ _ _ _ h => by cases d <;> exact h) (wants0 rfl) rfl (run_ldCl rfl rfl rfl) ?_
      obtain ⟨hc2, he1⟩ := inv_chk he1
      refine T.idxRo (.dPure (i := 7) rfl (by kernel_rfl) (fun d _ _ _ _ h => by cases d <;> exact h)) 3 rfl rfl (wants0 rfl) rfl rfl rfl hc2.1 hc2.2 (Nat.le_refl _) ?_
      refine T.valS 1 (i := 8) (.agg #[str (((((a0.2.1).getD (s2 : Int).toNat default)).1)), .int .i64 (((((a0.2.1).getD (s2 : Int).toNat default)).2.1)), .int .i64 (((((a0.2.1).getD (s2 : Int).toNat default)).2.2))]) rfl rfl (by kernel_rfl) (by kernel_rfl) (fun d _ _ _ _ h => by cases d <;> exact h) (wants0 rfl) rfl (run_ldRoN (Sh.pair Sh.sc (Sh.pair Sh.sc Sh.sc)) rfl (hk4 2 rfl).1 rfl rfl hc2.1 hc2.2 (fun _ => rfl)) ?_
      refine T.d2 (i := 9) (j := 10) (by kernel_rfl) ?_ ?_ 
      ·refine T.allocS (.dOne rfl (by kernel_rfl)) rfl (wants0 rfl) rfl (cs := [.int .i64 0, .int .i64 0, str (([] : List UInt8))]) rfl (fun b2 => ?_)
       refine T.dNext (phi_cons (.inr (Cl.stays 3 rfl)) (phi_cons (.inr (Kp.le 1 rfl)) phi_nil)) ?_
       refine T.dOnly (i := 10) (by kernel_rfl) ?_
       refine T.allocS (.dOne rfl (by kernel_rfl)) rfl (wants0 rfl) rfl (cs := [str (([] : List UInt8)), .int .i64 0, .int .i64 0]) rfl (fun b3 => ?_)
       refine T.dNext (phi_cons (.inr (Cl.stays 4 rfl)) (phi_cons (.inr (Kp.le 2 rfl)) phi_nil)) ?_
       refine T.dOnly (i := 11) (by kernel_rfl) ?_
       refine T.store (.dOne rfl (by kernel_rfl)) 1 rfl rfl (wants0 rfl) rfl rfl rfl rfl (Nat.le_of_ble_eq_true rfl) rfl (cs' := [.int .i64 (((((l1).getD (s2 : Int).toNat default)).1)), .int .i64 (((((l1).getD (s2 : Int).toNat default)).2.1)), str (((((l1).getD (s2 : Int).toNat default)).2.2))]) rfl rfl ?_
       refine T.dNext (phi_cons (.inr (Cl.stays 4 rfl)) (phi_cons (.inr (Kp.le 2 rfl)) phi_nil)) ?_
       refine T.dOnly (i := 12) (by kernel_rfl) ?_
       refine T.store (.dOne rfl (by kernel_rfl)) 0 rfl rfl (wants0 rfl) rfl rfl rfl rfl (Nat.le_of_ble_eq_true rfl) rfl (cs' := [str (((((a0.2.1).getD (s2 : Int).toNat default)).1)), .int .i64 (((((a0.2.1).getD (s2 : Int).toNat default)).2.1)), .int .i64 (((((a0.2.1).getD (s2 : Int).toNat default)).2.2))]) rfl rfl ?_
       refine T.dNext (phi_cons (.inr (Cl.stays 4 rfl)) (phi_cons (.inr (Kp.le 2 rfl)) phi_nil)) ?_
       refine T.dDone (by kernel_rfl) ?_
       refine T.then_normal ?_
       exact T.le (EnvLe.cons rfl (EnvLe.cons rfl (EnvLe.cons rfl (EnvLe.cons rfl (EnvLe.cons rfl EnvLe.nil))))) (T.pick [3, 4, 5, 6, 1, 0] 7 rfl rfl (Nat.le_add_left _ _) rfl (J2 () (b2, b3) he1))
      ·refine T.allocS (.dOne rfl (by kernel_rfl)) rfl (wants0 rfl) rfl (cs := [str (([] : List UInt8)), .int .i64 0, .int .i64 0]) rfl (fun b3 => ?_)
       refine T.dNext (phi_cons (.inr (Cl.stays 3 rfl)) (phi_cons (.inr (Kp.le 1 rfl)) phi_nil)) ?_
       refine T.dOnly (i := 9) (by kernel_rfl) ?_
       refine T.allocS (.dOne rfl (by kernel_rfl)) rfl (wants0 rfl) rfl (cs := [.int .i64 0, .int .i64 0, str (([] : List UInt8))]) rfl (fun b2 => ?_)
       refine T.dNext (phi_cons (.inr (Cl.stays 4 rfl)) (phi_cons (.inr (Kp.le 2 rfl)) phi_nil)) ?_
       refine T.dOnly (i := 11) (by kernel_rfl) ?_
       refine T.store (.dOne rfl (by kernel_rfl)) 0 rfl rfl (wants0 rfl) rfl rfl rfl rfl (Nat.le_of_ble_eq_true rfl) rfl (cs' := [.int .i64 (((((l1).getD (s2 : Int).toNat default)).1)), .int .i64 (((((l1).getD (s2 : Int).toNat default)).2.1)), str (((((l1).getD (s2 : Int).toNat default)).2.2))]) rfl rfl ?_
       refine T.dNext (phi_cons (.inr (Cl.stays 4 rfl)) (phi_cons (.inr (Kp.le 2 rfl)) phi_nil)) ?_
       refine T.dOnly (i := 12) (by kernel_rfl) ?_
       refine T.store (.dOne rfl (by kernel_rfl)) 1 rfl rfl (wants0 rfl) rfl rfl rfl rfl (Nat.le_of_ble_eq_true rfl) rfl (cs' := [str (((((a0.2.1).getD (s2 : Int).toNat default)).1)), .int .i64 (((((a0.2.1).getD (s2 : Int).toNat default)).2.1)), .int .i64 (((((a0.2.1).getD (s2 : Int).toNat default)).2.2))]) rfl rfl ?_
       refine T.dNext (phi_cons (.inr (Cl.stays 4 rfl)) (phi_cons (.inr (Kp.le 2 rfl)) phi_nil)) ?_
       refine T.dDone (by kernel_rfl) ?_
       refine T.then_normal ?_
       exact T.le (EnvLe.cons rfl (EnvLe.cons rfl (EnvLe.cons rfl (EnvLe.cons rfl (EnvLe.cons rfl EnvLe.nil))))) (T.pick [3, 4, 5, 6, 0, 1] 7 rfl rfl (Nat.le_add_left _ _) rfl (J2 () (b2, b3) he1))
    ·replace he1 := inv_negB hb3 he1
     refine T.exit ?_
     refine T.then_exit ?_
     refine T.then_exit ?_
     obtain rfl := inv_some he1
     obtain rfl := hx1 _ rfl
     refine T.in_hit ?_
     refine T.then_normal ?_
     exact T.le EnvLe.nil (T.pick [] 4 rfl rfl (Nat.le_add_left _ _) rfl (J1 () () hr))

noncomputable def ref14_FoldOne.impl (a0 : Int × Int × (List UInt8)) : Option ((Int × Int × (List UInt8))) :=
  (if ((decide (a0.1 = 2))) = true then (ref2_Fold.impl a0.2.2).bind fun r1 => some (a0.1, a0.2.1, r1) else some (a0.1, a0.2.1, a0.2.2))
set_option maxRecDepth 100000 in
set_option maxHeartbeats 4000000 in
theorem ref14_FoldOne.c {B : World} {hs : List MP} {w : World} {a0 : Int × Int × (List UInt8)} (hB : Base B) (hS : St B (hs) w) {r : (Int × Int × (List UInt8))} (hr : ref14_FoldOne.impl a0 = some r) :
    Calls Tryd.prog 38 #[.agg #[.int .i64 a0.1, .int .i64 a0.2.1, str a0.2.2]] w fun e w' => ∃ x : Unit, e = .returned (.agg #[.int .i64 r.1, .int .i64 r.2.1, str r.2.2]) ∧ St B (hs) w' := by
 unfold ref14_FoldOne.impl at hr
 refine calls_T Tryd.func38 rfl rfl rfl hS ?_
 refine T.seq ?_
 refine T.region ?_
 refine T.boxS .list rfl (wants0 rfl) rfl rfl (cs := [.int .i64 a0.1, .int .i64 a0.2.1, str a0.2.2]) rfl (fun b1 => ?_)
 refine T.allocS .list rfl (wants0 rfl) rfl (cs := [.int .i64 0, .int .i64 0, str (([] : List UInt8))]) rfl (fun b2 => ?_)
 refine T.nil ?_
 refine T.then_normal ?_
 refine T.seq ?_
 refine T.seq ?_
 refine T.region ?_
 refine T.field .list rfl (wants0 rfl) rfl rfl ?_
 refine T.load .list 1 rfl rfl (wants0 rfl) rfl rfl rfl ?_
 refine T.bin .list rfl (wants0 rfl) rfl rfl rfl rfl ?_
 refine T.nil ?_
 refine T.then_normal ?_
 refine T.cond rfl (fun hb1 => ?_) (fun hb1 => ?_)
 ·replace hr := inv_posB hb1 hr
  refine T.region ?_
  refine T.field .list rfl (wants0 rfl) rfl rfl ?_
  refine T.load .list 1 rfl rfl (wants0 rfl) rfl rfl rfl ?_
  obtain ⟨r1, hg1, hr⟩ := inv_bind hr
  refine T.call .list (wants0 rfl) rfl (run_callF (vs := [_]) rfl Tryd.func54 rfl (by decide) rfl) (fun w hS => ref2_Fold.c hB hS  hg1) (fun x1 => ?_)
  refine T.field .list rfl (wants0 rfl) rfl rfl ?_
  refine T.store .list 1 rfl rfl (wants0 rfl) rfl rfl rfl rfl (Nat.le_of_ble_eq_true rfl) rfl (cs' := [.int .i64 a0.1, .int .i64 a0.2.1, str r1]) rfl rfl ?_
  refine T.nil ?_
  refine T.then_normal ?_
  refine T.seq ?_
  refine T.region ?_
  refine T.loadN .list 1 rfl rfl (wants0 rfl) rfl rfl (vs := [.int .i64 a0.1, .int .i64 a0.2.1, str r1]) rfl rfl ?_
  refine T.store .list 0 rfl rfl (wants0 rfl) rfl rfl rfl rfl (Nat.le_of_ble_eq_true rfl) rfl (cs' := [.int .i64 a0.1, .int .i64 a0.2.1, str r1]) rfl rfl ?_
  refine T.nil ?_
  refine T.then_normal ?_
  refine T.ret ?_
  obtain rfl := inv_some hr
  refine T.out1 rfl (OutRun.cellN 0 rfl rfl (vs := [.int .i64 a0.1, .int .i64 a0.2.1, str r1]) rfl rfl) (fun w hS => ⟨(), rfl, hS.pick [] 2 rfl rfl (Nat.le_add_left _ _) rfl⟩)
 ·replace hr := inv_negB hb1 hr
  refine T.skip ?_
  refine T.then_normal ?_
  refine T.seq ?_
  refine T.region ?_
  refine T.loadN .list 1 rfl rfl (wants0 rfl) rfl rfl (vs := [.int .i64 a0.1, .int .i64 a0.2.1, str a0.2.2]) rfl rfl ?_
  refine T.store .list 0 rfl rfl (wants0 rfl) rfl rfl rfl rfl (Nat.le_of_ble_eq_true rfl) rfl (cs' := [.int .i64 a0.1, .int .i64 a0.2.1, str a0.2.2]) rfl rfl ?_
  refine T.nil ?_
  refine T.then_normal ?_
  refine T.ret ?_
  obtain rfl := inv_some hr
  refine T.out1 rfl (OutRun.cellN 0 rfl rfl (vs := [.int .i64 a0.1, .int .i64 a0.2.1, str a0.2.2]) rfl rfl) (fun w hS => ⟨(), rfl, hS.pick [] 2 rfl rfl (Nat.le_add_left _ _) rfl⟩)

noncomputable def ref14_Fold.k1 (s1 : (List (Int × Int × (List UInt8)))) : Option ((List (Int × Int × (List UInt8)))) :=
  some s1
noncomputable def ref14_Fold.st1 (l0 : List (Int × Int × (List UInt8))) (s2 : (List (Int × Int × (List UInt8))) × Int) : Option (((List (Int × Int × (List UInt8))) × Int) ⊕ ((List (Int × Int × (List UInt8))))) :=
  (if ((decide (s2.2 < ((l0.length : Int))))) = true then chk (0 ≤ s2.2 ∧ s2.2 < (l0.length : Int)) ((ref14_FoldOne.impl (((l0).getD (s2.2 : Int).toNat default))).bind fun r1 => chk ((s2.1.length + (([r1] : List (Int × Int × (List UInt8)))).length) * 32 ≤ 140737488355328) (some (.inl ((s2.1 ++ (([r1] : List (Int × Int × (List UInt8))))), IntKind.i64.wrap (s2.2 + 1))))) else some (.inr s2.1))
noncomputable def ref14_Fold.impl (l0 : List (Int × Int × (List UInt8))) : Option ((List (Int × Int × (List UInt8)))) :=
  (loop (ref14_Fold.st1 l0) (([] : List (Int × Int × (List UInt8))), 0)).bind (fun e1 => ref14_Fold.k1 e1)
set_option maxRecDepth 100000 in
set_option maxHeartbeats 4000000 in
theorem ref14_Fold.c {B : World} {hs : List MP} {w : World} {i0 c0 : Nat} {A0 : Option Addr} {l0 : List (Int × Int × (List UInt8))} (hB : Base B) (hS : St B (hs) w) (h0 : (hs)[i0]? = some (Ro (Elt.pair E64 (Elt.pair E64 EStr)) A0 c0 l0)) {r : (List (Int × Int × (List UInt8)))} (hr : ref14_Fold.impl l0 = some r) :
    Calls Tryd.prog 15 #[.slice A0 l0.length c0] w fun e w' => ∃ x : (Option Addr × Nat), e = .returned (.slice x.1 r.length x.2) ∧ St B (Bf (Elt.pair E64 (Elt.pair E64 EStr)) 39 x.1 x.2 r :: hs) w' := by
 unfold ref14_Fold.impl at hr
 refine calls_T Tryd.func15 rfl rfl rfl hS ?_
 refine T.front i0 h0 ?_
 refine T.seq ?_
 refine T.region ?_
 refine T.assign .list rfl (wants0 rfl) rfl rfl ?_
 refine T.nil ?_
 refine T.then_normal ?_
 refine T.seq ?_
 refine T.region ?_
 refine T.assign .list rfl (wants0 rfl) rfl rfl ?_
 refine T.nil ?_
 refine T.then_normal ?_
 refine T.seqJ (fun (s1 : (List (Int × Int × (List UInt8)))) (x1 : (Option Addr × Nat)) => [(3, .slice x1.1 s1.length x1.2)]) (fun s1 x1 => Bf (Elt.pair E64 (Elt.pair E64 EStr)) 39 x1.1 x1.2 s1 :: hs) (fun s1 => ref14_Fold.k1 s1 = some r) (fun s1 x1 hk1 => ?_) (fun J1 => ?_)
 ·unfold ref14_Fold.k1 at hk1
  refine T.seq ?_
  refine T.region ?_
  refine T.move .list rfl (wants0 rfl) rfl rfl ?_
  refine T.assign .list rfl (wants0 rfl) rfl rfl ?_
  refine T.nil ?_
  refine T.then_normal ?_
  refine T.ret ?_
  obtain rfl := inv_some hk1
  refine T.pick [0] 1 rfl rfl (Nat.le_add_left _ _) rfl ?_
  refine T.ret1 rfl rfl (fun w hS => ⟨(x1.1, x1.2), rfl, hS⟩)
 ·refine T.seq ?_
  refine T.region ?_
  refine T.assign .list rfl (wants0 rfl) rfl rfl ?_
  refine T.nil ?_
  refine T.then_normal ?_
  refine T.block ?_
  obtain ⟨e1, hl1, hr⟩ := inv_bind hr
  refine T.nilBf (Elt.pair E64 (Elt.pair E64 EStr)) 39 ?_
  refine T.le (EnvLe.cons rfl (EnvLe.cons rfl (EnvLe.cons rfl EnvLe.nil))) (T.pick [1, 0] 2 rfl rfl (Nat.le_add_left _ _) rfl (T.loop (s0 := (([] : List (Int × Int × (List UInt8))), 0)) (env := fun s2 x2 => [(0, .slice A0 l0.length c0), (3, .slice x2.1 s2.1.length x2.2), (4, .int .i64 s2.2)]) (hs := fun (s2 : (List (Int × Int × (List UInt8))) × Int) (x2 : (Option Addr × Nat)) => Ro (Elt.pair E64 (Elt.pair E64 EStr)) A0 c0 l0 :: Bf (Elt.pair E64 (Elt.pair E64 EStr)) 39 x2.1 x2.2 s2.1 :: hs) hl1 (none, 0) (fun K1 s2 x2 o1 he1 hm1 hx1 => ?_)))
  unfold ref14_Fold.st1 at he1
  refine T.seq ?_
  refine T.seq ?_
  refine T.region ?_
  refine T.move .list rfl (wants0 rfl) rfl rfl ?_
  refine T.move .list rfl (wants0 rfl) rfl rfl ?_
  refine T.lenSlice .list rfl (wants0 rfl) rfl rfl ?_
  refine T.bin .list rfl (wants0 rfl) rfl rfl rfl rfl ?_
  refine T.nil ?_
  refine T.then_normal ?_
  refine T.cond rfl (fun hb1 => ?_) (fun hb1 => ?_)
  ·replace he1 := inv_posB hb1 he1
   refine T.skip ?_
   refine T.then_normal ?_
   refine T.seq ?_
   refine T.block ?_
   refine T.region ?_
   refine T.move .list rfl (wants0 rfl) rfl rfl ?_
   refine T.move .list rfl (wants0 rfl) rfl rfl ?_
   refine T.move .list rfl (wants0 rfl) rfl rfl ?_
   obtain ⟨hc1, he1⟩ := inv_chk he1
   refine T.idxRo .list 0 rfl rfl (wants0 rfl) rfl rfl rfl hc1.1 hc1.2 (Nat.le_refl _) ?_
   refine T.ldFRo 0 .list Fd.self (Sh.pair Sh.sc (Sh.pair Sh.sc Sh.sc)) rfl (.inl rfl) rfl rfl hc1.1 hc1.2 rfl (wants0 rfl) rfl rfl rfl (v := fun x3 => .agg #[.int .i64 (((((l0).getD (s2.2 : Int).toNat default)).1)), .int .i64 (((((l0).getD (s2.2 : Int).toNat default)).2.1)), str (((((l0).getD (s2.2 : Int).toNat default)).2.2))]) (hs' := fun x3 => Ro (Elt.pair E64 (Elt.pair E64 EStr)) A0 c0 l0 :: Bf (Elt.pair E64 (Elt.pair E64 EStr)) 39 x2.1 x2.2 s2.1 :: hs) (fun _ => rfl) (fun _ => rfl) (fun x3 => ?_)
   obtain ⟨r1, hg1, he1⟩ := inv_bind he1
   refine T.call .list (wants0 rfl) rfl (run_callF (vs := [_]) rfl Tryd.func38 rfl (by decide) rfl) (fun w hS => ref14_FoldOne.c hB hS (a0 := ((l0).getD (s2.2 : Int).toNat default))  hg1) (fun x4 => ?_)
   refine T.lit (E := Elt.pair E64 (Elt.pair E64 EStr)) .list (vals := [(0, .agg #[.int .i64 r1.1, .int .i64 r1.2.1, str r1.2.2])]) (cells := #[.int .i64 r1.1, .int .i64 r1.2.1, str r1.2.2]) rfl (wants0 rfl) rfl rfl rfl rfl rfl (by kernel_rfl) ([r1] : List (Int × Int × (List UInt8))) rfl (fun _ _ _ _ ho => (Has.encs ho (Has.pair (Has.sc rfl) (Has.pair (Has.sc rfl) (Has.sc rfl) rfl) rfl) rfl rfl)) (fun b1 => ?_)
   obtain ⟨hc2, he1⟩ := inv_chk he1
   refine T.appBf .list 2 0 rfl rfl rfl rfl rfl (wants0 rfl) rfl rfl rfl rfl rfl rfl hc2 (fun _ _ => rfl) (fun A2 c2 => ?_)
   refine T.assign .list rfl (wants0 rfl) rfl rfl ?_
   refine T.nil ?_
   refine T.in_normal ?_
   refine T.then_normal ?_
   refine T.region ?_
   refine T.move .list rfl (wants0 rfl) rfl rfl ?_
   refine T.bin .list rfl (wants0 rfl) rfl rfl rfl rfl ?_
   refine T.assign .list rfl (wants0 rfl) rfl rfl ?_
   refine T.nil ?_
   refine T.then_normal ?_
   obtain rfl := inv_some he1
   exact T.le (EnvLe.cons rfl (EnvLe.cons rfl (EnvLe.cons rfl EnvLe.nil))) (T.pick [1, 2] 3 rfl rfl (Nat.le_add_left _ _) rfl (hm1 _ rfl (A2, c2)))
  ·replace he1 := inv_negB hb1 he1
   refine T.exit ?_
   refine T.then_exit ?_
   refine T.then_exit ?_
   obtain rfl := inv_some he1
   obtain rfl := hx1 _ rfl
   refine T.in_hit ?_
   refine T.then_normal ?_
   exact T.le (EnvLe.cons rfl EnvLe.nil) (T.pick [1] 2 rfl rfl (Nat.le_add_left _ _) rfl (J1 s2.1 (x2.1, x2.2) hr))

noncomputable def ref14_Small.impl (a0 : Int × Int × (List UInt8)) : Option Bool :=
  (ref2_Right.impl ((a0.1, a0.2.1, a0.2.2))).bind fun r1 => (if ((decide (r1 = 0))) = true then (if ((decide (a0.1 = 2))) = true then (ref2_Runes.impl a0.2.2).bind fun r2 => some (decide (r2 ≤ 8)) else some true) else some false)
set_option maxRecDepth 100000 in
set_option maxHeartbeats 4000000 in
theorem ref14_Small.c {B : World} {hs : List MP} {w : World} {a0 : Int × Int × (List UInt8)} (hB : Base B) (hS : St B (hs) w) {r : Bool} (hr : ref14_Small.impl a0 = some r) :
    Calls Tryd.prog 44 #[.agg #[.int .i64 a0.1, .int .i64 a0.2.1, str a0.2.2]] w fun e w' => ∃ x : Unit, e = .returned (.bool r) ∧ St B (hs) w' := by
 unfold ref14_Small.impl at hr
 refine calls_T Tryd.func44 rfl rfl rfl hS ?_
 refine T.seq ?_
 refine T.region ?_
 refine T.boxS .list rfl (wants0 rfl) rfl rfl (cs := [.int .i64 a0.1, .int .i64 a0.2.1, str a0.2.2]) rfl (fun b1 => ?_)
 refine T.assign .list rfl (wants0 rfl) rfl rfl ?_
 refine T.nil ?_
 refine T.then_normal ?_
 refine T.seq ?_
 refine T.region ?_
 refine T.loadN .list 0 rfl rfl (wants0 rfl) rfl rfl (vs := [.int .i64 a0.1, .int .i64 a0.2.1, str a0.2.2]) rfl rfl ?_
 obtain ⟨r1, hg1, hr⟩ := inv_bind hr
 refine T.call .list (wants0 rfl) rfl (run_callF (vs := [_]) rfl Tryd.func36 rfl (by decide) rfl) (fun w hS => ref2_Right.c hB hS (a0 := (a0.1, a0.2.1, a0.2.2))  hg1) (fun x1 => ?_)
 refine T.bin .list rfl (wants0 rfl) rfl rfl rfl rfl ?_
 refine T.move .list rfl (wants0 rfl) rfl rfl ?_
 refine T.bool (b := (decide (r1 = 0))) (fun hb1 => ?_) (fun hb1 => ?_)
 ·replace hr := inv_posB hb1 hr
  refine T.field .list rfl (wants1 rfl rfl rfl hb1) rfl rfl ?_
  refine T.load .list 0 rfl rfl (wants1 rfl rfl rfl hb1) rfl rfl rfl ?_
  refine T.bin .list rfl (wants1 rfl rfl rfl hb1) rfl rfl rfl rfl ?_
  refine T.move .list rfl (wants1 rfl rfl rfl hb1) rfl rfl ?_
  refine T.bool (b := (decide (a0.1 = 2))) (fun hb2 => ?_) (fun hb2 => ?_)
  ·replace hr := inv_posB hb2 hr
   refine T.field .list rfl (wants1 rfl rfl rfl (not_t hb2)) rfl rfl ?_
   refine T.load .list 0 rfl rfl (wants1 rfl rfl rfl (not_t hb2)) rfl rfl rfl ?_
   obtain ⟨r2, hg2, hr⟩ := inv_bind hr
   refine T.call .list (wants1 rfl rfl rfl (not_t hb2)) rfl (run_callF (vs := [_]) rfl Tryd.func37 rfl (by decide) rfl) (fun w hS => ref2_Runes.c hB hS  hg2) (fun x2 => ?_)
   refine T.bin .list rfl (wants1 rfl rfl rfl (not_t hb2)) rfl rfl rfl rfl ?_
   refine T.pickF .list rfl (wants1 rfl rfl rfl hb1) rfl rfl (not_t hb2) rfl ?_
   refine T.pickT .list rfl (wants0 rfl) rfl rfl hb1 rfl ?_
   refine T.assign .list rfl (wants0 rfl) rfl rfl ?_
   refine T.nil ?_
   refine T.then_normal ?_
   refine T.ret ?_
   obtain rfl := inv_some hr
   refine T.pick [] 1 rfl rfl (Nat.le_add_left _ _) rfl ?_
   refine T.ret1 rfl rfl (fun w hS => ⟨(), rfl, hS⟩)
  ·replace hr := inv_negB hb2 hr
   refine T.leave .list (wantsNot rfl rfl rfl (not_f hb2)) rfl ?_
   refine T.leave .list (wantsNot rfl rfl rfl (not_f hb2)) rfl ?_
   refine T.leave .list (wantsNot rfl rfl rfl (not_f hb2)) rfl ?_
   refine T.leave .list (wantsNot rfl rfl rfl (not_f hb2)) rfl ?_
   refine T.pickT .list rfl (wants1 rfl rfl rfl hb1) rfl rfl (not_f hb2) rfl ?_
   refine T.pickT .list rfl (wants0 rfl) rfl rfl hb1 rfl ?_
   refine T.assign .list rfl (wants0 rfl) rfl rfl ?_
   refine T.nil ?_
   refine T.then_normal ?_
   refine T.ret ?_
   obtain rfl := inv_some hr
   refine T.pick [] 1 rfl rfl (Nat.le_add_left _ _) rfl ?_
   refine T.ret1 rfl rfl (fun w hS => ⟨(), rfl, hS⟩)
 ·replace hr := inv_negB hb1 hr
  refine T.leave .list (wantsNot rfl rfl rfl hb1) rfl ?_
  refine T.leave .list (wantsNot rfl rfl rfl hb1) rfl ?_
  refine T.leave .list (wantsNot rfl rfl rfl hb1) rfl ?_
  refine T.leave .list (wantsNot rfl rfl rfl hb1) rfl ?_
  refine T.leave .list (wantsUndef rfl rfl rfl) rfl ?_
  refine T.leave .list (wantsUndef rfl rfl rfl) rfl ?_
  refine T.leave .list (wantsUndef rfl rfl rfl) rfl ?_
  refine T.leave .list (wantsUndef rfl rfl rfl) rfl ?_
  refine T.leave .list (wantsNot rfl rfl rfl hb1) rfl ?_
  refine T.pickF .list rfl (wants0 rfl) rfl rfl hb1 rfl ?_
  refine T.assign .list rfl (wants0 rfl) rfl rfl ?_
  refine T.nil ?_
  refine T.then_normal ?_
  refine T.ret ?_
  obtain rfl := inv_some hr
  refine T.pick [] 1 rfl rfl (Nat.le_add_left _ _) rfl ?_
  refine T.ret1 rfl rfl (fun w hS => ⟨(), rfl, hS⟩)

noncomputable def ref14_RowRight.k1 (s1 : Unit) : Option Int :=
  some 0
noncomputable def ref14_RowRight.st1 (l0 : List (Int × Int × (List UInt8))) (s2 : Int) : Option (Int ⊕ (Int ⊕ Unit)) :=
  (if ((decide (s2 < ((l0.length : Int))))) = true then chk (0 ≤ s2 ∧ s2 < (l0.length : Int)) ((ref14_Small.impl (((l0).getD (s2 : Int).toNat default))).bind fun r1 => (if ((!r1)) = true then some (.inr (.inl 62)) else some (.inl (IntKind.i64.wrap (s2 + 1))))) else some (.inr (.inr ())))
noncomputable def ref14_RowRight.impl (l0 : List (Int × Int × (List UInt8))) : Option Int :=
  (if ((decide ((3 : Int) < ((l0.length : Int))))) = true then some 2 else (loop (ref14_RowRight.st1 l0) 0).bind (fun e1 => match e1 with | .inl v => some v | .inr v => ref14_RowRight.k1 v))
set_option maxRecDepth 100000 in
set_option maxHeartbeats 4000000 in
theorem ref14_RowRight.c {B : World} {hs : List MP} {w : World} {i0 c0 : Nat} {A0 : Option Addr} {l0 : List (Int × Int × (List UInt8))} (hB : Base B) (hS : St B (hs) w) (h0 : (hs)[i0]? = some (Ro (Elt.pair E64 (Elt.pair E64 EStr)) A0 c0 l0)) {r : Int} (hr : ref14_RowRight.impl l0 = some r) :
    Calls Tryd.prog 23 #[.slice A0 l0.length c0] w fun e w' => ∃ x : Unit, e = .returned (.int .i64 r) ∧ St B (hs) w' := by
 unfold ref14_RowRight.impl at hr
 refine calls_T Tryd.func23 rfl rfl rfl hS ?_
 refine T.front i0 h0 ?_
 refine T.seq ?_
 refine T.region ?_
 refine T.assign .list rfl (wants0 rfl) rfl rfl ?_
 refine T.nil ?_
 refine T.then_normal ?_
 refine T.seq ?_
 refine T.seq ?_
 refine T.region ?_
 refine T.move .list rfl (wants0 rfl) rfl rfl ?_
 refine T.lenSlice .list rfl (wants0 rfl) rfl rfl ?_
 refine T.bin .list rfl (wants0 rfl) rfl rfl rfl rfl ?_
 refine T.nil ?_
 refine T.then_normal ?_
 refine T.cond rfl (fun hb1 => ?_) (fun hb1 => ?_)
 ·replace hr := inv_posB hb1 hr
  refine T.seq ?_
  refine T.region ?_
  refine T.assign .list rfl (wants0 rfl) rfl rfl ?_
  refine T.nil ?_
  refine T.then_normal ?_
  refine T.ret ?_
  refine T.then_ret ?_
  obtain rfl := inv_some hr
  refine T.pick [] 1 rfl rfl (Nat.le_add_left _ _) rfl ?_
  refine T.ret1 rfl rfl (fun w hS => ⟨(), rfl, hS⟩)
 ·replace hr := inv_negB hb1 hr
  refine T.skip ?_
  refine T.then_normal ?_
  refine T.seqJ (fun (s1 : Unit) (x1 : Unit) => []) (fun s1 x1 => hs) (fun s1 => ref14_RowRight.k1 s1 = some r) (fun s1 x1 hk1 => ?_) (fun J1 => ?_)
  ·unfold ref14_RowRight.k1 at hk1
   refine T.seq ?_
   refine T.region ?_
   refine T.assign .list rfl (wants0 rfl) rfl rfl ?_
   refine T.nil ?_
   refine T.then_normal ?_
   refine T.ret ?_
   obtain rfl := inv_some hk1
   refine T.pick [] 0 rfl rfl (Nat.le_add_left _ _) rfl ?_
   refine T.ret1 rfl rfl (fun w hS => ⟨(), rfl, hS⟩)
  ·refine T.seq ?_
   refine T.region ?_
   refine T.assign .list rfl (wants0 rfl) rfl rfl ?_
   refine T.nil ?_
   refine T.then_normal ?_
   refine T.block ?_
   obtain ⟨e1, hl1, hr⟩ := inv_bind hr
   refine T.le (EnvLe.cons rfl (EnvLe.cons rfl EnvLe.nil)) (T.pick [0] 1 rfl rfl (Nat.le_add_left _ _) rfl (T.loop (s0 := 0) (env := fun s2 x2 => [(0, .slice A0 l0.length c0), (3, .int .i64 s2)]) (hs := fun (s2 : Int) (x2 : Unit) => Ro (Elt.pair E64 (Elt.pair E64 EStr)) A0 c0 l0 :: hs) hl1 () (fun K1 s2 x2 o1 he1 hm1 hx1 => ?_)))
   unfold ref14_RowRight.st1 at he1
   refine T.seq ?_
   refine T.seq ?_
   refine T.region ?_
   refine T.move .list rfl (wants0 rfl) rfl rfl ?_
   refine T.move .list rfl (wants0 rfl) rfl rfl ?_
   refine T.lenSlice .list rfl (wants0 rfl) rfl rfl ?_
   refine T.bin .list rfl (wants0 rfl) rfl rfl rfl rfl ?_
   refine T.nil ?_
   refine T.then_normal ?_
   refine T.cond rfl (fun hb2 => ?_) (fun hb2 => ?_)
   ·replace he1 := inv_posB hb2 he1
    refine T.skip ?_
    refine T.then_normal ?_
    refine T.seq ?_
    refine T.block ?_
    refine T.seq ?_
    refine T.region ?_
    refine T.move .list rfl (wants0 rfl) rfl rfl ?_
    refine T.move .list rfl (wants0 rfl) rfl rfl ?_
    obtain ⟨hc1, he1⟩ := inv_chk he1
    refine T.idxRo .list 0 rfl rfl (wants0 rfl) rfl rfl rfl hc1.1 hc1.2 (Nat.le_refl _) ?_
    refine T.ldFRo 0 .list Fd.self (Sh.pair Sh.sc (Sh.pair Sh.sc Sh.sc)) rfl (.inl rfl) rfl rfl hc1.1 hc1.2 rfl (wants0 rfl) rfl rfl rfl (v := fun x3 => .agg #[.int .i64 (((((l0).getD (s2 : Int).toNat default)).1)), .int .i64 (((((l0).getD (s2 : Int).toNat default)).2.1)), str (((((l0).getD (s2 : Int).toNat default)).2.2))]) (hs' := fun x3 => Ro (Elt.pair E64 (Elt.pair E64 EStr)) A0 c0 l0 :: hs) (fun _ => rfl) (fun _ => rfl) (fun x3 => ?_)
    obtain ⟨r1, hg1, he1⟩ := inv_bind he1
    refine T.call .list (wants0 rfl) rfl (run_callF (vs := [_]) rfl Tryd.func44 rfl (by decide) rfl) (fun w hS => ref14_Small.c hB hS (a0 := ((l0).getD (s2 : Int).toNat default))  hg1) (fun x4 => ?_)
    refine T.not .list rfl (wants0 rfl) rfl rfl ?_
    refine T.nil ?_
    refine T.then_normal ?_
    refine T.cond rfl (fun hb3 => ?_) (fun hb3 => ?_)
    ·replace he1 := inv_posB hb3 he1
     refine T.seq ?_
     refine T.region ?_
     refine T.assign .list rfl (wants0 rfl) rfl rfl ?_
     refine T.nil ?_
     refine T.then_normal ?_
     refine T.ret ?_
     refine T.in_ret ?_
     refine T.then_ret ?_
     refine T.then_ret ?_
     obtain rfl := inv_some he1
     obtain rfl := hx1 _ rfl
     refine T.in_ret ?_
     refine T.then_ret ?_
     obtain rfl := inv_some hr
     refine T.pick [] 1 rfl rfl (Nat.le_add_left _ _) rfl ?_
     refine T.ret1 rfl rfl (fun w hS => ⟨(), rfl, hS⟩)
    ·replace he1 := inv_negB hb3 he1
     refine T.skip ?_
     refine T.in_normal ?_
     refine T.then_normal ?_
     refine T.region ?_
     refine T.move .list rfl (wants0 rfl) rfl rfl ?_
     refine T.bin .list rfl (wants0 rfl) rfl rfl rfl rfl ?_
     refine T.assign .list rfl (wants0 rfl) rfl rfl ?_
     refine T.nil ?_
     refine T.then_normal ?_
     obtain rfl := inv_some he1
     exact T.le (EnvLe.cons rfl (EnvLe.cons rfl EnvLe.nil)) (T.pick [0] 1 rfl rfl (Nat.le_add_left _ _) rfl (hm1 _ rfl ()))
   ·replace he1 := inv_negB hb2 he1
    refine T.exit ?_
    refine T.then_exit ?_
    refine T.then_exit ?_
    obtain rfl := inv_some he1
    obtain rfl := hx1 _ rfl
    refine T.in_hit ?_
    refine T.then_normal ?_
    exact T.le EnvLe.nil (T.pick [] 1 rfl rfl (Nat.le_add_left _ _) rfl (J1 () () hr))

noncomputable def ref14_Same.k3 (s3 : Unit) : Option Bool :=
  some true
noncomputable def ref14_Same.st1 (a0 : (List UInt8) × (List ((List UInt8) × Int × Int)) × (List (Int × Bool))) (a1 : (List UInt8) × (List ((List UInt8) × Int × Int)) × (List (Int × Bool))) (s4 : Int) : Option (Int ⊕ (Bool ⊕ Unit)) :=
  (if ((decide (s4 < ((a0.2.2.length : Int))))) = true then chk (0 ≤ s4 ∧ s4 < (a0.2.2.length : Int)) (chk (0 ≤ s4 ∧ s4 < (a1.2.2.length : Int)) ((if ((!(decide (((a0.2.2).getD (s4 : Int).toNat default) = ((a1.2.2).getD (s4 : Int).toNat default))))) = true then some (.inr (.inl false)) else some (.inl (IntKind.i64.wrap (s4 + 1)))))) else some (.inr (.inr ())))
noncomputable def ref14_Same.k2 (a0 : (List UInt8) × (List ((List UInt8) × Int × Int)) × (List (Int × Bool))) (a1 : (List UInt8) × (List ((List UInt8) × Int × Int)) × (List (Int × Bool))) (s2 : Unit) : Option Bool :=
  (loop (ref14_Same.st1 a0 a1) 0).bind (fun e1 => match e1 with | .inl v => some v | .inr v => ref14_Same.k3 v)
noncomputable def ref14_Same.st2 (a0 : (List UInt8) × (List ((List UInt8) × Int × Int)) × (List (Int × Bool))) (a1 : (List UInt8) × (List ((List UInt8) × Int × Int)) × (List (Int × Bool))) (s5 : Int) : Option (Int ⊕ (Bool ⊕ Unit)) :=
  (if ((decide (s5 < ((a0.2.1.length : Int))))) = true then chk (0 ≤ s5 ∧ s5 < (a0.2.1.length : Int)) (chk (0 ≤ s5 ∧ s5 < (a1.2.1.length : Int)) ((if ((!(decide (((a0.2.1).getD (s5 : Int).toNat default) = ((a1.2.1).getD (s5 : Int).toNat default))))) = true then some (.inr (.inl false)) else some (.inl (IntKind.i64.wrap (s5 + 1)))))) else some (.inr (.inr ())))
noncomputable def ref14_Same.k1 (a0 : (List UInt8) × (List ((List UInt8) × Int × Int)) × (List (Int × Bool))) (a1 : (List UInt8) × (List ((List UInt8) × Int × Int)) × (List (Int × Bool))) (s1 : Bool) : Option Bool :=
  (if s1 = true then some false else (loop (ref14_Same.st2 a0 a1) 0).bind (fun e2 => match e2 with | .inl v => some v | .inr v => ref14_Same.k2 a0 a1 v))
noncomputable def ref14_Same.impl (a0 : (List UInt8) × (List ((List UInt8) × Int × Int)) × (List (Int × Bool))) (a1 : (List UInt8) × (List ((List UInt8) × Int × Int)) × (List (Int × Bool))) : Option Bool :=
  (if ((decide (a0.1 = a1.1))) = true then (if ((decide ((((a0.2.1.length : Int))) = ((a1.2.1.length : Int))))) = true then ref14_Same.k1 a0 a1 (!(decide ((((a0.2.2.length : Int))) = ((a1.2.2.length : Int))))) else ref14_Same.k1 a0 a1 true) else ref14_Same.k1 a0 a1 true)
set_option maxRecDepth 100000 in
set_option maxHeartbeats 4000000 in
theorem ref14_Same.c {B : World} {hs : List MP} {w : World} {a0 : (List UInt8) × (List ((List UInt8) × Int × Int)) × (List (Int × Bool))} {i0a c0a : Nat} {A0a : Option Addr} {i0b c0b : Nat} {A0b : Option Addr} {a1 : (List UInt8) × (List ((List UInt8) × Int × Int)) × (List (Int × Bool))} {i1a c1a : Nat} {A1a : Option Addr} {i1b c1b : Nat} {A1b : Option Addr} (hB : Base B) (hS : St B (hs) w) (h0a : (hs)[i0a]? = some (Ro (Elt.pair EStr (Elt.pair E64 E64)) A0a c0a a0.2.1)) (h0b : (hs)[i0b]? = some (Ro (Elt.pair E64 EBool) A0b c0b a0.2.2)) (h1a : (hs)[i1a]? = some (Ro (Elt.pair EStr (Elt.pair E64 E64)) A1a c1a a1.2.1)) (h1b : (hs)[i1b]? = some (Ro (Elt.pair E64 EBool) A1b c1b a1.2.2)) {r : Bool} (hr : ref14_Same.impl a0 a1 = some r) :
    Calls Tryd.prog 18 #[.agg #[str a0.1, .slice A0a a0.2.1.length c0a, .slice A0b a0.2.2.length c0b], .agg #[str a1.1, .slice A1a a1.2.1.length c1a, .slice A1b a1.2.2.length c1b]] w fun e w' => ∃ x : Unit, e = .returned (.bool r) ∧ St B (hs) w' := by
 unfold ref14_Same.impl at hr
 refine calls_T Tryd.func18 rfl rfl rfl hS ?_
 refine T.front i0a h0a ?_
 refine T.front (i0b + 1) h0b ?_
 refine T.front (i1a + 2) h1a ?_
 refine T.front (i1b + 3) h1b ?_
 refine T.seq ?_
 refine T.region ?_
 refine T.boxS .list rfl (wants0 rfl) rfl rfl (cs := [str a0.1, .slice A0a a0.2.1.length c0a, .slice A0b a0.2.2.length c0b]) rfl (fun b1 => ?_)
 refine T.boxS .list rfl (wants0 rfl) rfl rfl (cs := [str a1.1, .slice A1a a1.2.1.length c1a, .slice A1b a1.2.2.length c1b]) rfl (fun b2 => ?_)
 refine T.assign .list rfl (wants0 rfl) rfl rfl ?_
 refine T.nil ?_
 refine T.then_normal ?_
 refine T.seq ?_
 refine T.seqJ (fun (s1 : Bool) (x1 : Unit) => [(2, .pointer (some ⟨b1, 0, none⟩)), (3, .pointer (some ⟨b2, 0, none⟩)), (29, .bool s1)]) (fun s1 x1 => Cl b1 25 [str a0.1, .slice A0a a0.2.1.length c0a, .slice A0b a0.2.2.length c0b] :: Ro (Elt.pair EStr (Elt.pair E64 E64)) A0a c0a a0.2.1 :: Ro (Elt.pair E64 EBool) A0b c0b a0.2.2 :: Cl b2 25 [str a1.1, .slice A1a a1.2.1.length c1a, .slice A1b a1.2.2.length c1b] :: Ro (Elt.pair EStr (Elt.pair E64 E64)) A1a c1a a1.2.1 :: Ro (Elt.pair E64 EBool) A1b c1b a1.2.2 :: hs) (fun s1 => ref14_Same.k1 a0 a1 s1 = some r) (fun s1 x1 hk1 => ?_) (fun J1 => ?_)
 ·unfold ref14_Same.k1 at hk1
  refine T.cond rfl (fun hb1 => ?_) (fun hb1 => ?_)
  ·replace hk1 := inv_posB hb1 hk1
   refine T.seq ?_
   refine T.region ?_
   refine T.assign .list rfl (wants0 rfl) rfl rfl ?_
   refine T.nil ?_
   refine T.then_normal ?_
   refine T.ret ?_
   refine T.then_ret ?_
   obtain rfl := inv_some hk1
   refine T.pick [] 6 rfl rfl (Nat.le_add_left _ _) rfl ?_
   refine T.ret1 rfl rfl (fun w hS => ⟨(), rfl, hS⟩)
  ·replace hk1 := inv_negB hb1 hk1
   refine T.skip ?_
   refine T.then_normal ?_
   refine T.seqJ (fun (s2 : Unit) (x2 : Unit) => [(2, .pointer (some ⟨b1, 0, none⟩)), (3, .pointer (some ⟨b2, 0, none⟩))]) (fun s2 x2 => Cl b1 25 [str a0.1, .slice A0a a0.2.1.length c0a, .slice A0b a0.2.2.length c0b] :: Ro (Elt.pair EStr (Elt.pair E64 E64)) A0a c0a a0.2.1 :: Ro (Elt.pair E64 EBool) A0b c0b a0.2.2 :: Cl b2 25 [str a1.1, .slice A1a a1.2.1.length c1a, .slice A1b a1.2.2.length c1b] :: Ro (Elt.pair EStr (Elt.pair E64 E64)) A1a c1a a1.2.1 :: Ro (Elt.pair E64 EBool) A1b c1b a1.2.2 :: hs) (fun s2 => ref14_Same.k2 a0 a1 s2 = some r) (fun s2 x2 hk2 => ?_) (fun J2 => ?_)
   ·unfold ref14_Same.k2 at hk2
    refine T.seqJ (fun (s3 : Unit) (x3 : Unit) => []) (fun s3 x3 => hs) (fun s3 => ref14_Same.k3 s3 = some r) (fun s3 x3 hk3 => ?_) (fun J3 => ?_)
    ·unfold ref14_Same.k3 at hk3
     refine T.seq ?_
     refine T.region ?_
     refine T.assign .list rfl (wants0 rfl) rfl rfl ?_
     refine T.nil ?_
     refine T.then_normal ?_
     refine T.ret ?_
     obtain rfl := inv_some hk3
     refine T.pick [] 0 rfl rfl (Nat.le_add_left _ _) rfl ?_
     refine T.ret1 rfl rfl (fun w hS => ⟨(), rfl, hS⟩)
    ·refine T.seq ?_
     refine T.region ?_
     refine T.assign .list rfl (wants0 rfl) rfl rfl ?_
     refine T.nil ?_
     refine T.then_normal ?_
     refine T.block ?_
     obtain ⟨e1, hl1, hk2⟩ := inv_bind hk2
     refine T.le (EnvLe.cons rfl (EnvLe.cons rfl (EnvLe.cons rfl EnvLe.nil))) (T.pick [0, 1, 2, 3, 4, 5] 6 rfl rfl (Nat.le_add_left _ _) rfl (T.loop (s0 := 0) (env := fun s4 x4 => [(2, .pointer (some ⟨b1, 0, none⟩)), (3, .pointer (some ⟨b2, 0, none⟩)), (6, .int .i64 s4)]) (hs := fun (s4 : Int) (x4 : Unit) => Cl b1 25 [str a0.1, .slice A0a a0.2.1.length c0a, .slice A0b a0.2.2.length c0b] :: Ro (Elt.pair EStr (Elt.pair E64 E64)) A0a c0a a0.2.1 :: Ro (Elt.pair E64 EBool) A0b c0b a0.2.2 :: Cl b2 25 [str a1.1, .slice A1a a1.2.1.length c1a, .slice A1b a1.2.2.length c1b] :: Ro (Elt.pair EStr (Elt.pair E64 E64)) A1a c1a a1.2.1 :: Ro (Elt.pair E64 EBool) A1b c1b a1.2.2 :: hs) hl1 () (fun K1 s4 x4 o1 he1 hm1 hx1 => ?_)))
     unfold ref14_Same.st1 at he1
     refine T.seq ?_
     refine T.seq ?_
     refine T.region ?_
     refine T.move .list rfl (wants0 rfl) rfl rfl ?_
     refine T.field .list rfl (wants0 rfl) rfl rfl ?_
     refine T.load .list 0 rfl rfl (wants0 rfl) rfl rfl rfl ?_
     refine T.lenSlice .list rfl (wants0 rfl) rfl rfl ?_
     refine T.bin .list rfl (wants0 rfl) rfl rfl rfl rfl ?_
     refine T.nil ?_
     refine T.then_normal ?_
     refine T.cond rfl (fun hb2 => ?_) (fun hb2 => ?_)
     ·replace he1 := inv_posB hb2 he1
      refine T.skip ?_
      refine T.then_normal ?_
      refine T.seq ?_
      refine T.block ?_
      refine T.seq ?_
      refine T.plan [(0, 0), (2, 0), (5, 0), (7, 0), (1, 1), (3, 0), (4, 1), (6, 1), (8, 0), (9, 1), (10, 0)] mixed (by kernel_rfl) (by kernel_rfl) rfl (fun d _ _ _ _ h => by cases d <;> exact h) ?_
      refine T.field (.plan rfl) rfl (wants0 rfl) rfl rfl ?_
      refine T.move (.plan rfl) rfl (wants0 rfl) rfl rfl ?_
      refine T.field (.plan rfl) rfl (wants0 rfl) rfl rfl ?_
      refine T.move (.plan rfl) rfl (wants0 rfl) rfl rfl ?_
      refine T.load (.plan rfl) 0 rfl rfl (wants0 rfl) rfl rfl rfl ?_
      obtain ⟨hc1, he1⟩ := inv_chk he1
      refine T.idxRo (.plan rfl) 2 rfl rfl (wants0 rfl) rfl rfl rfl hc1.1 hc1.2 (Nat.le_refl _) ?_
      refine T.ldFRo 2 (.plan rfl) Fd.self (Sh.pair Sh.sc Sh.sc) rfl (.inl rfl) rfl rfl hc1.1 hc1.2 rfl (wants0 rfl) rfl rfl rfl (v := fun x5 => .agg #[.int .i64 (((((a0.2.2).getD (s4 : Int).toNat default)).1)), .bool (((((a0.2.2).getD (s4 : Int).toNat default)).2))]) (hs' := fun x5 => Cl b1 25 [str a0.1, .slice A0a a0.2.1.length c0a, .slice A0b a0.2.2.length c0b] :: Ro (Elt.pair EStr (Elt.pair E64 E64)) A0a c0a a0.2.1 :: Ro (Elt.pair E64 EBool) A0b c0b a0.2.2 :: Cl b2 25 [str a1.1, .slice A1a a1.2.1.length c1a, .slice A1b a1.2.2.length c1b] :: Ro (Elt.pair EStr (Elt.pair E64 E64)) A1a c1a a1.2.1 :: Ro (Elt.pair E64 EBool) A1b c1b a1.2.2 :: hs) (fun _ => rfl) (fun _ => rfl) (fun x5 => ?_)
      refine T.load (.plan rfl) 3 rfl rfl (wants0 rfl) rfl rfl rfl ?_
      obtain ⟨hc2, he1⟩ := inv_chk he1
      refine T.idxRo (.plan rfl) 5 rfl rfl (wants0 rfl) rfl rfl rfl hc2.1 hc2.2 (Nat.le_refl _) ?_
      refine T.ldFRo 5 (.plan rfl) Fd.self (Sh.pair Sh.sc Sh.sc) rfl (.inl rfl) rfl rfl hc2.1 hc2.2 rfl (wants0 rfl) rfl rfl rfl (v := fun x6 => .agg #[.int .i64 (((((a1.2.2).getD (s4 : Int).toNat default)).1)), .bool (((((a1.2.2).getD (s4 : Int).toNat default)).2))]) (hs' := fun x6 => Cl b1 25 [str a0.1, .slice A0a a0.2.1.length c0a, .slice A0b a0.2.2.length c0b] :: Ro (Elt.pair EStr (Elt.pair E64 E64)) A0a c0a a0.2.1 :: Ro (Elt.pair E64 EBool) A0b c0b a0.2.2 :: Cl b2 25 [str a1.1, .slice A1a a1.2.1.length c1a, .slice A1b a1.2.2.length c1b] :: Ro (Elt.pair EStr (Elt.pair E64 E64)) A1a c1a a1.2.1 :: Ro (Elt.pair E64 EBool) A1b c1b a1.2.2 :: hs) (fun _ => rfl) (fun _ => rfl) (fun x6 => ?_)
      refine T.neS (.plan rfl) rfl (wants0 rfl) rfl rfl rfl (by kernel_rfl) (by kernel_rfl) (by kernel_rfl) (l := [(3, 0), (4, 1)]) (by kernel_rfl) (.int rfl rfl (.bool (by kernel_rfl) rfl rfl .nil)) (b' := (decide (((a0.2.2).getD (s4 : Int).toNat default) = ((a1.2.2).getD (s4 : Int).toNat default)))) (by rw [Bool.eq_iff_iff]; simp [Prod.ext_iff]) ?_
      refine T.planEnd ?_
      refine T.then_normal ?_
      refine T.cond rfl (fun hb3 => ?_) (fun hb3 => ?_)
      ·replace he1 := inv_posB hb3 he1
       refine T.seq ?_
       refine T.region ?_
       refine T.assign .list rfl (wants0 rfl) rfl rfl ?_
       refine T.nil ?_
       refine T.then_normal ?_
       refine T.ret ?_
       refine T.in_ret ?_
       refine T.then_ret ?_
       refine T.then_ret ?_
       obtain rfl := inv_some he1
       obtain rfl := hx1 _ rfl
       refine T.in_ret ?_
       refine T.then_ret ?_
       obtain rfl := inv_some hk2
       refine T.pick [] 6 rfl rfl (Nat.le_add_left _ _) rfl ?_
       refine T.ret1 rfl rfl (fun w hS => ⟨(), rfl, hS⟩)
      ·replace he1 := inv_negB hb3 he1
       refine T.skip ?_
       refine T.in_normal ?_
       refine T.then_normal ?_
       refine T.region ?_
       refine T.move .list rfl (wants0 rfl) rfl rfl ?_
       refine T.bin .list rfl (wants0 rfl) rfl rfl rfl rfl ?_
       refine T.assign .list rfl (wants0 rfl) rfl rfl ?_
       refine T.nil ?_
       refine T.then_normal ?_
       obtain rfl := inv_some he1
       exact T.le (EnvLe.cons rfl (EnvLe.cons rfl (EnvLe.cons rfl EnvLe.nil))) (T.pick [0, 1, 2, 3, 4, 5] 6 rfl rfl (Nat.le_add_left _ _) rfl (hm1 _ rfl ()))
     ·replace he1 := inv_negB hb2 he1
      refine T.exit ?_
      refine T.then_exit ?_
      refine T.then_exit ?_
      obtain rfl := inv_some he1
      obtain rfl := hx1 _ rfl
      refine T.in_hit ?_
      refine T.then_normal ?_
      exact T.le EnvLe.nil (T.pick [] 6 rfl rfl (Nat.le_add_left _ _) rfl (J3 () () hk2))
   ·refine T.seq ?_
    refine T.region ?_
    refine T.assign .list rfl (wants0 rfl) rfl rfl ?_
    refine T.nil ?_
    refine T.then_normal ?_
    refine T.block ?_
    obtain ⟨e2, hl2, hk1⟩ := inv_bind hk1
    refine T.le (EnvLe.cons rfl (EnvLe.cons rfl (EnvLe.cons rfl EnvLe.nil))) (T.pick [0, 1, 2, 3, 4, 5] 6 rfl rfl (Nat.le_add_left _ _) rfl (T.loop (s0 := 0) (env := fun s5 x7 => [(2, .pointer (some ⟨b1, 0, none⟩)), (3, .pointer (some ⟨b2, 0, none⟩)), (5, .int .i64 s5)]) (hs := fun (s5 : Int) (x7 : Unit) => Cl b1 25 [str a0.1, .slice A0a a0.2.1.length c0a, .slice A0b a0.2.2.length c0b] :: Ro (Elt.pair EStr (Elt.pair E64 E64)) A0a c0a a0.2.1 :: Ro (Elt.pair E64 EBool) A0b c0b a0.2.2 :: Cl b2 25 [str a1.1, .slice A1a a1.2.1.length c1a, .slice A1b a1.2.2.length c1b] :: Ro (Elt.pair EStr (Elt.pair E64 E64)) A1a c1a a1.2.1 :: Ro (Elt.pair E64 EBool) A1b c1b a1.2.2 :: hs) hl2 () (fun K2 s5 x7 o2 he2 hm2 hx2 => ?_)))
    unfold ref14_Same.st2 at he2
    refine T.seq ?_
    refine T.seq ?_
    refine T.region ?_
    refine T.move .list rfl (wants0 rfl) rfl rfl ?_
    refine T.field .list rfl (wants0 rfl) rfl rfl ?_
    refine T.load .list 0 rfl rfl (wants0 rfl) rfl rfl rfl ?_
    refine T.lenSlice .list rfl (wants0 rfl) rfl rfl ?_
    refine T.bin .list rfl (wants0 rfl) rfl rfl rfl rfl ?_
    refine T.nil ?_
    refine T.then_normal ?_
    refine T.cond rfl (fun hb4 => ?_) (fun hb4 => ?_)
    ·replace he2 := inv_posB hb4 he2
     refine T.skip ?_
     refine T.then_normal ?_
     refine T.seq ?_
     refine T.block ?_
     refine T.seq ?_
     refine T.plan [(0, 0), (2, 0), (5, 0), (7, 0), (1, 1), (3, 0), (4, 1), (6, 1), (8, 0), (9, 1), (10, 0)] mixed (by kernel_rfl) (by kernel_rfl) rfl (fun d _ _ _ _ h => by cases d <;> exact h) ?_
     refine T.field (.plan rfl) rfl (wants0 rfl) rfl rfl ?_
     refine T.move (.plan rfl) rfl (wants0 rfl) rfl rfl ?_
     refine T.field (.plan rfl) rfl (wants0 rfl) rfl rfl ?_
     refine T.move (.plan rfl) rfl (wants0 rfl) rfl rfl ?_
     refine T.load (.plan rfl) 0 rfl rfl (wants0 rfl) rfl rfl rfl ?_
     obtain ⟨hc3, he2⟩ := inv_chk he2
     refine T.idxRo (.plan rfl) 1 rfl rfl (wants0 rfl) rfl rfl rfl hc3.1 hc3.2 (Nat.le_refl _) ?_
     refine T.ldFRo 1 (.plan rfl) Fd.self (Sh.pair Sh.sc (Sh.pair Sh.sc Sh.sc)) rfl (.inl rfl) rfl rfl hc3.1 hc3.2 rfl (wants0 rfl) rfl rfl rfl (v := fun x8 => .agg #[str (((((a0.2.1).getD (s5 : Int).toNat default)).1)), .int .i64 (((((a0.2.1).getD (s5 : Int).toNat default)).2.1)), .int .i64 (((((a0.2.1).getD (s5 : Int).toNat default)).2.2))]) (hs' := fun x8 => Cl b1 25 [str a0.1, .slice A0a a0.2.1.length c0a, .slice A0b a0.2.2.length c0b] :: Ro (Elt.pair EStr (Elt.pair E64 E64)) A0a c0a a0.2.1 :: Ro (Elt.pair E64 EBool) A0b c0b a0.2.2 :: Cl b2 25 [str a1.1, .slice A1a a1.2.1.length c1a, .slice A1b a1.2.2.length c1b] :: Ro (Elt.pair EStr (Elt.pair E64 E64)) A1a c1a a1.2.1 :: Ro (Elt.pair E64 EBool) A1b c1b a1.2.2 :: hs) (fun _ => rfl) (fun _ => rfl) (fun x8 => ?_)
     refine T.load (.plan rfl) 3 rfl rfl (wants0 rfl) rfl rfl rfl ?_
     obtain ⟨hc4, he2⟩ := inv_chk he2
     refine T.idxRo (.plan rfl) 4 rfl rfl (wants0 rfl) rfl rfl rfl hc4.1 hc4.2 (Nat.le_refl _) ?_
     refine T.ldFRo 4 (.plan rfl) Fd.self (Sh.pair Sh.sc (Sh.pair Sh.sc Sh.sc)) rfl (.inl rfl) rfl rfl hc4.1 hc4.2 rfl (wants0 rfl) rfl rfl rfl (v := fun x9 => .agg #[str (((((a1.2.1).getD (s5 : Int).toNat default)).1)), .int .i64 (((((a1.2.1).getD (s5 : Int).toNat default)).2.1)), .int .i64 (((((a1.2.1).getD (s5 : Int).toNat default)).2.2))]) (hs' := fun x9 => Cl b1 25 [str a0.1, .slice A0a a0.2.1.length c0a, .slice A0b a0.2.2.length c0b] :: Ro (Elt.pair EStr (Elt.pair E64 E64)) A0a c0a a0.2.1 :: Ro (Elt.pair E64 EBool) A0b c0b a0.2.2 :: Cl b2 25 [str a1.1, .slice A1a a1.2.1.length c1a, .slice A1b a1.2.2.length c1b] :: Ro (Elt.pair EStr (Elt.pair E64 E64)) A1a c1a a1.2.1 :: Ro (Elt.pair E64 EBool) A1b c1b a1.2.2 :: hs) (fun _ => rfl) (fun _ => rfl) (fun x9 => ?_)
     refine T.neS (.plan rfl) rfl (wants0 rfl) rfl rfl rfl (by kernel_rfl) (by kernel_rfl) (by kernel_rfl) (l := [(9, 0), (3, 1), (3, 2)]) (by kernel_rfl) (.str rfl rfl (.int rfl rfl (.int rfl rfl .nil))) (b' := (decide (((a0.2.1).getD (s5 : Int).toNat default) = ((a1.2.1).getD (s5 : Int).toNat default)))) (by rw [Bool.eq_iff_iff]; simp [Prod.ext_iff]) ?_
     refine T.planEnd ?_
     refine T.then_normal ?_
     refine T.cond rfl (fun hb5 => ?_) (fun hb5 => ?_)
     ·replace he2 := inv_posB hb5 he2
      refine T.seq ?_
      refine T.region ?_
      refine T.assign .list rfl (wants0 rfl) rfl rfl ?_
      refine T.nil ?_
      refine T.then_normal ?_
      refine T.ret ?_
      refine T.in_ret ?_
      refine T.then_ret ?_
      refine T.then_ret ?_
      obtain rfl := inv_some he2
      obtain rfl := hx2 _ rfl
      refine T.in_ret ?_
      refine T.then_ret ?_
      obtain rfl := inv_some hk1
      refine T.pick [] 6 rfl rfl (Nat.le_add_left _ _) rfl ?_
      refine T.ret1 rfl rfl (fun w hS => ⟨(), rfl, hS⟩)
     ·replace he2 := inv_negB hb5 he2
      refine T.skip ?_
      refine T.in_normal ?_
      refine T.then_normal ?_
      refine T.region ?_
      refine T.move .list rfl (wants0 rfl) rfl rfl ?_
      refine T.bin .list rfl (wants0 rfl) rfl rfl rfl rfl ?_
      refine T.assign .list rfl (wants0 rfl) rfl rfl ?_
      refine T.nil ?_
      refine T.then_normal ?_
      obtain rfl := inv_some he2
      exact T.le (EnvLe.cons rfl (EnvLe.cons rfl (EnvLe.cons rfl EnvLe.nil))) (T.pick [0, 1, 2, 3, 4, 5] 6 rfl rfl (Nat.le_add_left _ _) rfl (hm2 _ rfl ()))
    ·replace he2 := inv_negB hb4 he2
     refine T.exit ?_
     refine T.then_exit ?_
     refine T.then_exit ?_
     obtain rfl := inv_some he2
     obtain rfl := hx2 _ rfl
     refine T.in_hit ?_
     refine T.then_normal ?_
     exact T.le (EnvLe.cons rfl (EnvLe.cons rfl EnvLe.nil)) (T.pick [0, 1, 2, 3, 4, 5] 6 rfl rfl (Nat.le_add_left _ _) rfl (J2 () () hk1))
 ·refine T.region ?_
  refine T.field .list rfl (wants0 rfl) rfl rfl ?_
  refine T.load .list 1 rfl rfl (wants0 rfl) rfl rfl rfl ?_
  refine T.field .list rfl (wants0 rfl) rfl rfl ?_
  refine T.load .list 0 rfl rfl (wants0 rfl) rfl rfl rfl ?_
  refine T.strNe .list rfl (wants0 rfl) rfl (l := a0.1) (l' := a1.1) rfl rfl ?_
  refine T.move .list rfl (wants0 rfl) rfl rfl ?_
  refine T.bool (b := (decide (a0.1 = a1.1))) (fun hb6 => ?_) (fun hb6 => ?_)
  ·replace hr := inv_posB hb6 hr
   refine T.field .list rfl (wants1 rfl rfl rfl (not_t hb6)) rfl rfl ?_
   refine T.load .list 1 rfl rfl (wants1 rfl rfl rfl (not_t hb6)) rfl rfl rfl ?_
   refine T.lenSlice .list rfl (wants1 rfl rfl rfl (not_t hb6)) rfl rfl ?_
   refine T.field .list rfl (wants1 rfl rfl rfl (not_t hb6)) rfl rfl ?_
   refine T.load .list 0 rfl rfl (wants1 rfl rfl rfl (not_t hb6)) rfl rfl rfl ?_
   refine T.lenSlice .list rfl (wants1 rfl rfl rfl (not_t hb6)) rfl rfl ?_
   refine T.bin .list rfl (wants1 rfl rfl rfl (not_t hb6)) rfl rfl rfl rfl ?_
   refine T.pickF .list rfl (wants0 rfl) rfl rfl (not_t hb6) rfl ?_
   refine T.move .list rfl (wants0 rfl) rfl rfl ?_
   refine T.bool (b := (decide ((((a0.2.1.length : Int))) = ((a1.2.1.length : Int))))) (fun hb7 => ?_) (fun hb7 => ?_)
   ·replace hr := inv_posB hb7 hr
    refine T.field .list rfl (wants1 rfl rfl rfl (not_t hb7)) rfl rfl ?_
    refine T.load .list 1 rfl rfl (wants1 rfl rfl rfl (not_t hb7)) rfl rfl rfl ?_
    refine T.lenSlice .list rfl (wants1 rfl rfl rfl (not_t hb7)) rfl rfl ?_
    refine T.field .list rfl (wants1 rfl rfl rfl (not_t hb7)) rfl rfl ?_
    refine T.load .list 0 rfl rfl (wants1 rfl rfl rfl (not_t hb7)) rfl rfl rfl ?_
    refine T.lenSlice .list rfl (wants1 rfl rfl rfl (not_t hb7)) rfl rfl ?_
    refine T.bin .list rfl (wants1 rfl rfl rfl (not_t hb7)) rfl rfl rfl rfl ?_
    refine T.pickF .list rfl (wants0 rfl) rfl rfl (not_t hb7) rfl ?_
    refine T.nil ?_
    refine T.then_normal ?_
    exact T.le (EnvLe.cons rfl (EnvLe.cons rfl (EnvLe.cons rfl EnvLe.nil))) (T.pick [1, 5, 4, 0, 3, 2] 6 rfl rfl (Nat.le_add_left _ _) rfl (J1 (!(decide ((((a0.2.2.length : Int))) = ((a1.2.2.length : Int))))) () hr))
   ·replace hr := inv_negB hb7 hr
    refine T.leave .list (wantsNot rfl rfl rfl (not_f hb7)) rfl ?_
    refine T.leave .list (wantsNot rfl rfl rfl (not_f hb7)) rfl ?_
    refine T.leave .list (wantsNot rfl rfl rfl (not_f hb7)) rfl ?_
    refine T.leave .list (wantsNot rfl rfl rfl (not_f hb7)) rfl ?_
    refine T.leave .list (wantsNot rfl rfl rfl (not_f hb7)) rfl ?_
    refine T.leave .list (wantsNot rfl rfl rfl (not_f hb7)) rfl ?_
    refine T.leave .list (wantsNot rfl rfl rfl (not_f hb7)) rfl ?_
    refine T.pickT .list rfl (wants0 rfl) rfl rfl (not_f hb7) rfl ?_
    refine T.nil ?_
    refine T.then_normal ?_
    exact T.le (EnvLe.cons rfl (EnvLe.cons rfl (EnvLe.cons rfl EnvLe.nil))) (T.pick [1, 5, 4, 0, 3, 2] 6 rfl rfl (Nat.le_add_left _ _) rfl (J1 true () hr))
  ·replace hr := inv_negB hb6 hr
   refine T.leave .list (wantsNot rfl rfl rfl (not_f hb6)) rfl ?_
   refine T.leave .list (wantsNot rfl rfl rfl (not_f hb6)) rfl ?_
   refine T.leave .list (wantsNot rfl rfl rfl (not_f hb6)) rfl ?_
   refine T.leave .list (wantsNot rfl rfl rfl (not_f hb6)) rfl ?_
   refine T.leave .list (wantsNot rfl rfl rfl (not_f hb6)) rfl ?_
   refine T.leave .list (wantsNot rfl rfl rfl (not_f hb6)) rfl ?_
   refine T.leave .list (wantsNot rfl rfl rfl (not_f hb6)) rfl ?_
   refine T.pickT .list rfl (wants0 rfl) rfl rfl (not_f hb6) rfl ?_
   refine T.move .list rfl (wants0 rfl) rfl rfl ?_
   refine T.leave .list (wantsNot rfl rfl rfl rfl) rfl ?_
   refine T.leave .list (wantsNot rfl rfl rfl rfl) rfl ?_
   refine T.leave .list (wantsNot rfl rfl rfl rfl) rfl ?_
   refine T.leave .list (wantsNot rfl rfl rfl rfl) rfl ?_
   refine T.leave .list (wantsNot rfl rfl rfl rfl) rfl ?_
   refine T.leave .list (wantsNot rfl rfl rfl rfl) rfl ?_
   refine T.leave .list (wantsNot rfl rfl rfl rfl) rfl ?_
   refine T.pickT .list rfl (wants0 rfl) rfl rfl rfl rfl ?_
   refine T.nil ?_
   refine T.then_normal ?_
   exact T.le (EnvLe.cons rfl (EnvLe.cons rfl (EnvLe.cons rfl EnvLe.nil))) (T.pick [1, 5, 4, 0, 3, 2] 6 rfl rfl (Nat.le_add_left _ _) rfl (J1 true () hr))
end Go.Proofs.YtdfbknkgmhddcaaDoor
