/- LawR: what the functions compute, and that the program computes it; printed by a program of ours. -/
import Derived.Test.YtpogdeibkghhaaaDoorEntryE
import Derived.Test.YtpogdeibkghhaaaDoorCks
import Derived.Test.YtpogdeibkghhaaaDoorOpenEl
set_option linter.unusedVariables false
set_option linter.unusedSimpArgs false
namespace Go.Proofs.YtpogdeibkghhaaaDoor
open Go.RowKit
noncomputable def ref17_Same.k2 (s2 : Unit) : Option Bool :=
  some true
noncomputable def ref17_Same.k4 (s5 : Unit) : Option (Unit ⊕ (Bool ⊕ Unit)) :=
  some (.inr (.inl false))
noncomputable def ref17_Same.k3 (a0 : Int × Int × (List (Int × Int × (List (Int × (List UInt8) × ((List UInt8) × (List ((List UInt8) × Int × Int)) × (List (Int × Bool))) × (List (Int × Int × (List UInt8))) × (Int × Int × (List UInt8)) × Int × (Int × Int × (List UInt8)) × (Int × Int × (List UInt8)) × Int)))) × Int) (a1 : Int × Int × (List (Int × Int × (List (Int × (List UInt8) × ((List UInt8) × (List ((List UInt8) × Int × Int)) × (List (Int × Bool))) × (List (Int × Int × (List UInt8))) × (Int × Int × (List UInt8)) × Int × (Int × Int × (List UInt8)) × (Int × Int × (List UInt8)) × Int)))) × Int) (s4 : (List (Int × (List UInt8) × ((List UInt8) × (List ((List UInt8) × Int × Int)) × (List (Int × Bool))) × (List (Int × Int × (List UInt8))) × (Int × Int × (List UInt8)) × Int × (Int × Int × (List UInt8)) × (Int × Int × (List UInt8)) × Int)) × (List (Int × (List UInt8) × ((List UInt8) × (List ((List UInt8) × Int × Int)) × (List (Int × Bool))) × (List (Int × Int × (List UInt8))) × (Int × Int × (List UInt8)) × Int × (Int × Int × (List UInt8)) × (Int × Int × (List UInt8)) × Int))) : Option (Unit ⊕ (Bool ⊕ Unit)) :=
  (if ((decide (((((((a0.2.2.1).getD (0 : Int).toNat default)).1))) = (((((a1.2.2.1).getD (0 : Int).toNat default)).1))))) = true then (if ((decide (((((((a0.2.2.1).getD (0 : Int).toNat default)).2.1))) = (((((a1.2.2.1).getD (0 : Int).toNat default)).2.1))))) = true then none else ref17_Same.k4 ()) else ref17_Same.k4 ())
noncomputable def ref17_Same.st1 (a0 : Int × Int × (List (Int × Int × (List (Int × (List UInt8) × ((List UInt8) × (List ((List UInt8) × Int × Int)) × (List (Int × Bool))) × (List (Int × Int × (List UInt8))) × (Int × Int × (List UInt8)) × Int × (Int × Int × (List UInt8)) × (Int × Int × (List UInt8)) × Int)))) × Int) (a1 : Int × Int × (List (Int × Int × (List (Int × (List UInt8) × ((List UInt8) × (List ((List UInt8) × Int × Int)) × (List (Int × Bool))) × (List (Int × Int × (List UInt8))) × (Int × Int × (List UInt8)) × Int × (Int × Int × (List UInt8)) × (Int × Int × (List UInt8)) × Int)))) × Int) (s3 : Unit) : Option (Unit ⊕ (Bool ⊕ Unit)) :=
  (if ((decide ((0 : Int) < ((a0.2.2.1.length : Int))))) = true then chk (0 ≤ (0 : Int) ∧ (0 : Int) < (a0.2.2.1.length : Int)) (chk (0 ≤ (0 : Int) ∧ (0 : Int) < (a1.2.2.1.length : Int)) (ref17_Same.k3 a0 a1 (((((a0.2.2.1).getD (0 : Int).toNat default)).2.2), ((((a1.2.2.1).getD (0 : Int).toNat default)).2.2)))) else some (.inr (.inr ())))
noncomputable def ref17_Same.k1 (a0 : Int × Int × (List (Int × Int × (List (Int × (List UInt8) × ((List UInt8) × (List ((List UInt8) × Int × Int)) × (List (Int × Bool))) × (List (Int × Int × (List UInt8))) × (Int × Int × (List UInt8)) × Int × (Int × Int × (List UInt8)) × (Int × Int × (List UInt8)) × Int)))) × Int) (a1 : Int × Int × (List (Int × Int × (List (Int × (List UInt8) × ((List UInt8) × (List ((List UInt8) × Int × Int)) × (List (Int × Bool))) × (List (Int × Int × (List UInt8))) × (Int × Int × (List UInt8)) × Int × (Int × Int × (List UInt8)) × (Int × Int × (List UInt8)) × Int)))) × Int) (s1 : Bool) : Option Bool :=
  (if s1 = true then some false else (loop (ref17_Same.st1 a0 a1) ()).bind (fun e1 => match e1 with | .inl v => some v | .inr v => ref17_Same.k2 v))
noncomputable def ref17_Same.impl (a0 : Int × Int × (List (Int × Int × (List (Int × (List UInt8) × ((List UInt8) × (List ((List UInt8) × Int × Int)) × (List (Int × Bool))) × (List (Int × Int × (List UInt8))) × (Int × Int × (List UInt8)) × Int × (Int × Int × (List UInt8)) × (Int × Int × (List UInt8)) × Int)))) × Int) (a1 : Int × Int × (List (Int × Int × (List (Int × (List UInt8) × ((List UInt8) × (List ((List UInt8) × Int × Int)) × (List (Int × Bool))) × (List (Int × Int × (List UInt8))) × (Int × Int × (List UInt8)) × Int × (Int × Int × (List UInt8)) × (Int × Int × (List UInt8)) × Int)))) × Int) : Option Bool :=
  (if ((decide (a0.1 = a1.1))) = true then (if ((decide (a0.2.1 = a1.2.1))) = true then (if ((decide (a0.2.2.2 = a1.2.2.2))) = true then ref17_Same.k1 a0 a1 (!(decide ((((a0.2.2.1.length : Int))) = ((a1.2.2.1.length : Int))))) else ref17_Same.k1 a0 a1 true) else ref17_Same.k1 a0 a1 true) else ref17_Same.k1 a0 a1 true)
set_option maxRecDepth 100000 in
set_option maxHeartbeats 4000000 in
theorem ref17_Same.c {B : World} {hs : List MP} {w : World} {a0 : Int × Int × (List (Int × Int × (List (Int × (List UInt8) × ((List UInt8) × (List ((List UInt8) × Int × Int)) × (List (Int × Bool))) × (List (Int × Int × (List UInt8))) × (Int × Int × (List UInt8)) × Int × (Int × Int × (List UInt8)) × (Int × Int × (List UInt8)) × Int)))) × Int} {i0a c0a : Nat} {A0a : Option Addr} {a1 : Int × Int × (List (Int × Int × (List (Int × (List UInt8) × ((List UInt8) × (List ((List UInt8) × Int × Int)) × (List (Int × Bool))) × (List (Int × Int × (List UInt8))) × (Int × Int × (List UInt8)) × Int × (Int × Int × (List UInt8)) × (Int × Int × (List UInt8)) × Int)))) × Int} {i1a c1a : Nat} {A1a : Option Addr} (hB : Base B) (hS : St B hs w) (h0a : (hs)[i0a]? = some (Ro (Elt.pair E64 (Elt.pair E64 (Elt.slice (Elt.pair E64 (Elt.pair EStr (Elt.pair (Elt.pair EStr (Elt.pair (Elt.slice (Elt.pair EStr (Elt.pair E64 E64))) (Elt.slice (Elt.pair E64 EBool)))) (Elt.pair (Elt.slice (Elt.pair E64 (Elt.pair E64 EStr))) (Elt.pair (Elt.pair E64 (Elt.pair E64 EStr)) (Elt.pair E64 (Elt.pair (Elt.pair E64 (Elt.pair E64 EStr)) (Elt.pair (Elt.pair E64 (Elt.pair E64 EStr)) E64))))))))))) A0a c0a a0.2.2.1)) (h1a : (hs)[i1a]? = some (Ro (Elt.pair E64 (Elt.pair E64 (Elt.slice (Elt.pair E64 (Elt.pair EStr (Elt.pair (Elt.pair EStr (Elt.pair (Elt.slice (Elt.pair EStr (Elt.pair E64 E64))) (Elt.slice (Elt.pair E64 EBool)))) (Elt.pair (Elt.slice (Elt.pair E64 (Elt.pair E64 EStr))) (Elt.pair (Elt.pair E64 (Elt.pair E64 EStr)) (Elt.pair E64 (Elt.pair (Elt.pair E64 (Elt.pair E64 EStr)) (Elt.pair (Elt.pair E64 (Elt.pair E64 EStr)) E64))))))))))) A1a c1a a1.2.2.1)) {r : Bool} (hr : ref17_Same.impl a0 a1 = some r) :
    Calls Tryd.prog 17 #[.agg #[.int .i64 a0.1, .int .i64 a0.2.1, .slice A0a a0.2.2.1.length c0a, .int .i64 a0.2.2.2], .agg #[.int .i64 a1.1, .int .i64 a1.2.1, .slice A1a a1.2.2.1.length c1a, .int .i64 a1.2.2.2]] w fun e w' => ∃ x : Unit, e = .returned (.bool r) ∧ St B hs w' := by
 unfold ref17_Same.impl at hr
 refine calls_T Tryd.func17 rfl rfl rfl hS ?_
 refine T.front i0a h0a ?_
 refine T.front (i1a + 1) h1a ?_
 refine T.seq ?_
 refine T.region ?_
 refine T.boxS .list rfl (wants0 rfl) rfl rfl (cs := [.int .i64 a0.1, .int .i64 a0.2.1, .slice A0a a0.2.2.1.length c0a, .int .i64 a0.2.2.2]) rfl (fun b1 => ?_)
 refine T.boxS .list rfl (wants0 rfl) rfl rfl (cs := [.int .i64 a1.1, .int .i64 a1.2.1, .slice A1a a1.2.2.1.length c1a, .int .i64 a1.2.2.2]) rfl (fun b2 => ?_)
 refine T.assign .list rfl (wants0 rfl) rfl rfl ?_
 refine T.nil ?_
 refine T.then_normal ?_
 refine T.seq ?_
 refine T.seqJ (fun (s1 : Bool) (x1 : Unit) => [(2, .pointer (some ⟨b1, 0, none⟩)), (3, .pointer (some ⟨b2, 0, none⟩)), (35, .bool s1)]) (fun s1 x1 => Cl b1 36 [.int .i64 a0.1, .int .i64 a0.2.1, .slice A0a a0.2.2.1.length c0a, .int .i64 a0.2.2.2] :: Ro (Elt.pair E64 (Elt.pair E64 (Elt.slice (Elt.pair E64 (Elt.pair EStr (Elt.pair (Elt.pair EStr (Elt.pair (Elt.slice (Elt.pair EStr (Elt.pair E64 E64))) (Elt.slice (Elt.pair E64 EBool)))) (Elt.pair (Elt.slice (Elt.pair E64 (Elt.pair E64 EStr))) (Elt.pair (Elt.pair E64 (Elt.pair E64 EStr)) (Elt.pair E64 (Elt.pair (Elt.pair E64 (Elt.pair E64 EStr)) (Elt.pair (Elt.pair E64 (Elt.pair E64 EStr)) E64))))))))))) A0a c0a a0.2.2.1 :: Cl b2 36 [.int .i64 a1.1, .int .i64 a1.2.1, .slice A1a a1.2.2.1.length c1a, .int .i64 a1.2.2.2] :: Ro (Elt.pair E64 (Elt.pair E64 (Elt.slice (Elt.pair E64 (Elt.pair EStr (Elt.pair (Elt.pair EStr (Elt.pair (Elt.slice (Elt.pair EStr (Elt.pair E64 E64))) (Elt.slice (Elt.pair E64 EBool)))) (Elt.pair (Elt.slice (Elt.pair E64 (Elt.pair E64 EStr))) (Elt.pair (Elt.pair E64 (Elt.pair E64 EStr)) (Elt.pair E64 (Elt.pair (Elt.pair E64 (Elt.pair E64 EStr)) (Elt.pair (Elt.pair E64 (Elt.pair E64 EStr)) E64))))))))))) A1a c1a a1.2.2.1 :: hs) (fun s1 => ref17_Same.k1 a0 a1 s1 = some r) (fun s1 x1 hk1 => ?_) (fun J1 => ?_)
 ·unfold ref17_Same.k1 at hk1
  refine T.cond rfl (fun hb1 => ?_) (fun hb1 => ?_)
  ·replace hk1 := inv_posB hb1 hk1
   refine T.seq ?_
   refine T.region ?_
   refine T.assign .list rfl (wants0 rfl) rfl rfl ?_
   refine T.nil ?_
   refine T.then_normal ?_
   refine T.ret ?_
   refine T.then_ret ?_
   obtain rfl := inv_some hk1
   refine T.pick [] 4 rfl rfl nla rfl ?_
   refine T.ret1 rfl rfl (fun w hS => ⟨(), rfl, hS⟩)
  ·replace hk1 := inv_negB hb1 hk1
   refine T.skip ?_
   refine T.then_normal ?_
   refine T.seqJ (fun (s2 : Unit) (x2 : Unit) => []) (fun s2 x2 => hs) (fun s2 => ref17_Same.k2 s2 = some r) (fun s2 x2 hk2 => ?_) (fun J2 => ?_)
   ·unfold ref17_Same.k2 at hk2
    refine T.seq ?_
    refine T.region ?_
    refine T.assign .list rfl (wants0 rfl) rfl rfl ?_
    refine T.nil ?_
    refine T.then_normal ?_
    refine T.ret ?_
    obtain rfl := inv_some hk2
    refine T.pick [] 0 rfl rfl nla rfl ?_
    refine T.ret1 rfl rfl (fun w hS => ⟨(), rfl, hS⟩)
   ·refine T.seq ?_
    refine T.region ?_
    refine T.assign .list rfl (wants0 rfl) rfl rfl ?_
    refine T.nil ?_
    refine T.then_normal ?_
    refine T.block ?_
    obtain ⟨e1, hl1, hk1⟩ := inv_bind hk1
    refine T.le (EnvLe.cons rfl (EnvLe.cons rfl (EnvLe.cons rfl EnvLe.nil))) (T.pick [0, 1, 2, 3] 4 rfl rfl nla rfl (T.loop (s0 := ()) (env := fun s3 x3 => [(2, .pointer (some ⟨b1, 0, none⟩)), (3, .pointer (some ⟨b2, 0, none⟩)), (5, .int .i64 0)]) (hs := fun (s3 : Unit) (x3 : Unit) => Cl b1 36 [.int .i64 a0.1, .int .i64 a0.2.1, .slice A0a a0.2.2.1.length c0a, .int .i64 a0.2.2.2] :: Ro (Elt.pair E64 (Elt.pair E64 (Elt.slice (Elt.pair E64 (Elt.pair EStr (Elt.pair (Elt.pair EStr (Elt.pair (Elt.slice (Elt.pair EStr (Elt.pair E64 E64))) (Elt.slice (Elt.pair E64 EBool)))) (Elt.pair (Elt.slice (Elt.pair E64 (Elt.pair E64 EStr))) (Elt.pair (Elt.pair E64 (Elt.pair E64 EStr)) (Elt.pair E64 (Elt.pair (Elt.pair E64 (Elt.pair E64 EStr)) (Elt.pair (Elt.pair E64 (Elt.pair E64 EStr)) E64))))))))))) A0a c0a a0.2.2.1 :: Cl b2 36 [.int .i64 a1.1, .int .i64 a1.2.1, .slice A1a a1.2.2.1.length c1a, .int .i64 a1.2.2.2] :: Ro (Elt.pair E64 (Elt.pair E64 (Elt.slice (Elt.pair E64 (Elt.pair EStr (Elt.pair (Elt.pair EStr (Elt.pair (Elt.slice (Elt.pair EStr (Elt.pair E64 E64))) (Elt.slice (Elt.pair E64 EBool)))) (Elt.pair (Elt.slice (Elt.pair E64 (Elt.pair E64 EStr))) (Elt.pair (Elt.pair E64 (Elt.pair E64 EStr)) (Elt.pair E64 (Elt.pair (Elt.pair E64 (Elt.pair E64 EStr)) (Elt.pair (Elt.pair E64 (Elt.pair E64 EStr)) E64))))))))))) A1a c1a a1.2.2.1 :: hs) hl1 () (fun K1 s3 x3 o1 he1 hm1 hx1 => ?_)))
    unfold ref17_Same.st1 at he1
    refine T.seq ?_
    refine T.seq ?_
    refine T.region ?_
    refine T.move .list rfl (wants0 rfl) rfl rfl ?_
    refine T.field .list rfl (wants0 rfl) rfl rfl ?_
    refine T.load .list 0 rfl rfl (wants0 rfl) rfl rfl rfl ?_
    refine T.lenSlice .list rfl (wants0 rfl) rfl rfl ?_
    refine T.bin .list rfl (wants0 rfl) rfl rfl rfl rfl ?_
    refine T.nil ?_
    refine T.then_normal ?_
    refine T.cond rfl (fun hb2 => ?_) (fun hb2 => ?_)
    ·replace he1 := inv_posB hb2 he1
     refine T.skip ?_
     refine T.then_normal ?_
     refine T.seq ?_
     refine T.block ?_
     refine T.seqJ (fun (s4 : (List (Int × (List UInt8) × ((List UInt8) × (List ((List UInt8) × Int × Int)) × (List (Int × Bool))) × (List (Int × Int × (List UInt8))) × (Int × Int × (List UInt8)) × Int × (Int × Int × (List UInt8)) × (Int × Int × (List UInt8)) × Int)) × (List (Int × (List UInt8) × ((List UInt8) × (List ((List UInt8) × Int × Int)) × (List (Int × Bool))) × (List (Int × Int × (List UInt8))) × (Int × Int × (List UInt8)) × Int × (Int × Int × (List UInt8)) × (Int × Int × (List UInt8)) × Int))) (x4 : Nat × (Option Addr × Nat) × Nat × (Option Addr × Nat)) => [(2, .pointer (some ⟨b1, 0, none⟩)), (3, .pointer (some ⟨b2, 0, none⟩)), (5, .int .i64 0), (6, .pointer (some ⟨x4.1, 0, none⟩)), (7, .pointer (some ⟨x4.2.2.1, 0, none⟩))]) (fun s4 x4 => Cl b1 36 [.int .i64 a0.1, .int .i64 a0.2.1, .slice A0a a0.2.2.1.length c0a, .int .i64 a0.2.2.2] :: Ro (Elt.pair E64 (Elt.pair E64 (Elt.slice (Elt.pair E64 (Elt.pair EStr (Elt.pair (Elt.pair EStr (Elt.pair (Elt.slice (Elt.pair EStr (Elt.pair E64 E64))) (Elt.slice (Elt.pair E64 EBool)))) (Elt.pair (Elt.slice (Elt.pair E64 (Elt.pair E64 EStr))) (Elt.pair (Elt.pair E64 (Elt.pair E64 EStr)) (Elt.pair E64 (Elt.pair (Elt.pair E64 (Elt.pair E64 EStr)) (Elt.pair (Elt.pair E64 (Elt.pair E64 EStr)) E64))))))))))) A0a c0a a0.2.2.1 :: Cl b2 36 [.int .i64 a1.1, .int .i64 a1.2.1, .slice A1a a1.2.2.1.length c1a, .int .i64 a1.2.2.2] :: Ro (Elt.pair E64 (Elt.pair E64 (Elt.slice (Elt.pair E64 (Elt.pair EStr (Elt.pair (Elt.pair EStr (Elt.pair (Elt.slice (Elt.pair EStr (Elt.pair E64 E64))) (Elt.slice (Elt.pair E64 EBool)))) (Elt.pair (Elt.slice (Elt.pair E64 (Elt.pair E64 EStr))) (Elt.pair (Elt.pair E64 (Elt.pair E64 EStr)) (Elt.pair E64 (Elt.pair (Elt.pair E64 (Elt.pair E64 EStr)) (Elt.pair (Elt.pair E64 (Elt.pair E64 EStr)) E64))))))))))) A1a c1a a1.2.2.1 :: Cl x4.1 58 [.int .i64 (((((a0.2.2.1).getD (0 : Int).toNat default)).1)), .int .i64 (((((a0.2.2.1).getD (0 : Int).toNat default)).2.1)), .slice x4.2.1.1 s4.1.length x4.2.1.2] :: Ro (Elt.pair E64 (Elt.pair EStr (Elt.pair (Elt.pair EStr (Elt.pair (Elt.slice (Elt.pair EStr (Elt.pair E64 E64))) (Elt.slice (Elt.pair E64 EBool)))) (Elt.pair (Elt.slice (Elt.pair E64 (Elt.pair E64 EStr))) (Elt.pair (Elt.pair E64 (Elt.pair E64 EStr)) (Elt.pair E64 (Elt.pair (Elt.pair E64 (Elt.pair E64 EStr)) (Elt.pair (Elt.pair E64 (Elt.pair E64 EStr)) E64)))))))) x4.2.1.1 x4.2.1.2 s4.1 :: Cl x4.2.2.1 58 [.int .i64 (((((a1.2.2.1).getD (0 : Int).toNat default)).1)), .int .i64 (((((a1.2.2.1).getD (0 : Int).toNat default)).2.1)), .slice x4.2.2.2.1 s4.2.length x4.2.2.2.2] :: Ro (Elt.pair E64 (Elt.pair EStr (Elt.pair (Elt.pair EStr (Elt.pair (Elt.slice (Elt.pair EStr (Elt.pair E64 E64))) (Elt.slice (Elt.pair E64 EBool)))) (Elt.pair (Elt.slice (Elt.pair E64 (Elt.pair E64 EStr))) (Elt.pair (Elt.pair E64 (Elt.pair E64 EStr)) (Elt.pair E64 (Elt.pair (Elt.pair E64 (Elt.pair E64 EStr)) (Elt.pair (Elt.pair E64 (Elt.pair E64 EStr)) E64)))))))) x4.2.2.2.1 x4.2.2.2.2 s4.2 :: hs) (fun s4 => ref17_Same.k3 a0 a1 s4 = some o1) (fun s4 x4 hk3 => ?_) (fun J3 => ?_)
     ·unfold ref17_Same.k3 at hk3
      refine T.seqJ (fun (s5 : Unit) (x5 : Unit) => [(2, .pointer (some ⟨b1, 0, none⟩)), (3, .pointer (some ⟨b2, 0, none⟩)), (5, .int .i64 0), (72, .bool true)]) (fun s5 x5 => Cl b1 36 [.int .i64 a0.1, .int .i64 a0.2.1, .slice A0a a0.2.2.1.length c0a, .int .i64 a0.2.2.2] :: Ro (Elt.pair E64 (Elt.pair E64 (Elt.slice (Elt.pair E64 (Elt.pair EStr (Elt.pair (Elt.pair EStr (Elt.pair (Elt.slice (Elt.pair EStr (Elt.pair E64 E64))) (Elt.slice (Elt.pair E64 EBool)))) (Elt.pair (Elt.slice (Elt.pair E64 (Elt.pair E64 EStr))) (Elt.pair (Elt.pair E64 (Elt.pair E64 EStr)) (Elt.pair E64 (Elt.pair (Elt.pair E64 (Elt.pair E64 EStr)) (Elt.pair (Elt.pair E64 (Elt.pair E64 EStr)) E64))))))))))) A0a c0a a0.2.2.1 :: Cl b2 36 [.int .i64 a1.1, .int .i64 a1.2.1, .slice A1a a1.2.2.1.length c1a, .int .i64 a1.2.2.2] :: Ro (Elt.pair E64 (Elt.pair E64 (Elt.slice (Elt.pair E64 (Elt.pair EStr (Elt.pair (Elt.pair EStr (Elt.pair (Elt.slice (Elt.pair EStr (Elt.pair E64 E64))) (Elt.slice (Elt.pair E64 EBool)))) (Elt.pair (Elt.slice (Elt.pair E64 (Elt.pair E64 EStr))) (Elt.pair (Elt.pair E64 (Elt.pair E64 EStr)) (Elt.pair E64 (Elt.pair (Elt.pair E64 (Elt.pair E64 EStr)) (Elt.pair (Elt.pair E64 (Elt.pair E64 EStr)) E64))))))))))) A1a c1a a1.2.2.1 :: hs) (fun s5 => ref17_Same.k4 s5 = some o1) (fun s5 x5 hk4 => ?_) (fun J4 => ?_)
      ·unfold ref17_Same.k4 at hk4
       refine T.condT rfl rfl ?_
       refine T.seq ?_
       refine T.region ?_
       refine T.assign .list rfl (wants0 rfl) rfl rfl ?_
       refine T.nil ?_
       refine T.then_normal ?_
       refine T.ret ?_
       refine T.in_ret ?_
       refine T.then_ret ?_
       refine T.then_ret ?_
       obtain rfl := inv_some hk4
       obtain rfl := hx1 _ rfl
       refine T.in_ret ?_
       refine T.then_ret ?_
       obtain rfl := inv_some hk1
       refine T.pick [] 4 rfl rfl nla rfl ?_
       refine T.ret1 rfl rfl (fun w hS => ⟨(), rfl, hS⟩)
      ·refine T.region ?_
       refine T.field .list rfl (wants0 rfl) rfl rfl ?_
       refine T.load .list 4 rfl rfl (wants0 rfl) rfl rfl rfl ?_
       refine T.field .list rfl (wants0 rfl) rfl rfl ?_
       refine T.load .list 6 rfl rfl (wants0 rfl) rfl rfl rfl ?_
       refine T.bin .list rfl (wants0 rfl) rfl rfl rfl rfl ?_
       refine T.move .list rfl (wants0 rfl) rfl rfl ?_
       refine T.bool (b := (decide (((((((a0.2.2.1).getD (0 : Int).toNat default)).1))) = (((((a1.2.2.1).getD (0 : Int).toNat default)).1))))) (fun hb3 => ?_) (fun hb3 => ?_)
       ·replace hk3 := inv_posB hb3 hk3
        refine T.field .list rfl (wants1 rfl rfl rfl (not_t hb3)) rfl rfl ?_
        refine T.load .list 4 rfl rfl (wants1 rfl rfl rfl (not_t hb3)) rfl rfl rfl ?_
        refine T.field .list rfl (wants1 rfl rfl rfl (not_t hb3)) rfl rfl ?_
        refine T.load .list 6 rfl rfl (wants1 rfl rfl rfl (not_t hb3)) rfl rfl rfl ?_
        refine T.bin .list rfl (wants1 rfl rfl rfl (not_t hb3)) rfl rfl rfl rfl ?_
        refine T.pickF .list rfl (wants0 rfl) rfl rfl (not_t hb3) rfl ?_
        refine T.move .list rfl (wants0 rfl) rfl rfl ?_
        refine T.bool (b := (decide (((((((a0.2.2.1).getD (0 : Int).toNat default)).2.1))) = (((((a1.2.2.1).getD (0 : Int).toNat default)).2.1))))) (fun hb4 => ?_) (fun hb4 => ?_)
        ·replace hk3 := inv_posB hb4 hk3
         cases hk3
        ·replace hk3 := inv_negB hb4 hk3
         refine T.leave .list (wantsNot rfl rfl rfl (not_f hb4)) rfl ?_
         refine T.leave .list (wantsNot rfl rfl rfl (not_f hb4)) rfl ?_
         refine T.leave .list (wantsNot rfl rfl rfl (not_f hb4)) rfl ?_
         refine T.leave .list (wantsNot rfl rfl rfl (not_f hb4)) rfl ?_
         refine T.leave .list (wantsNot rfl rfl rfl (not_f hb4)) rfl ?_
         refine T.leave .list (wantsNot rfl rfl rfl (not_f hb4)) rfl ?_
         refine T.pickT .list rfl (wants0 rfl) rfl rfl (not_f hb4) rfl ?_
         refine T.nil ?_
         refine T.then_normal ?_
         exact T.le (EnvLe.cons rfl (EnvLe.cons rfl (EnvLe.cons rfl (EnvLe.cons rfl EnvLe.nil)))) (T.pick [0, 1, 2, 3] 8 rfl rfl nla rfl (J4 () () hk3))
       ·replace hk3 := inv_negB hb3 hk3
        refine T.leave .list (wantsNot rfl rfl rfl (not_f hb3)) rfl ?_
        refine T.leave .list (wantsNot rfl rfl rfl (not_f hb3)) rfl ?_
        refine T.leave .list (wantsNot rfl rfl rfl (not_f hb3)) rfl ?_
        refine T.leave .list (wantsNot rfl rfl rfl (not_f hb3)) rfl ?_
        refine T.leave .list (wantsNot rfl rfl rfl (not_f hb3)) rfl ?_
        refine T.pickT .list rfl (wants0 rfl) rfl rfl (not_f hb3) rfl ?_
        refine T.move .list rfl (wants0 rfl) rfl rfl ?_
        refine T.leave .list (wantsNot rfl rfl rfl rfl) rfl ?_
        refine T.leave .list (wantsNot rfl rfl rfl rfl) rfl ?_
        refine T.leave .list (wantsNot rfl rfl rfl rfl) rfl ?_
        refine T.leave .list (wantsNot rfl rfl rfl rfl) rfl ?_
        refine T.leave .list (wantsNot rfl rfl rfl rfl) rfl ?_
        refine T.leave .list (wantsNot rfl rfl rfl rfl) rfl ?_
        refine T.pickT .list rfl (wants0 rfl) rfl rfl rfl rfl ?_
        refine T.nil ?_
        refine T.then_normal ?_
        exact T.le (EnvLe.cons rfl (EnvLe.cons rfl (EnvLe.cons rfl (EnvLe.cons rfl EnvLe.nil)))) (T.pick [0, 1, 2, 3] 8 rfl rfl nla rfl (J4 () () hk3))
     ·refine T.dStart mixed ?_
      refine T.field (.dPure (i := 0) rfl (by kernel_rfl) (fun d _ _ _ _ h => by cases d <;> exact h)) rfl (wants0 rfl) rfl rfl ?_
      refine T.move (.dPure (i := 2) rfl (by kernel_rfl) (fun d _ _ _ _ h => by cases d <;> exact h)) rfl (wants0 rfl) rfl rfl ?_
      refine T.field (.dPure (i := 5) rfl (by kernel_rfl) (fun d _ _ _ _ h => by cases d <;> exact h)) rfl (wants0 rfl) rfl rfl ?_
      refine T.move (.dPure (i := 7) rfl (by kernel_rfl) (fun d _ _ _ _ h => by cases d <;> exact h)) rfl (wants0 rfl) rfl rfl ?_
      refine T.dAdd 14 (fun w => w.heap[b1]? = some (.cells [.int .i64 a0.1, .int .i64 a0.2.1, .slice A0a a0.2.2.1.length c0a, .int .i64 a0.2.2.2].toArray 36 (0, 0))) (Cl.stays 0 rfl) ?_
      refine T.valS 0 (i := 1) (.slice A0a a0.2.2.1.length c0a) rfl rfl (by kernel_rfl) (by kernel_rfl) (fun d _ _ _ _ h => by cases d <;> exact h) (wants0 rfl) rfl (run_ldCl rfl rfl rfl) ?_
      obtain ⟨hc1, he1⟩ := inv_chk he1
      refine T.idxRo (.dPure (i := 3) rfl (by kernel_rfl) (fun d _ _ _ _ h => by cases d <;> exact h)) 1 rfl rfl (wants0 rfl) rfl rfl rfl hc1.1 hc1.2 (Nat.le_refl _) ?_
      refine T.openEl 1 (j := 0) (Sh.pair Sh.sc (Sh.pair Sh.sc Sh.slice)) rfl hc1.1 hc1.2 (v := fun x6 => [.int .i64 (((((a0.2.2.1).getD (0 : Int).toNat default)).1)), .int .i64 (((((a0.2.2.1).getD (0 : Int).toNat default)).2.1)), .slice x6.2.2.1 ((((((a0.2.2.1).getD (0 : Int).toNat default)).2.2)).length) x6.2.2.2]) (hs' := fun x6 => Ro (Elt.pair E64 (Elt.pair EStr (Elt.pair (Elt.pair EStr (Elt.pair (Elt.slice (Elt.pair EStr (Elt.pair E64 E64))) (Elt.slice (Elt.pair E64 EBool)))) (Elt.pair (Elt.slice (Elt.pair E64 (Elt.pair E64 EStr))) (Elt.pair (Elt.pair E64 (Elt.pair E64 EStr)) (Elt.pair E64 (Elt.pair (Elt.pair E64 (Elt.pair E64 EStr)) (Elt.pair (Elt.pair E64 (Elt.pair E64 EStr)) E64)))))))) x6.2.2.1 x6.2.2.2 (((((a0.2.2.1).getD (0 : Int).toNat default)).2.2)) :: Cl b1 36 [.int .i64 a0.1, .int .i64 a0.2.1, .slice A0a a0.2.2.1.length c0a, .int .i64 a0.2.2.2] :: Ro (Elt.pair E64 (Elt.pair E64 (Elt.slice (Elt.pair E64 (Elt.pair EStr (Elt.pair (Elt.pair EStr (Elt.pair (Elt.slice (Elt.pair EStr (Elt.pair E64 E64))) (Elt.slice (Elt.pair E64 EBool)))) (Elt.pair (Elt.slice (Elt.pair E64 (Elt.pair E64 EStr))) (Elt.pair (Elt.pair E64 (Elt.pair E64 EStr)) (Elt.pair E64 (Elt.pair (Elt.pair E64 (Elt.pair E64 EStr)) (Elt.pair (Elt.pair E64 (Elt.pair E64 EStr)) E64))))))))))) A0a c0a a0.2.2.1 :: Cl b2 36 [.int .i64 a1.1, .int .i64 a1.2.1, .slice A1a a1.2.2.1.length c1a, .int .i64 a1.2.2.2] :: Ro (Elt.pair E64 (Elt.pair E64 (Elt.slice (Elt.pair E64 (Elt.pair EStr (Elt.pair (Elt.pair EStr (Elt.pair (Elt.slice (Elt.pair EStr (Elt.pair E64 E64))) (Elt.slice (Elt.pair E64 EBool)))) (Elt.pair (Elt.slice (Elt.pair E64 (Elt.pair E64 EStr))) (Elt.pair (Elt.pair E64 (Elt.pair E64 EStr)) (Elt.pair E64 (Elt.pair (Elt.pair E64 (Elt.pair E64 EStr)) (Elt.pair (Elt.pair E64 (Elt.pair E64 EStr)) E64))))))))))) A1a c1a a1.2.2.1 :: hs) (fun _ => rfl) (fun _ => rfl) (fun z1 x6 hk5 => ?_)
      refine T.dAdd 14 (fun w => PH.le z1 (PH.of w)) (Kp.le 0 rfl) ?_
      refine T.valS 0 (i := 4) (.agg #[.int .i64 (((((a0.2.2.1).getD (0 : Int).toNat default)).1)), .int .i64 (((((a0.2.2.1).getD (0 : Int).toNat default)).2.1)), .slice x6.2.2.1 ((((((a0.2.2.1).getD (0 : Int).toNat default)).2.2)).length) x6.2.2.2]) rfl rfl (by kernel_rfl) (by kernel_rfl) (fun d _ _ _ _ h => by cases d <;> exact h) (wants0 rfl) rfl (run_ldSl hk5 rfl rfl) ?_
      refine T.dAdd 14 (fun w => w.heap[b2]? = some (.cells [.int .i64 a1.1, .int .i64 a1.2.1, .slice A1a a1.2.2.1.length c1a, .int .i64 a1.2.2.2].toArray 36 (0, 0))) (Cl.stays 4 rfl) ?_
      refine T.valS 0 (i := 6) (.slice A1a a1.2.2.1.length c1a) rfl rfl (by kernel_rfl) (by kernel_rfl) (fun d _ _ _ _ h => by cases d <;> exact h) (wants0 rfl) rfl (run_ldCl rfl rfl rfl) ?_
      obtain ⟨hc2, he1⟩ := inv_chk he1
      refine T.idxRo (.dPure (i := 8) rfl (by kernel_rfl) (fun d _ _ _ _ h => by cases d <;> exact h)) 5 rfl rfl (wants0 rfl) rfl rfl rfl hc2.1 hc2.2 (Nat.le_refl _) ?_
      refine T.openEl 5 (j := 0) (Sh.pair Sh.sc (Sh.pair Sh.sc Sh.slice)) rfl hc2.1 hc2.2 (v := fun x7 => [.int .i64 (((((a1.2.2.1).getD (0 : Int).toNat default)).1)), .int .i64 (((((a1.2.2.1).getD (0 : Int).toNat default)).2.1)), .slice x7.2.2.1 ((((((a1.2.2.1).getD (0 : Int).toNat default)).2.2)).length) x7.2.2.2]) (hs' := fun x7 => Ro (Elt.pair E64 (Elt.pair EStr (Elt.pair (Elt.pair EStr (Elt.pair (Elt.slice (Elt.pair EStr (Elt.pair E64 E64))) (Elt.slice (Elt.pair E64 EBool)))) (Elt.pair (Elt.slice (Elt.pair E64 (Elt.pair E64 EStr))) (Elt.pair (Elt.pair E64 (Elt.pair E64 EStr)) (Elt.pair E64 (Elt.pair (Elt.pair E64 (Elt.pair E64 EStr)) (Elt.pair (Elt.pair E64 (Elt.pair E64 EStr)) E64)))))))) x7.2.2.1 x7.2.2.2 (((((a1.2.2.1).getD (0 : Int).toNat default)).2.2)) :: Kp z1 :: Ro (Elt.pair E64 (Elt.pair EStr (Elt.pair (Elt.pair EStr (Elt.pair (Elt.slice (Elt.pair EStr (Elt.pair E64 E64))) (Elt.slice (Elt.pair E64 EBool)))) (Elt.pair (Elt.slice (Elt.pair E64 (Elt.pair E64 EStr))) (Elt.pair (Elt.pair E64 (Elt.pair E64 EStr)) (Elt.pair E64 (Elt.pair (Elt.pair E64 (Elt.pair E64 EStr)) (Elt.pair (Elt.pair E64 (Elt.pair E64 EStr)) E64)))))))) x6.2.2.1 x6.2.2.2 (((((a0.2.2.1).getD (0 : Int).toNat default)).2.2)) :: Cl b1 36 [.int .i64 a0.1, .int .i64 a0.2.1, .slice A0a a0.2.2.1.length c0a, .int .i64 a0.2.2.2] :: Ro (Elt.pair E64 (Elt.pair E64 (Elt.slice (Elt.pair E64 (Elt.pair EStr (Elt.pair (Elt.pair EStr (Elt.pair (Elt.slice (Elt.pair EStr (Elt.pair E64 E64))) (Elt.slice (Elt.pair E64 EBool)))) (Elt.pair (Elt.slice (Elt.pair E64 (Elt.pair E64 EStr))) (Elt.pair (Elt.pair E64 (Elt.pair E64 EStr)) (Elt.pair E64 (Elt.pair (Elt.pair E64 (Elt.pair E64 EStr)) (Elt.pair (Elt.pair E64 (Elt.pair E64 EStr)) E64))))))))))) A0a c0a a0.2.2.1 :: Cl b2 36 [.int .i64 a1.1, .int .i64 a1.2.1, .slice A1a a1.2.2.1.length c1a, .int .i64 a1.2.2.2] :: Ro (Elt.pair E64 (Elt.pair E64 (Elt.slice (Elt.pair E64 (Elt.pair EStr (Elt.pair (Elt.pair EStr (Elt.pair (Elt.slice (Elt.pair EStr (Elt.pair E64 E64))) (Elt.slice (Elt.pair E64 EBool)))) (Elt.pair (Elt.slice (Elt.pair E64 (Elt.pair E64 EStr))) (Elt.pair (Elt.pair E64 (Elt.pair E64 EStr)) (Elt.pair E64 (Elt.pair (Elt.pair E64 (Elt.pair E64 EStr)) (Elt.pair (Elt.pair E64 (Elt.pair E64 EStr)) E64))))))))))) A1a c1a a1.2.2.1 :: hs) (fun _ => rfl) (fun _ => rfl) (fun z2 x7 hk6 => ?_)
      refine T.dAdd 14 (fun w => PH.le z2 (PH.of w)) (Kp.le 0 rfl) ?_
      refine T.valS 0 (i := 9) (.agg #[.int .i64 (((((a1.2.2.1).getD (0 : Int).toNat default)).1)), .int .i64 (((((a1.2.2.1).getD (0 : Int).toNat default)).2.1)), .slice x7.2.2.1 ((((((a1.2.2.1).getD (0 : Int).toNat default)).2.2)).length) x7.2.2.2]) rfl rfl (by kernel_rfl) (by kernel_rfl) (fun d _ _ _ _ h => by cases d <;> exact h) (wants0 rfl) rfl (run_ldSl hk6 rfl rfl) ?_
      refine T.d2 (i := 10) (j := 11) (by kernel_rfl) ?_ ?_ 
      ·refine T.allocS (.dOne rfl (by kernel_rfl)) rfl (wants0 rfl) rfl (cs := [.int .i64 0, .int .i64 0, .slice none 0 0]) rfl (fun b3 => ?_)
       refine T.dNext (phi_cons (.inr (Kp.le 1 rfl)) (phi_cons (.inr (Cl.stays 7 rfl)) (phi_cons (.inr (Kp.le 3 rfl)) (phi_cons (.inr (Cl.stays 5 rfl)) phi_nil)))) ?_
       refine T.dOnly (i := 11) (by kernel_rfl) ?_
       refine T.allocS (.dOne rfl (by kernel_rfl)) rfl (wants0 rfl) rfl (cs := [.int .i64 0, .int .i64 0, .slice none 0 0]) rfl (fun b4 => ?_)
       refine T.dNext (phi_cons (.inr (Kp.le 2 rfl)) (phi_cons (.inr (Cl.stays 8 rfl)) (phi_cons (.inr (Kp.le 4 rfl)) (phi_cons (.inr (Cl.stays 6 rfl)) phi_nil)))) ?_
       refine T.dOnly (i := 12) (by kernel_rfl) ?_
       refine T.store (.dOne rfl (by kernel_rfl)) 1 rfl rfl (wants0 rfl) rfl rfl rfl rfl (Nat.le_of_ble_eq_true rfl) rfl (cs' := [.int .i64 (((((a0.2.2.1).getD (0 : Int).toNat default)).1)), .int .i64 (((((a0.2.2.1).getD (0 : Int).toNat default)).2.1)), .slice x6.2.2.1 ((((((a0.2.2.1).getD (0 : Int).toNat default)).2.2)).length) x6.2.2.2]) rfl rfl ?_
       refine T.dNext (phi_cons (.inr (Kp.le 2 rfl)) (phi_cons (.inr (Cl.stays 8 rfl)) (phi_cons (.inr (Kp.le 4 rfl)) (phi_cons (.inr (Cl.stays 6 rfl)) phi_nil)))) ?_
       refine T.dOnly (i := 13) (by kernel_rfl) ?_
       refine T.store (.dOne rfl (by kernel_rfl)) 0 rfl rfl (wants0 rfl) rfl rfl rfl rfl (Nat.le_of_ble_eq_true rfl) rfl (cs' := [.int .i64 (((((a1.2.2.1).getD (0 : Int).toNat default)).1)), .int .i64 (((((a1.2.2.1).getD (0 : Int).toNat default)).2.1)), .slice x7.2.2.1 ((((((a1.2.2.1).getD (0 : Int).toNat default)).2.2)).length) x7.2.2.2]) rfl rfl ?_
       refine T.dNext (phi_cons (.inr (Kp.le 2 rfl)) (phi_cons (.inr (Cl.stays 8 rfl)) (phi_cons (.inr (Kp.le 4 rfl)) (phi_cons (.inr (Cl.stays 6 rfl)) phi_nil)))) ?_
       refine T.dDone (by kernel_rfl) ?_
       refine T.then_normal ?_
       exact T.le (EnvLe.cons rfl (EnvLe.cons rfl (EnvLe.cons rfl (EnvLe.cons rfl (EnvLe.cons rfl EnvLe.nil))))) (T.pick [6, 7, 8, 9, 1, 5, 0, 3] 10 rfl rfl nla rfl (J3 (((((a0.2.2.1).getD (0 : Int).toNat default)).2.2), ((((a1.2.2.1).getD (0 : Int).toNat default)).2.2)) (b3, x6.2.2, b4, x7.2.2) he1))
      ·refine T.allocS (.dOne rfl (by kernel_rfl)) rfl (wants0 rfl) rfl (cs := [.int .i64 0, .int .i64 0, .slice none 0 0]) rfl (fun b4 => ?_)
       refine T.dNext (phi_cons (.inr (Kp.le 1 rfl)) (phi_cons (.inr (Cl.stays 7 rfl)) (phi_cons (.inr (Kp.le 3 rfl)) (phi_cons (.inr (Cl.stays 5 rfl)) phi_nil)))) ?_
       refine T.dOnly (i := 10) (by kernel_rfl) ?_
       refine T.allocS (.dOne rfl (by kernel_rfl)) rfl (wants0 rfl) rfl (cs := [.int .i64 0, .int .i64 0, .slice none 0 0]) rfl (fun b3 => ?_)
       refine T.dNext (phi_cons (.inr (Kp.le 2 rfl)) (phi_cons (.inr (Cl.stays 8 rfl)) (phi_cons (.inr (Kp.le 4 rfl)) (phi_cons (.inr (Cl.stays 6 rfl)) phi_nil)))) ?_
       refine T.dOnly (i := 12) (by kernel_rfl) ?_
       refine T.store (.dOne rfl (by kernel_rfl)) 0 rfl rfl (wants0 rfl) rfl rfl rfl rfl (Nat.le_of_ble_eq_true rfl) rfl (cs' := [.int .i64 (((((a0.2.2.1).getD (0 : Int).toNat default)).1)), .int .i64 (((((a0.2.2.1).getD (0 : Int).toNat default)).2.1)), .slice x6.2.2.1 ((((((a0.2.2.1).getD (0 : Int).toNat default)).2.2)).length) x6.2.2.2]) rfl rfl ?_
       refine T.dNext (phi_cons (.inr (Kp.le 2 rfl)) (phi_cons (.inr (Cl.stays 8 rfl)) (phi_cons (.inr (Kp.le 4 rfl)) (phi_cons (.inr (Cl.stays 6 rfl)) phi_nil)))) ?_
       refine T.dOnly (i := 13) (by kernel_rfl) ?_
       refine T.store (.dOne rfl (by kernel_rfl)) 1 rfl rfl (wants0 rfl) rfl rfl rfl rfl (Nat.le_of_ble_eq_true rfl) rfl (cs' := [.int .i64 (((((a1.2.2.1).getD (0 : Int).toNat default)).1)), .int .i64 (((((a1.2.2.1).getD (0 : Int).toNat default)).2.1)), .slice x7.2.2.1 ((((((a1.2.2.1).getD (0 : Int).toNat default)).2.2)).length) x7.2.2.2]) rfl rfl ?_
       refine T.dNext (phi_cons (.inr (Kp.le 2 rfl)) (phi_cons (.inr (Cl.stays 8 rfl)) (phi_cons (.inr (Kp.le 4 rfl)) (phi_cons (.inr (Cl.stays 6 rfl)) phi_nil)))) ?_
       refine T.dDone (by kernel_rfl) ?_
       refine T.then_normal ?_
       exact T.le (EnvLe.cons rfl (EnvLe.cons rfl (EnvLe.cons rfl (EnvLe.cons rfl (EnvLe.cons rfl EnvLe.nil))))) (T.pick [6, 7, 8, 9, 0, 5, 1, 3] 10 rfl rfl nla rfl (J3 (((((a0.2.2.1).getD (0 : Int).toNat default)).2.2), ((((a1.2.2.1).getD (0 : Int).toNat default)).2.2)) (b3, x6.2.2, b4, x7.2.2) he1))
    ·replace he1 := inv_negB hb2 he1
     refine T.exit ?_
     refine T.then_exit ?_
     refine T.then_exit ?_
     obtain rfl := inv_some he1
     obtain rfl := hx1 _ rfl
     refine T.in_hit ?_
     refine T.then_normal ?_
     exact T.le EnvLe.nil (T.pick [] 4 rfl rfl nla rfl (J2 () () hk1))
 ·refine T.region ?_
  refine T.field .list rfl (wants0 rfl) rfl rfl ?_
  refine T.load .list 1 rfl rfl (wants0 rfl) rfl rfl rfl ?_
  refine T.field .list rfl (wants0 rfl) rfl rfl ?_
  refine T.load .list 0 rfl rfl (wants0 rfl) rfl rfl rfl ?_
  refine T.bin .list rfl (wants0 rfl) rfl rfl rfl rfl ?_
  refine T.move .list rfl (wants0 rfl) rfl rfl ?_
  refine T.bool (b := (decide (a0.1 = a1.1))) (fun hb5 => ?_) (fun hb5 => ?_)
  ·replace hr := inv_posB hb5 hr
   refine T.field .list rfl (wants1 rfl rfl rfl (not_t hb5)) rfl rfl ?_
   refine T.load .list 1 rfl rfl (wants1 rfl rfl rfl (not_t hb5)) rfl rfl rfl ?_
   refine T.field .list rfl (wants1 rfl rfl rfl (not_t hb5)) rfl rfl ?_
   refine T.load .list 0 rfl rfl (wants1 rfl rfl rfl (not_t hb5)) rfl rfl rfl ?_
   refine T.bin .list rfl (wants1 rfl rfl rfl (not_t hb5)) rfl rfl rfl rfl ?_
   refine T.pickF .list rfl (wants0 rfl) rfl rfl (not_t hb5) rfl ?_
   refine T.move .list rfl (wants0 rfl) rfl rfl ?_
   refine T.bool (b := (decide (a0.2.1 = a1.2.1))) (fun hb6 => ?_) (fun hb6 => ?_)
   ·replace hr := inv_posB hb6 hr
    refine T.field .list rfl (wants1 rfl rfl rfl (not_t hb6)) rfl rfl ?_
    refine T.load .list 1 rfl rfl (wants1 rfl rfl rfl (not_t hb6)) rfl rfl rfl ?_
    refine T.field .list rfl (wants1 rfl rfl rfl (not_t hb6)) rfl rfl ?_
    refine T.load .list 0 rfl rfl (wants1 rfl rfl rfl (not_t hb6)) rfl rfl rfl ?_
    refine T.bin .list rfl (wants1 rfl rfl rfl (not_t hb6)) rfl rfl rfl rfl ?_
    refine T.pickF .list rfl (wants0 rfl) rfl rfl (not_t hb6) rfl ?_
    refine T.move .list rfl (wants0 rfl) rfl rfl ?_
    refine T.bool (b := (decide (a0.2.2.2 = a1.2.2.2))) (fun hb7 => ?_) (fun hb7 => ?_)
    ·replace hr := inv_posB hb7 hr
     refine T.field .list rfl (wants1 rfl rfl rfl (not_t hb7)) rfl rfl ?_
     refine T.load .list 1 rfl rfl (wants1 rfl rfl rfl (not_t hb7)) rfl rfl rfl ?_
     refine T.lenSlice .list rfl (wants1 rfl rfl rfl (not_t hb7)) rfl rfl ?_
     refine T.field .list rfl (wants1 rfl rfl rfl (not_t hb7)) rfl rfl ?_
     refine T.load .list 0 rfl rfl (wants1 rfl rfl rfl (not_t hb7)) rfl rfl rfl ?_
     refine T.lenSlice .list rfl (wants1 rfl rfl rfl (not_t hb7)) rfl rfl ?_
     refine T.bin .list rfl (wants1 rfl rfl rfl (not_t hb7)) rfl rfl rfl rfl ?_
     refine T.pickF .list rfl (wants0 rfl) rfl rfl (not_t hb7) rfl ?_
     refine T.nil ?_
     refine T.then_normal ?_
     exact T.le (EnvLe.cons rfl (EnvLe.cons rfl (EnvLe.cons rfl EnvLe.nil))) (T.pick [1, 3, 0, 2] 4 rfl rfl nla rfl (J1 (!(decide ((((a0.2.2.1.length : Int))) = ((a1.2.2.1.length : Int))))) () hr))
    ·replace hr := inv_negB hb7 hr
     refine T.leave .list (wantsNot rfl rfl rfl (not_f hb7)) rfl ?_
     refine T.leave .list (wantsNot rfl rfl rfl (not_f hb7)) rfl ?_
     refine T.leave .list (wantsNot rfl rfl rfl (not_f hb7)) rfl ?_
     refine T.leave .list (wantsNot rfl rfl rfl (not_f hb7)) rfl ?_
     refine T.leave .list (wantsNot rfl rfl rfl (not_f hb7)) rfl ?_
     refine T.leave .list (wantsNot rfl rfl rfl (not_f hb7)) rfl ?_
     refine T.leave .list (wantsNot rfl rfl rfl (not_f hb7)) rfl ?_
     refine T.pickT .list rfl (wants0 rfl) rfl rfl (not_f hb7) rfl ?_
     refine T.nil ?_
     refine T.then_normal ?_
     exact T.le (EnvLe.cons rfl (EnvLe.cons rfl (EnvLe.cons rfl EnvLe.nil))) (T.pick [1, 3, 0, 2] 4 rfl rfl nla rfl (J1 true () hr))
   ·replace hr := inv_negB hb6 hr
    refine T.leave .list (wantsNot rfl rfl rfl (not_f hb6)) rfl ?_
    refine T.leave .list (wantsNot rfl rfl rfl (not_f hb6)) rfl ?_
    refine T.leave .list (wantsNot rfl rfl rfl (not_f hb6)) rfl ?_
    refine T.leave .list (wantsNot rfl rfl rfl (not_f hb6)) rfl ?_
    refine T.leave .list (wantsNot rfl rfl rfl (not_f hb6)) rfl ?_
    refine T.pickT .list rfl (wants0 rfl) rfl rfl (not_f hb6) rfl ?_
    refine T.move .list rfl (wants0 rfl) rfl rfl ?_
    refine T.leave .list (wantsNot rfl rfl rfl rfl) rfl ?_
    refine T.leave .list (wantsNot rfl rfl rfl rfl) rfl ?_
    refine T.leave .list (wantsNot rfl rfl rfl rfl) rfl ?_
    refine T.leave .list (wantsNot rfl rfl rfl rfl) rfl ?_
    refine T.leave .list (wantsNot rfl rfl rfl rfl) rfl ?_
    refine T.leave .list (wantsNot rfl rfl rfl rfl) rfl ?_
    refine T.leave .list (wantsNot rfl rfl rfl rfl) rfl ?_
    refine T.pickT .list rfl (wants0 rfl) rfl rfl rfl rfl ?_
    refine T.nil ?_
    refine T.then_normal ?_
    exact T.le (EnvLe.cons rfl (EnvLe.cons rfl (EnvLe.cons rfl EnvLe.nil))) (T.pick [1, 3, 0, 2] 4 rfl rfl nla rfl (J1 true () hr))
  ·replace hr := inv_negB hb5 hr
   refine T.leave .list (wantsNot rfl rfl rfl (not_f hb5)) rfl ?_
   refine T.leave .list (wantsNot rfl rfl rfl (not_f hb5)) rfl ?_
   refine T.leave .list (wantsNot rfl rfl rfl (not_f hb5)) rfl ?_
   refine T.leave .list (wantsNot rfl rfl rfl (not_f hb5)) rfl ?_
   refine T.leave .list (wantsNot rfl rfl rfl (not_f hb5)) rfl ?_
   refine T.pickT .list rfl (wants0 rfl) rfl rfl (not_f hb5) rfl ?_
   refine T.move .list rfl (wants0 rfl) rfl rfl ?_
   refine T.leave .list (wantsNot rfl rfl rfl rfl) rfl ?_
   refine T.leave .list (wantsNot rfl rfl rfl rfl) rfl ?_
   refine T.leave .list (wantsNot rfl rfl rfl rfl) rfl ?_
   refine T.leave .list (wantsNot rfl rfl rfl rfl) rfl ?_
   refine T.leave .list (wantsNot rfl rfl rfl rfl) rfl ?_
   refine T.pickT .list rfl (wants0 rfl) rfl rfl rfl rfl ?_
   refine T.move .list rfl (wants0 rfl) rfl rfl ?_
   refine T.leave .list (wantsNot rfl rfl rfl rfl) rfl ?_
   refine T.leave .list (wantsNot rfl rfl rfl rfl) rfl ?_
   refine T.leave .list (wantsNot rfl rfl rfl rfl) rfl ?_
   refine T.leave .list (wantsNot rfl rfl rfl rfl) rfl ?_
   refine T.leave .list (wantsNot rfl rfl rfl rfl) rfl ?_
   refine T.leave .list (wantsNot rfl rfl rfl rfl) rfl ?_
   refine T.leave .list (wantsNot rfl rfl rfl rfl) rfl ?_
   refine T.pickT .list rfl (wants0 rfl) rfl rfl rfl rfl ?_
   refine T.nil ?_
   refine T.then_normal ?_
   exact T.le (EnvLe.cons rfl (EnvLe.cons rfl (EnvLe.cons rfl EnvLe.nil))) (T.pick [1, 3, 0, 2] 4 rfl rfl nla rfl (J1 true () hr))

noncomputable def law17_told.impl  : Option Bool :=
  (entry_Encode.impl ((2, 2, ([] : List (Int × Int × (List (Int × (List UInt8) × ((List UInt8) × (List ((List UInt8) × Int × Int)) × (List (Int × Bool))) × (List (Int × Int × (List UInt8))) × (Int × Int × (List UInt8)) × Int × (Int × Int × (List UInt8)) × (Int × Int × (List UInt8)) × Int)))), 7))).bind fun r1 => (entry_Decode.impl r1.1).bind fun r2 => chk (r2.1.2.2.1 = []) (chk ((r1.1.length + (([(0 : UInt8)] : List UInt8)).length) * 1 ≤ 140737488355328) ((entry_Decode.impl ((r1.1 ++ (([(0 : UInt8)] : List UInt8))))).bind fun r3 => chk (r3.1.2.2.1 = []) ((entry_Encode.impl ((0, 0, ([] : List (Int × Int × (List (Int × (List UInt8) × ((List UInt8) × (List ((List UInt8) × Int × Int)) × (List (Int × Bool))) × (List (Int × Int × (List UInt8))) × (Int × Int × (List UInt8)) × Int × (Int × Int × (List UInt8)) × (Int × Int × (List UInt8)) × Int)))), 0))).bind fun r4 => (entry_EncodeReply.impl ((4, 1, ([] : List (List (Int × Int × (List UInt8))))))).bind fun r5 => (entry_DecodeReply.impl r5.1).bind fun r6 => (if ((decide (r1.2 = 0))) = true then (if ((decide (r2.2 = 0))) = true then (if ((decide ((0 : Int) < ((r1.1.length : Int))))) = true then (ref17_Same.impl ((2, 2, ([] : List (Int × Int × (List (Int × (List UInt8) × ((List UInt8) × (List ((List UInt8) × Int × Int)) × (List (Int × Bool))) × (List (Int × Int × (List UInt8))) × (Int × Int × (List UInt8)) × Int × (Int × Int × (List UInt8)) × (Int × Int × (List UInt8)) × Int)))), 7)) r2.1).bind fun r7 => (if r7 = true then (if ((decide (r3.2 = 11))) = true then (if ((decide (r4.2 = 1))) = true then (if ((decide (r5.2 = 0))) = true then (if ((decide (r6.2 = 0))) = true then (if ((decide (r6.1.1 = 4))) = true then some (decide (r6.1.2.1 = 1)) else some false) else some false) else some false) else some false) else some false) else some false) else some false) else some false) else some false))))
set_option maxRecDepth 100000 in
set_option maxHeartbeats 4000000 in
theorem law17_told.c {B : World} {hs : List MP} {w : World} (hB : Base B) (hS : St B hs w) {r : Bool} (hr : law17_told.impl  = some r) :
    Calls Tryd.prog 8 #[] w fun e w' => ∃ x : Unit, e = .returned (.bool r) ∧ St B hs w' := by
 unfold law17_told.impl at hr
 refine calls_T Tryd.func8 rfl rfl rfl hS ?_
 refine T.seq ?_
 refine T.region ?_
 refine T.assign .list rfl (wants0 rfl) rfl rfl ?_
 refine T.nil ?_
 refine T.then_normal ?_
 refine T.seq ?_
 refine T.region ?_
 refine T.build .list (vals := [(0, .int .i64 2), (1, .int .i64 2), (3, .int .i64 7)]) (cells := #[.int .i64 2, .int .i64 2, .slice none 0 0, .int .i64 7]) rfl (wants0 rfl) rfl rfl (run_buildStruct (sizes := [1, 1, 1, 1]) (by kernel_rfl) (by kernel_rfl)) ?_
 refine T.allocS .list rfl (wants0 rfl) rfl (cs := [.int .i64 0, .int .i64 0, .slice none 0 0, .int .i64 0]) rfl (fun b1 => ?_)
 refine T.store .list 0 rfl rfl (wants0 rfl) rfl rfl rfl rfl (Nat.le_of_ble_eq_true rfl) rfl (cs' := [.int .i64 2, .int .i64 2, .slice none 0 0, .int .i64 7]) rfl rfl ?_
 refine T.nil ?_
 refine T.then_normal ?_
 refine T.seq ?_
 refine T.region ?_
 refine T.loadN .list 0 rfl rfl (wants0 rfl) rfl rfl (vs := [.int .i64 2, .int .i64 2, .slice none 0 0, .int .i64 7]) rfl rfl ?_
 refine T.nilRo (Elt.pair E64 (Elt.pair E64 (Elt.slice (Elt.pair E64 (Elt.pair EStr (Elt.pair (Elt.pair EStr (Elt.pair (Elt.slice (Elt.pair EStr (Elt.pair E64 E64))) (Elt.slice (Elt.pair E64 EBool)))) (Elt.pair (Elt.slice (Elt.pair E64 (Elt.pair E64 EStr))) (Elt.pair (Elt.pair E64 (Elt.pair E64 EStr)) (Elt.pair E64 (Elt.pair (Elt.pair E64 (Elt.pair E64 EStr)) (Elt.pair (Elt.pair E64 (Elt.pair E64 EStr)) E64))))))))))) none 0 ?_
 obtain ⟨r1, hg1, hr⟩ := inv_bind hr
 refine T.call .list (wants0 rfl) rfl (run_callF (vs := [_]) rfl Tryd.func12 rfl (by decide) rfl) (fun w hS => entry_Encode.c hB hS (i0a := 0) (a0 := (2, 2, ([] : List (Int × Int × (List (Int × (List UInt8) × ((List UInt8) × (List ((List UInt8) × Int × Int)) × (List (Int × Bool))) × (List (Int × Int × (List UInt8))) × (Int × Int × (List UInt8)) × Int × (Int × Int × (List UInt8)) × (Int × Int × (List UInt8)) × Int)))), 7)) rfl hg1) (fun x1 => ?_)
 refine T.move .list rfl (wants0 rfl) rfl rfl ?_
 refine T.extract .list rfl (wants0 rfl) rfl rfl rfl ?_
 refine T.extract .list rfl (wants0 rfl) rfl rfl rfl ?_
 refine T.assign .list rfl (wants0 rfl) rfl rfl ?_
 refine T.assign .list rfl (wants0 rfl) rfl rfl ?_
 refine T.nil ?_
 refine T.then_normal ?_
 refine T.seq ?_
 refine T.region ?_
 refine T.move .list rfl (wants0 rfl) rfl rfl ?_
 obtain ⟨r2, hg2, hr⟩ := inv_bind hr
 obtain ⟨hc1, hr⟩ := inv_chk hr
 refine T.call .list (wants0 rfl) rfl (run_callF (vs := [_]) rfl Tryd.func11 rfl (by decide) rfl) (fun w hS => (entry_Decode.c (hB.up hS) (St.borrow (ros := [Ro E8 x1.1 x1.2 r1.1]) (Ros.cons (hS.roBf 0 rfl rfl) Ros.nil)) (i0 := 0) rfl hg2).mono fun e w' ⟨x, he, h1⟩ => ⟨x, he, hS.unborrow (post := [Ro (Elt.pair E64 (Elt.pair E64 (Elt.slice (Elt.pair E64 (Elt.pair EStr (Elt.pair (Elt.pair EStr (Elt.pair (Elt.slice (Elt.pair EStr (Elt.pair E64 E64))) (Elt.slice (Elt.pair E64 EBool)))) (Elt.pair (Elt.slice (Elt.pair E64 (Elt.pair E64 EStr))) (Elt.pair (Elt.pair E64 (Elt.pair E64 EStr)) (Elt.pair E64 (Elt.pair (Elt.pair E64 (Elt.pair E64 EStr)) (Elt.pair (Elt.pair E64 (Elt.pair E64 EStr)) E64))))))))))) x.1 x.2 r2.1.2.2.1]) h1 (Frees.cons (Ro.freeNil hc1) Frees.nil)⟩) (fun x2 => ?_)
 refine T.move .list rfl (wants0 rfl) rfl rfl ?_
 refine T.extract .list rfl (wants0 rfl) rfl rfl rfl ?_
 refine T.extract .list rfl (wants0 rfl) rfl rfl rfl ?_
 refine T.allocS .list rfl (wants0 rfl) rfl (cs := [.int .i64 0, .int .i64 0, .slice none 0 0, .int .i64 0]) rfl (fun b2 => ?_)
 refine T.store .list 0 rfl rfl (wants0 rfl) rfl rfl rfl rfl (Nat.le_of_ble_eq_true rfl) rfl (cs' := [.int .i64 r2.1.1, .int .i64 r2.1.2.1, .slice x2.1 r2.1.2.2.1.length x2.2, .int .i64 r2.1.2.2.2]) rfl rfl ?_
 refine T.assign .list rfl (wants0 rfl) rfl rfl ?_
 refine T.nil ?_
 refine T.then_normal ?_
 refine T.seq ?_
 refine T.region ?_
 refine T.move .list rfl (wants0 rfl) rfl rfl ?_
 refine T.lit (E := E8) .list (vals := [(0, .int .u8 0)]) (cells := #[.int .u8 0]) rfl (wants0 rfl) rfl rfl rfl rfl rfl (by kernel_rfl) ([(0 : UInt8)] : List UInt8) rfl (fun _ _ _ _ _ => (Encs.c1 (enc := b8) (h1 := fun _ => rfl) rfl rfl)) (fun b3 => ?_)
 obtain ⟨hc2, hr⟩ := inv_chk hr
 refine T.appBf .list 3 0 rfl rfl rfl rfl rfl (wants0 rfl) rfl rfl rfl rfl rfl rfl hc2 (fun _ _ => rfl) (fun A1 c1 => ?_)
 obtain ⟨r3, hg3, hr⟩ := inv_bind hr
 obtain ⟨hc3, hr⟩ := inv_chk hr
 refine T.call .list (wants0 rfl) rfl (run_callF (vs := [_]) rfl Tryd.func11 rfl (by decide) rfl) (fun w hS => (entry_Decode.c (hB.up hS) (St.borrow (ros := [Ro E8 A1 c1 ((r1.1 ++ (([(0 : UInt8)] : List UInt8))))]) (Ros.cons (hS.roBf 3 rfl rfl) Ros.nil)) (i0 := 0) rfl hg3).mono fun e w' ⟨x, he, h1⟩ => ⟨x, he, hS.unborrow (post := [Ro (Elt.pair E64 (Elt.pair E64 (Elt.slice (Elt.pair E64 (Elt.pair EStr (Elt.pair (Elt.pair EStr (Elt.pair (Elt.slice (Elt.pair EStr (Elt.pair E64 E64))) (Elt.slice (Elt.pair E64 EBool)))) (Elt.pair (Elt.slice (Elt.pair E64 (Elt.pair E64 EStr))) (Elt.pair (Elt.pair E64 (Elt.pair E64 EStr)) (Elt.pair E64 (Elt.pair (Elt.pair E64 (Elt.pair E64 EStr)) (Elt.pair (Elt.pair E64 (Elt.pair E64 EStr)) E64))))))))))) x.1 x.2 r3.1.2.2.1]) h1 (Frees.cons (Ro.freeNil hc3) Frees.nil)⟩) (fun x3 => ?_)
 refine T.move .list rfl (wants0 rfl) rfl rfl ?_
 refine T.extract .list rfl (wants0 rfl) rfl rfl rfl ?_
 refine T.extract .list rfl (wants0 rfl) rfl rfl rfl ?_
 refine T.allocS .list rfl (wants0 rfl) rfl (cs := [.int .i64 0, .int .i64 0, .slice none 0 0, .int .i64 0]) rfl (fun b4 => ?_)
 refine T.store .list 0 rfl rfl (wants0 rfl) rfl rfl rfl rfl (Nat.le_of_ble_eq_true rfl) rfl (cs' := [.int .i64 r3.1.1, .int .i64 r3.1.2.1, .slice x3.1 r3.1.2.2.1.length x3.2, .int .i64 r3.1.2.2.2]) rfl rfl ?_
 refine T.assign .list rfl (wants0 rfl) rfl rfl ?_
 refine T.nil ?_
 refine T.then_normal ?_
 refine T.seq ?_
 refine T.region ?_
 refine T.build .list (vals := []) (cells := #[.int .i64 0, .int .i64 0, .slice none 0 0, .int .i64 0]) rfl (wants0 rfl) rfl rfl (run_buildStruct (sizes := [1, 1, 1, 1]) (by kernel_rfl) (by kernel_rfl)) ?_
 refine T.nilRo (Elt.pair E64 (Elt.pair E64 (Elt.slice (Elt.pair E64 (Elt.pair EStr (Elt.pair (Elt.pair EStr (Elt.pair (Elt.slice (Elt.pair EStr (Elt.pair E64 E64))) (Elt.slice (Elt.pair E64 EBool)))) (Elt.pair (Elt.slice (Elt.pair E64 (Elt.pair E64 EStr))) (Elt.pair (Elt.pair E64 (Elt.pair E64 EStr)) (Elt.pair E64 (Elt.pair (Elt.pair E64 (Elt.pair E64 EStr)) (Elt.pair (Elt.pair E64 (Elt.pair E64 EStr)) E64))))))))))) none 0 ?_
 obtain ⟨r4, hg4, hr⟩ := inv_bind hr
 refine T.call .list (wants0 rfl) rfl (run_callF (vs := [_]) rfl Tryd.func12 rfl (by decide) rfl) (fun w hS => entry_Encode.c hB hS (i0a := 0) (a0 := (0, 0, ([] : List (Int × Int × (List (Int × (List UInt8) × ((List UInt8) × (List ((List UInt8) × Int × Int)) × (List (Int × Bool))) × (List (Int × Int × (List UInt8))) × (Int × Int × (List UInt8)) × Int × (Int × Int × (List UInt8)) × (Int × Int × (List UInt8)) × Int)))), 0)) rfl hg4) (fun x4 => ?_)
 refine T.move .list rfl (wants0 rfl) rfl rfl ?_
 refine T.extract .list rfl (wants0 rfl) rfl rfl rfl ?_
 refine T.extract .list rfl (wants0 rfl) rfl rfl rfl ?_
 refine T.assign .list rfl (wants0 rfl) rfl rfl ?_
 refine T.assign .list rfl (wants0 rfl) rfl rfl ?_
 refine T.nil ?_
 refine T.then_normal ?_
 refine T.seq ?_
 refine T.region ?_
 refine T.build .list (vals := [(0, .int .i64 4), (1, .int .i64 1)]) (cells := #[.int .i64 4, .int .i64 1, .slice none 0 0]) rfl (wants0 rfl) rfl rfl (run_buildStruct (sizes := [1, 1, 1]) (by kernel_rfl) (by kernel_rfl)) ?_
 refine T.nilRo (Elt.slice (Elt.pair E64 (Elt.pair E64 EStr))) none 0 ?_
 obtain ⟨r5, hg5, hr⟩ := inv_bind hr
 refine T.call .list (wants0 rfl) rfl (run_callF (vs := [_]) rfl Tryd.func6 rfl (by decide) rfl) (fun w hS => entry_EncodeReply.c hB hS (i0a := 0) (a0 := (4, 1, ([] : List (List (Int × Int × (List UInt8)))))) rfl hg5) (fun x5 => ?_)
 refine T.move .list rfl (wants0 rfl) rfl rfl ?_
 refine T.extract .list rfl (wants0 rfl) rfl rfl rfl ?_
 refine T.extract .list rfl (wants0 rfl) rfl rfl rfl ?_
 refine T.assign .list rfl (wants0 rfl) rfl rfl ?_
 refine T.assign .list rfl (wants0 rfl) rfl rfl ?_
 refine T.nil ?_
 refine T.then_normal ?_
 refine T.seq ?_
 refine T.region ?_
 refine T.move .list rfl (wants0 rfl) rfl rfl ?_
 refine T.freeze 0 rfl rfl rfl ?_
 obtain ⟨r6, hg6, hr⟩ := inv_bind hr
 refine T.call .list (wants0 rfl) rfl (run_callF (vs := [_]) rfl Tryd.func9 rfl (by decide) rfl) (fun w hS => entry_DecodeReply.c hB hS (i0 := 0) rfl hg6) (fun x6 => ?_)
 refine T.move .list rfl (wants0 rfl) rfl rfl ?_
 refine T.extract .list rfl (wants0 rfl) rfl rfl rfl ?_
 refine T.extract .list rfl (wants0 rfl) rfl rfl rfl ?_
 refine T.allocS .list rfl (wants0 rfl) rfl (cs := [.int .i64 0, .int .i64 0, .slice none 0 0]) rfl (fun b5 => ?_)
 refine T.store .list 0 rfl rfl (wants0 rfl) rfl rfl rfl rfl (Nat.le_of_ble_eq_true rfl) rfl (cs' := [.int .i64 r6.1.1, .int .i64 r6.1.2.1, .slice x6.1 r6.1.2.2.length x6.2]) rfl rfl ?_
 refine T.assign .list rfl (wants0 rfl) rfl rfl ?_
 refine T.nil ?_
 refine T.then_normal ?_
 refine T.seq ?_
 refine T.region ?_
 refine T.move .list rfl (wants0 rfl) rfl rfl ?_
 refine T.bin .list rfl (wants0 rfl) rfl rfl rfl rfl ?_
 refine T.move .list rfl (wants0 rfl) rfl rfl ?_
 refine T.bool (b := (decide (r1.2 = 0))) (fun hb1 => ?_) (fun hb1 => ?_)
 ·replace hr := inv_posB hb1 hr
  refine T.move .list rfl (wants1 rfl rfl rfl hb1) rfl rfl ?_
  refine T.bin .list rfl (wants1 rfl rfl rfl hb1) rfl rfl rfl rfl ?_
  refine T.pickT .list rfl (wants0 rfl) rfl rfl hb1 rfl ?_
  refine T.move .list rfl (wants0 rfl) rfl rfl ?_
  refine T.bool (b := (decide (r2.2 = 0))) (fun hb2 => ?_) (fun hb2 => ?_)
  ·replace hr := inv_posB hb2 hr
   refine T.move .list rfl (wants1 rfl rfl rfl hb2) rfl rfl ?_
   refine T.lenSlice .list rfl (wants1 rfl rfl rfl hb2) rfl rfl ?_
   refine T.bin .list rfl (wants1 rfl rfl rfl hb2) rfl rfl rfl rfl ?_
   refine T.pickT .list rfl (wants0 rfl) rfl rfl hb2 rfl ?_
   refine T.move .list rfl (wants0 rfl) rfl rfl ?_
   refine T.bool (b := (decide ((0 : Int) < ((r1.1.length : Int))))) (fun hb3 => ?_) (fun hb3 => ?_)
   ·replace hr := inv_posB hb3 hr
    refine T.loadN .list 13 rfl rfl (wants1 rfl rfl rfl hb3) rfl rfl (vs := [.int .i64 2, .int .i64 2, .slice none 0 0, .int .i64 7]) rfl rfl ?_
    refine T.loadN .list 9 rfl rfl (wants1 rfl rfl rfl hb3) rfl rfl (vs := [.int .i64 r2.1.1, .int .i64 r2.1.2.1, .slice x2.1 r2.1.2.2.1.length x2.2, .int .i64 r2.1.2.2.2]) rfl rfl ?_
    refine T.nilRo (Elt.pair E64 (Elt.pair E64 (Elt.slice (Elt.pair E64 (Elt.pair EStr (Elt.pair (Elt.pair EStr (Elt.pair (Elt.slice (Elt.pair EStr (Elt.pair E64 E64))) (Elt.slice (Elt.pair E64 EBool)))) (Elt.pair (Elt.slice (Elt.pair E64 (Elt.pair E64 EStr))) (Elt.pair (Elt.pair E64 (Elt.pair E64 EStr)) (Elt.pair E64 (Elt.pair (Elt.pair E64 (Elt.pair E64 EStr)) (Elt.pair (Elt.pair E64 (Elt.pair E64 EStr)) E64))))))))))) none 0 ?_
    obtain ⟨r7, hg7, hr⟩ := inv_bind hr
    refine T.call .list (wants1 rfl rfl rfl hb3) rfl (run_callF (vs := [_, _]) rfl Tryd.func17 rfl (by decide) rfl) (fun w hS => ref17_Same.c hB hS (i0a := 0) (i1a := 11) (a0 := (2, 2, ([] : List (Int × Int × (List (Int × (List UInt8) × ((List UInt8) × (List ((List UInt8) × Int × Int)) × (List (Int × Bool))) × (List (Int × Int × (List UInt8))) × (Int × Int × (List UInt8)) × Int × (Int × Int × (List UInt8)) × (Int × Int × (List UInt8)) × Int)))), 7)) (a1 := r2.1) rfl rfl hg7) (fun x7 => ?_)
    refine T.pickT .list rfl (wants0 rfl) rfl rfl hb3 rfl ?_
    refine T.move .list rfl (wants0 rfl) rfl rfl ?_
    refine T.bool (b := r7) (fun hb4 => ?_) (fun hb4 => ?_)
    ·replace hr := inv_posB hb4 hr
     refine T.move .list rfl (wants1 rfl rfl rfl hb4) rfl rfl ?_
     refine T.bin .list rfl (wants1 rfl rfl rfl hb4) rfl rfl rfl rfl ?_
     refine T.pickT .list rfl (wants0 rfl) rfl rfl hb4 rfl ?_
     refine T.move .list rfl (wants0 rfl) rfl rfl ?_
     refine T.bool (b := (decide (r3.2 = 11))) (fun hb5 => ?_) (fun hb5 => ?_)
     ·replace hr := inv_posB hb5 hr
      refine T.move .list rfl (wants1 rfl rfl rfl hb5) rfl rfl ?_
      refine T.bin .list rfl (wants1 rfl rfl rfl hb5) rfl rfl rfl rfl ?_
      refine T.pickT .list rfl (wants0 rfl) rfl rfl hb5 rfl ?_
      refine T.move .list rfl (wants0 rfl) rfl rfl ?_
      refine T.bool (b := (decide (r4.2 = 1))) (fun hb6 => ?_) (fun hb6 => ?_)
      ·replace hr := inv_posB hb6 hr
       refine T.move .list rfl (wants1 rfl rfl rfl hb6) rfl rfl ?_
       refine T.bin .list rfl (wants1 rfl rfl rfl hb6) rfl rfl rfl rfl ?_
       refine T.pickT .list rfl (wants0 rfl) rfl rfl hb6 rfl ?_
       refine T.move .list rfl (wants0 rfl) rfl rfl ?_
       refine T.bool (b := (decide (r5.2 = 0))) (fun hb7 => ?_) (fun hb7 => ?_)
       ·replace hr := inv_posB hb7 hr
        refine T.move .list rfl (wants1 rfl rfl rfl hb7) rfl rfl ?_
        refine T.bin .list rfl (wants1 rfl rfl rfl hb7) rfl rfl rfl rfl ?_
        refine T.pickT .list rfl (wants0 rfl) rfl rfl hb7 rfl ?_
        refine T.move .list rfl (wants0 rfl) rfl rfl ?_
        refine T.bool (b := (decide (r6.2 = 0))) (fun hb8 => ?_) (fun hb8 => ?_)
        ·replace hr := inv_posB hb8 hr
         refine T.field .list rfl (wants1 rfl rfl rfl hb8) rfl rfl ?_
         refine T.load .list 1 rfl rfl (wants1 rfl rfl rfl hb8) rfl rfl rfl ?_
         refine T.bin .list rfl (wants1 rfl rfl rfl hb8) rfl rfl rfl rfl ?_
         refine T.pickT .list rfl (wants0 rfl) rfl rfl hb8 rfl ?_
         refine T.move .list rfl (wants0 rfl) rfl rfl ?_
         refine T.bool (b := (decide (r6.1.1 = 4))) (fun hb9 => ?_) (fun hb9 => ?_)
         ·replace hr := inv_posB hb9 hr
          refine T.field .list rfl (wants1 rfl rfl rfl hb9) rfl rfl ?_
          refine T.load .list 1 rfl rfl (wants1 rfl rfl rfl hb9) rfl rfl rfl ?_
          refine T.bin .list rfl (wants1 rfl rfl rfl hb9) rfl rfl rfl rfl ?_
          refine T.pickT .list rfl (wants0 rfl) rfl rfl hb9 rfl ?_
          refine T.assign .list rfl (wants0 rfl) rfl rfl ?_
          refine T.nil ?_
          refine T.then_normal ?_
          refine T.ret ?_
          obtain rfl := inv_some hr
          refine T.pick [] 15 rfl rfl nla rfl ?_
          refine T.ret1 rfl rfl (fun w hS => ⟨(), rfl, hS⟩)
         ·replace hr := inv_negB hb9 hr
          refine T.leave .list (wantsNot rfl rfl rfl hb9) rfl ?_
          refine T.leave .list (wantsNot rfl rfl rfl hb9) rfl ?_
          refine T.leave .list (wantsNot rfl rfl rfl hb9) rfl ?_
          refine T.pickF .list rfl (wants0 rfl) rfl rfl hb9 rfl ?_
          refine T.assign .list rfl (wants0 rfl) rfl rfl ?_
          refine T.nil ?_
          refine T.then_normal ?_
          refine T.ret ?_
          obtain rfl := inv_some hr
          refine T.pick [] 15 rfl rfl nla rfl ?_
          refine T.ret1 rfl rfl (fun w hS => ⟨(), rfl, hS⟩)
        ·replace hr := inv_negB hb8 hr
         refine T.leave .list (wantsNot rfl rfl rfl hb8) rfl ?_
         refine T.leave .list (wantsNot rfl rfl rfl hb8) rfl ?_
         refine T.leave .list (wantsNot rfl rfl rfl hb8) rfl ?_
         refine T.pickF .list rfl (wants0 rfl) rfl rfl hb8 rfl ?_
         refine T.move .list rfl (wants0 rfl) rfl rfl ?_
         refine T.leave .list (wantsNot rfl rfl rfl rfl) rfl ?_
         refine T.leave .list (wantsNot rfl rfl rfl rfl) rfl ?_
         refine T.leave .list (wantsNot rfl rfl rfl rfl) rfl ?_
         refine T.pickF .list rfl (wants0 rfl) rfl rfl rfl rfl ?_
         refine T.assign .list rfl (wants0 rfl) rfl rfl ?_
         refine T.nil ?_
         refine T.then_normal ?_
         refine T.ret ?_
         obtain rfl := inv_some hr
         refine T.pick [] 15 rfl rfl nla rfl ?_
         refine T.ret1 rfl rfl (fun w hS => ⟨(), rfl, hS⟩)
       ·replace hr := inv_negB hb7 hr
        refine T.leave .list (wantsNot rfl rfl rfl hb7) rfl ?_
        refine T.leave .list (wantsNot rfl rfl rfl hb7) rfl ?_
        refine T.pickF .list rfl (wants0 rfl) rfl rfl hb7 rfl ?_
        refine T.move .list rfl (wants0 rfl) rfl rfl ?_
        refine T.leave .list (wantsNot rfl rfl rfl rfl) rfl ?_
        refine T.leave .list (wantsNot rfl rfl rfl rfl) rfl ?_
        refine T.leave .list (wantsNot rfl rfl rfl rfl) rfl ?_
        refine T.pickF .list rfl (wants0 rfl) rfl rfl rfl rfl ?_
        refine T.move .list rfl (wants0 rfl) rfl rfl ?_
        refine T.leave .list (wantsNot rfl rfl rfl rfl) rfl ?_
        refine T.leave .list (wantsNot rfl rfl rfl rfl) rfl ?_
        refine T.leave .list (wantsNot rfl rfl rfl rfl) rfl ?_
        refine T.pickF .list rfl (wants0 rfl) rfl rfl rfl rfl ?_
        refine T.assign .list rfl (wants0 rfl) rfl rfl ?_
        refine T.nil ?_
        refine T.then_normal ?_
        refine T.ret ?_
        obtain rfl := inv_some hr
        refine T.pick [] 15 rfl rfl nla rfl ?_
        refine T.ret1 rfl rfl (fun w hS => ⟨(), rfl, hS⟩)
      ·replace hr := inv_negB hb6 hr
       refine T.leave .list (wantsNot rfl rfl rfl hb6) rfl ?_
       refine T.leave .list (wantsNot rfl rfl rfl hb6) rfl ?_
       refine T.pickF .list rfl (wants0 rfl) rfl rfl hb6 rfl ?_
       refine T.move .list rfl (wants0 rfl) rfl rfl ?_
       refine T.leave .list (wantsNot rfl rfl rfl rfl) rfl ?_
       refine T.leave .list (wantsNot rfl rfl rfl rfl) rfl ?_
       refine T.pickF .list rfl (wants0 rfl) rfl rfl rfl rfl ?_
       refine T.move .list rfl (wants0 rfl) rfl rfl ?_
       refine T.leave .list (wantsNot rfl rfl rfl rfl) rfl ?_
       refine T.leave .list (wantsNot rfl rfl rfl rfl) rfl ?_
       refine T.leave .list (wantsNot rfl rfl rfl rfl) rfl ?_
       refine T.pickF .list rfl (wants0 rfl) rfl rfl rfl rfl ?_
       refine T.move .list rfl (wants0 rfl) rfl rfl ?_
       refine T.leave .list (wantsNot rfl rfl rfl rfl) rfl ?_
       refine T.leave .list (wantsNot rfl rfl rfl rfl) rfl ?_
       refine T.leave .list (wantsNot rfl rfl rfl rfl) rfl ?_
       refine T.pickF .list rfl (wants0 rfl) rfl rfl rfl rfl ?_
       refine T.assign .list rfl (wants0 rfl) rfl rfl ?_
       refine T.nil ?_
       refine T.then_normal ?_
       refine T.ret ?_
       obtain rfl := inv_some hr
       refine T.pick [] 15 rfl rfl nla rfl ?_
       refine T.ret1 rfl rfl (fun w hS => ⟨(), rfl, hS⟩)
     ·replace hr := inv_negB hb5 hr
      refine T.leave .list (wantsNot rfl rfl rfl hb5) rfl ?_
      refine T.leave .list (wantsNot rfl rfl rfl hb5) rfl ?_
      refine T.pickF .list rfl (wants0 rfl) rfl rfl hb5 rfl ?_
      refine T.move .list rfl (wants0 rfl) rfl rfl ?_
      refine T.leave .list (wantsNot rfl rfl rfl rfl) rfl ?_
      refine T.leave .list (wantsNot rfl rfl rfl rfl) rfl ?_
      refine T.pickF .list rfl (wants0 rfl) rfl rfl rfl rfl ?_
      refine T.move .list rfl (wants0 rfl) rfl rfl ?_
      refine T.leave .list (wantsNot rfl rfl rfl rfl) rfl ?_
      refine T.leave .list (wantsNot rfl rfl rfl rfl) rfl ?_
      refine T.pickF .list rfl (wants0 rfl) rfl rfl rfl rfl ?_
      refine T.move .list rfl (wants0 rfl) rfl rfl ?_
      refine T.leave .list (wantsNot rfl rfl rfl rfl) rfl ?_
      refine T.leave .list (wantsNot rfl rfl rfl rfl) rfl ?_
      refine T.leave .list (wantsNot rfl rfl rfl rfl) rfl ?_
      refine T.pickF .list rfl (wants0 rfl) rfl rfl rfl rfl ?_
      refine T.move .list rfl (wants0 rfl) rfl rfl ?_
      refine T.leave .list (wantsNot rfl rfl rfl rfl) rfl ?_
      refine T.leave .list (wantsNot rfl rfl rfl rfl) rfl ?_
      refine T.leave .list (wantsNot rfl rfl rfl rfl) rfl ?_
      refine T.pickF .list rfl (wants0 rfl) rfl rfl rfl rfl ?_
      refine T.assign .list rfl (wants0 rfl) rfl rfl ?_
      refine T.nil ?_
      refine T.then_normal ?_
      refine T.ret ?_
      obtain rfl := inv_some hr
      refine T.pick [] 15 rfl rfl nla rfl ?_
      refine T.ret1 rfl rfl (fun w hS => ⟨(), rfl, hS⟩)
    ·replace hr := inv_negB hb4 hr
     refine T.leave .list (wantsNot rfl rfl rfl hb4) rfl ?_
     refine T.leave .list (wantsNot rfl rfl rfl hb4) rfl ?_
     refine T.pickF .list rfl (wants0 rfl) rfl rfl hb4 rfl ?_
     refine T.move .list rfl (wants0 rfl) rfl rfl ?_
     refine T.leave .list (wantsNot rfl rfl rfl rfl) rfl ?_
     refine T.leave .list (wantsNot rfl rfl rfl rfl) rfl ?_
     refine T.pickF .list rfl (wants0 rfl) rfl rfl rfl rfl ?_
     refine T.move .list rfl (wants0 rfl) rfl rfl ?_
     refine T.leave .list (wantsNot rfl rfl rfl rfl) rfl ?_
     refine T.leave .list (wantsNot rfl rfl rfl rfl) rfl ?_
     refine T.pickF .list rfl (wants0 rfl) rfl rfl rfl rfl ?_
     refine T.move .list rfl (wants0 rfl) rfl rfl ?_
     refine T.leave .list (wantsNot rfl rfl rfl rfl) rfl ?_
     refine T.leave .list (wantsNot rfl rfl rfl rfl) rfl ?_
     refine T.pickF .list rfl (wants0 rfl) rfl rfl rfl rfl ?_
     refine T.move .list rfl (wants0 rfl) rfl rfl ?_
     refine T.leave .list (wantsNot rfl rfl rfl rfl) rfl ?_
     refine T.leave .list (wantsNot rfl rfl rfl rfl) rfl ?_
     refine T.leave .list (wantsNot rfl rfl rfl rfl) rfl ?_
     refine T.pickF .list rfl (wants0 rfl) rfl rfl rfl rfl ?_
     refine T.move .list rfl (wants0 rfl) rfl rfl ?_
     refine T.leave .list (wantsNot rfl rfl rfl rfl) rfl ?_
     refine T.leave .list (wantsNot rfl rfl rfl rfl) rfl ?_
     refine T.leave .list (wantsNot rfl rfl rfl rfl) rfl ?_
     refine T.pickF .list rfl (wants0 rfl) rfl rfl rfl rfl ?_
     refine T.assign .list rfl (wants0 rfl) rfl rfl ?_
     refine T.nil ?_
     refine T.then_normal ?_
     refine T.ret ?_
     obtain rfl := inv_some hr
     refine T.pick [] 15 rfl rfl nla rfl ?_
     refine T.ret1 rfl rfl (fun w hS => ⟨(), rfl, hS⟩)
   ·replace hr := inv_negB hb3 hr
    refine T.leave .list (wantsNot rfl rfl rfl hb3) rfl ?_
    refine T.leave .list (wantsNot rfl rfl rfl hb3) rfl ?_
    refine T.leave .list (wantsNot rfl rfl rfl hb3) rfl ?_
    refine T.pickF .list rfl (wants0 rfl) rfl rfl hb3 rfl ?_
    refine T.move .list rfl (wants0 rfl) rfl rfl ?_
    refine T.leave .list (wantsNot rfl rfl rfl rfl) rfl ?_
    refine T.leave .list (wantsNot rfl rfl rfl rfl) rfl ?_
    refine T.pickF .list rfl (wants0 rfl) rfl rfl rfl rfl ?_
    refine T.move .list rfl (wants0 rfl) rfl rfl ?_
    refine T.leave .list (wantsNot rfl rfl rfl rfl) rfl ?_
    refine T.leave .list (wantsNot rfl rfl rfl rfl) rfl ?_
    refine T.pickF .list rfl (wants0 rfl) rfl rfl rfl rfl ?_
    refine T.move .list rfl (wants0 rfl) rfl rfl ?_
    refine T.leave .list (wantsNot rfl rfl rfl rfl) rfl ?_
    refine T.leave .list (wantsNot rfl rfl rfl rfl) rfl ?_
    refine T.pickF .list rfl (wants0 rfl) rfl rfl rfl rfl ?_
    refine T.move .list rfl (wants0 rfl) rfl rfl ?_
    refine T.leave .list (wantsNot rfl rfl rfl rfl) rfl ?_
    refine T.leave .list (wantsNot rfl rfl rfl rfl) rfl ?_
    refine T.pickF .list rfl (wants0 rfl) rfl rfl rfl rfl ?_
    refine T.move .list rfl (wants0 rfl) rfl rfl ?_
    refine T.leave .list (wantsNot rfl rfl rfl rfl) rfl ?_
    refine T.leave .list (wantsNot rfl rfl rfl rfl) rfl ?_
    refine T.leave .list (wantsNot rfl rfl rfl rfl) rfl ?_
    refine T.pickF .list rfl (wants0 rfl) rfl rfl rfl rfl ?_
    refine T.move .list rfl (wants0 rfl) rfl rfl ?_
    refine T.leave .list (wantsNot rfl rfl rfl rfl) rfl ?_
    refine T.leave .list (wantsNot rfl rfl rfl rfl) rfl ?_
    refine T.leave .list (wantsNot rfl rfl rfl rfl) rfl ?_
    refine T.pickF .list rfl (wants0 rfl) rfl rfl rfl rfl ?_
    refine T.assign .list rfl (wants0 rfl) rfl rfl ?_
    refine T.nil ?_
    refine T.then_normal ?_
    refine T.ret ?_
    obtain rfl := inv_some hr
    refine T.pick [] 14 rfl rfl nla rfl ?_
    refine T.ret1 rfl rfl (fun w hS => ⟨(), rfl, hS⟩)
  ·replace hr := inv_negB hb2 hr
   refine T.leave .list (wantsNot rfl rfl rfl hb2) rfl ?_
   refine T.leave .list (wantsNot rfl rfl rfl hb2) rfl ?_
   refine T.leave .list (wantsNot rfl rfl rfl hb2) rfl ?_
   refine T.pickF .list rfl (wants0 rfl) rfl rfl hb2 rfl ?_
   refine T.move .list rfl (wants0 rfl) rfl rfl ?_
   refine T.leave .list (wantsNot rfl rfl rfl rfl) rfl ?_
   refine T.leave .list (wantsNot rfl rfl rfl rfl) rfl ?_
   refine T.leave .list (wantsNot rfl rfl rfl rfl) rfl ?_
   refine T.pickF .list rfl (wants0 rfl) rfl rfl rfl rfl ?_
   refine T.move .list rfl (wants0 rfl) rfl rfl ?_
   refine T.leave .list (wantsNot rfl rfl rfl rfl) rfl ?_
   refine T.leave .list (wantsNot rfl rfl rfl rfl) rfl ?_
   refine T.pickF .list rfl (wants0 rfl) rfl rfl rfl rfl ?_
   refine T.move .list rfl (wants0 rfl) rfl rfl ?_
   refine T.leave .list (wantsNot rfl rfl rfl rfl) rfl ?_
   refine T.leave .list (wantsNot rfl rfl rfl rfl) rfl ?_
   refine T.pickF .list rfl (wants0 rfl) rfl rfl rfl rfl ?_
   refine T.move .list rfl (wants0 rfl) rfl rfl ?_
   refine T.leave .list (wantsNot rfl rfl rfl rfl) rfl ?_
   refine T.leave .list (wantsNot rfl rfl rfl rfl) rfl ?_
   refine T.pickF .list rfl (wants0 rfl) rfl rfl rfl rfl ?_
   refine T.move .list rfl (wants0 rfl) rfl rfl ?_
   refine T.leave .list (wantsNot rfl rfl rfl rfl) rfl ?_
   refine T.leave .list (wantsNot rfl rfl rfl rfl) rfl ?_
   refine T.pickF .list rfl (wants0 rfl) rfl rfl rfl rfl ?_
   refine T.move .list rfl (wants0 rfl) rfl rfl ?_
   refine T.leave .list (wantsNot rfl rfl rfl rfl) rfl ?_
   refine T.leave .list (wantsNot rfl rfl rfl rfl) rfl ?_
   refine T.leave .list (wantsNot rfl rfl rfl rfl) rfl ?_
   refine T.pickF .list rfl (wants0 rfl) rfl rfl rfl rfl ?_
   refine T.move .list rfl (wants0 rfl) rfl rfl ?_
   refine T.leave .list (wantsNot rfl rfl rfl rfl) rfl ?_
   refine T.leave .list (wantsNot rfl rfl rfl rfl) rfl ?_
   refine T.leave .list (wantsNot rfl rfl rfl rfl) rfl ?_
   refine T.pickF .list rfl (wants0 rfl) rfl rfl rfl rfl ?_
   refine T.assign .list rfl (wants0 rfl) rfl rfl ?_
   refine T.nil ?_
   refine T.then_normal ?_
   refine T.ret ?_
   obtain rfl := inv_some hr
   refine T.pick [] 14 rfl rfl nla rfl ?_
   refine T.ret1 rfl rfl (fun w hS => ⟨(), rfl, hS⟩)
 ·replace hr := inv_negB hb1 hr
  refine T.leave .list (wantsNot rfl rfl rfl hb1) rfl ?_
  refine T.leave .list (wantsNot rfl rfl rfl hb1) rfl ?_
  refine T.pickF .list rfl (wants0 rfl) rfl rfl hb1 rfl ?_
  refine T.move .list rfl (wants0 rfl) rfl rfl ?_
  refine T.leave .list (wantsNot rfl rfl rfl rfl) rfl ?_
  refine T.leave .list (wantsNot rfl rfl rfl rfl) rfl ?_
  refine T.leave .list (wantsNot rfl rfl rfl rfl) rfl ?_
  refine T.pickF .list rfl (wants0 rfl) rfl rfl rfl rfl ?_
  refine T.move .list rfl (wants0 rfl) rfl rfl ?_
  refine T.leave .list (wantsNot rfl rfl rfl rfl) rfl ?_
  refine T.leave .list (wantsNot rfl rfl rfl rfl) rfl ?_
  refine T.leave .list (wantsNot rfl rfl rfl rfl) rfl ?_
  refine T.pickF .list rfl (wants0 rfl) rfl rfl rfl rfl ?_
  refine T.move .list rfl (wants0 rfl) rfl rfl ?_
  refine T.leave .list (wantsNot rfl rfl rfl rfl) rfl ?_
  refine T.leave .list (wantsNot rfl rfl rfl rfl) rfl ?_
  refine T.pickF .list rfl (wants0 rfl) rfl rfl rfl rfl ?_
  refine T.move .list rfl (wants0 rfl) rfl rfl ?_
  refine T.leave .list (wantsNot rfl rfl rfl rfl) rfl ?_
  refine T.leave .list (wantsNot rfl rfl rfl rfl) rfl ?_
  refine T.pickF .list rfl (wants0 rfl) rfl rfl rfl rfl ?_
  refine T.move .list rfl (wants0 rfl) rfl rfl ?_
  refine T.leave .list (wantsNot rfl rfl rfl rfl) rfl ?_
  refine T.leave .list (wantsNot rfl rfl rfl rfl) rfl ?_
  refine T.pickF .list rfl (wants0 rfl) rfl rfl rfl rfl ?_
  refine T.move .list rfl (wants0 rfl) rfl rfl ?_
  refine T.leave .list (wantsNot rfl rfl rfl rfl) rfl ?_
  refine T.leave .list (wantsNot rfl rfl rfl rfl) rfl ?_
  refine T.pickF .list rfl (wants0 rfl) rfl rfl rfl rfl ?_
  refine T.move .list rfl (wants0 rfl) rfl rfl ?_
  refine T.leave .list (wantsNot rfl rfl rfl rfl) rfl ?_
  refine T.leave .list (wantsNot rfl rfl rfl rfl) rfl ?_
  refine T.leave .list (wantsNot rfl rfl rfl rfl) rfl ?_
  refine T.pickF .list rfl (wants0 rfl) rfl rfl rfl rfl ?_
  refine T.move .list rfl (wants0 rfl) rfl rfl ?_
  refine T.leave .list (wantsNot rfl rfl rfl rfl) rfl ?_
  refine T.leave .list (wantsNot rfl rfl rfl rfl) rfl ?_
  refine T.leave .list (wantsNot rfl rfl rfl rfl) rfl ?_
  refine T.pickF .list rfl (wants0 rfl) rfl rfl rfl rfl ?_
  refine T.assign .list rfl (wants0 rfl) rfl rfl ?_
  refine T.nil ?_
  refine T.then_normal ?_
  refine T.ret ?_
  obtain rfl := inv_some hr
  refine T.pick [] 14 rfl rfl nla rfl ?_
  refine T.ret1 rfl rfl (fun w hS => ⟨(), rfl, hS⟩)

noncomputable def law17_EntryReplies.k1 (r2 : Bool) (r1 : List UInt8 × Int) (a0 : Int × Int × (List (List (Int × Int × (List UInt8))))) (s1 : Bool) : Option Bool :=
  (if s1 = true then some false else (if ((!r2)) = true then some true else (entry_DecodeReply.impl r1.1).bind fun r3 => (if ((decide (r3.2 = 0))) = true then (ref16_Same.impl r3.1 a0).bind fun r4 => (if r4 = true then some (decide ((((r1.1.length : Int))) ≤ 1790)) else some false) else some false)))
noncomputable def law17_EntryReplies.impl (a0 : Int × Int × (List (List (Int × Int × (List UInt8))))) : Option Bool :=
  (entry_EncodeReply.impl a0).bind fun r1 => (ref17_ReplyRight.impl a0).bind fun r2 => (law17_told.impl ).bind fun r5 => (if r5 = true then (if ((decide ((decide (r1.2 = 0)) = r2))) = true then (if r2 = true then law17_EntryReplies.k1 r2 r1 a0 false else (if ((decide (r1.2 = 1))) = true then law17_EntryReplies.k1 r2 r1 a0 (decide ((0 : Int) < ((r1.1.length : Int)))) else law17_EntryReplies.k1 r2 r1 a0 true)) else law17_EntryReplies.k1 r2 r1 a0 true) else law17_EntryReplies.k1 r2 r1 a0 true)
set_option maxRecDepth 100000 in
set_option maxHeartbeats 4000000 in
theorem law17_EntryReplies.c {B : World} {hs : List MP} {w : World} {a0 : Int × Int × (List (List (Int × Int × (List UInt8))))} {i0a c0a : Nat} {A0a : Option Addr} (hB : Base B) (hS : St B hs w) (h0a : (hs)[i0a]? = some (Ro (Elt.slice (Elt.pair E64 (Elt.pair E64 EStr))) A0a c0a a0.2.2)) {r : Bool} (hr : law17_EntryReplies.impl a0 = some r) :
    Calls Tryd.prog 3 #[.agg #[.int .i64 a0.1, .int .i64 a0.2.1, .slice A0a a0.2.2.length c0a]] w fun e w' => ∃ x : Unit, e = .returned (.bool r) ∧ St B hs w' := by
 unfold law17_EntryReplies.impl at hr
 refine calls_T Tryd.func3 rfl rfl rfl hS ?_
 refine T.front i0a h0a ?_
 refine T.seq ?_
 refine T.region ?_
 refine T.boxS .list rfl (wants0 rfl) rfl rfl (cs := [.int .i64 a0.1, .int .i64 a0.2.1, .slice A0a a0.2.2.length c0a]) rfl (fun b1 => ?_)
 refine T.assign .list rfl (wants0 rfl) rfl rfl ?_
 refine T.nil ?_
 refine T.then_normal ?_
 refine T.seq ?_
 refine T.region ?_
 refine T.loadN .list 0 rfl rfl (wants0 rfl) rfl rfl (vs := [.int .i64 a0.1, .int .i64 a0.2.1, .slice A0a a0.2.2.length c0a]) rfl rfl ?_
 obtain ⟨r1, hg1, hr⟩ := inv_bind hr
 refine T.call .list (wants0 rfl) rfl (run_callF (vs := [_]) rfl Tryd.func6 rfl (by decide) rfl) (fun w hS => entry_EncodeReply.c hB hS (i0a := 1) (a0 := a0) rfl hg1) (fun x1 => ?_)
 refine T.move .list rfl (wants0 rfl) rfl rfl ?_
 refine T.extract .list rfl (wants0 rfl) rfl rfl rfl ?_
 refine T.extract .list rfl (wants0 rfl) rfl rfl rfl ?_
 refine T.assign .list rfl (wants0 rfl) rfl rfl ?_
 refine T.assign .list rfl (wants0 rfl) rfl rfl ?_
 refine T.nil ?_
 refine T.then_normal ?_
 refine T.seq ?_
 refine T.region ?_
 refine T.loadN .list 1 rfl rfl (wants0 rfl) rfl rfl (vs := [.int .i64 a0.1, .int .i64 a0.2.1, .slice A0a a0.2.2.length c0a]) rfl rfl ?_
 obtain ⟨r2, hg2, hr⟩ := inv_bind hr
 refine T.call .list (wants0 rfl) rfl (run_callF (vs := [_]) rfl Tryd.func7 rfl (by decide) rfl) (fun w hS => ref17_ReplyRight.c hB hS (i0a := 2) (a0 := a0) rfl hg2) (fun x2 => ?_)
 refine T.assign .list rfl (wants0 rfl) rfl rfl ?_
 refine T.nil ?_
 refine T.then_normal ?_
 refine T.seq ?_
 refine T.seqJ (fun (s1 : Bool) (x3 : Unit) => [(1, .pointer (some ⟨b1, 0, none⟩)), (3, .slice x1.1 r1.1.length x1.2), (5, .bool r2), (35, .bool s1)]) (fun s1 x3 => Cl b1 25 [.int .i64 a0.1, .int .i64 a0.2.1, .slice A0a a0.2.2.length c0a] :: Ro (Elt.slice (Elt.pair E64 (Elt.pair E64 EStr))) A0a c0a a0.2.2 :: Bf E8 5 x1.1 x1.2 r1.1 :: hs) (fun s1 => law17_EntryReplies.k1 r2 r1 a0 s1 = some r) (fun s1 x3 hk1 => ?_) (fun J1 => ?_)
 ·unfold law17_EntryReplies.k1 at hk1
  refine T.cond rfl (fun hb1 => ?_) (fun hb1 => ?_)
  ·replace hk1 := inv_posB hb1 hk1
   refine T.seq ?_
   refine T.region ?_
   refine T.assign .list rfl (wants0 rfl) rfl rfl ?_
   refine T.nil ?_
   refine T.then_normal ?_
   refine T.ret ?_
   refine T.then_ret ?_
   obtain rfl := inv_some hk1
   refine T.pick [] 3 rfl rfl nla rfl ?_
   refine T.ret1 rfl rfl (fun w hS => ⟨(), rfl, hS⟩)
  ·replace hk1 := inv_negB hb1 hk1
   refine T.skip ?_
   refine T.then_normal ?_
   refine T.seq ?_
   refine T.seq ?_
   refine T.region ?_
   refine T.move .list rfl (wants0 rfl) rfl rfl ?_
   refine T.not .list rfl (wants0 rfl) rfl rfl ?_
   refine T.nil ?_
   refine T.then_normal ?_
   refine T.cond rfl (fun hb2 => ?_) (fun hb2 => ?_)
   ·replace hk1 := inv_posB hb2 hk1
    refine T.seq ?_
    refine T.region ?_
    refine T.assign .list rfl (wants0 rfl) rfl rfl ?_
    refine T.nil ?_
    refine T.then_normal ?_
    refine T.ret ?_
    refine T.then_ret ?_
    obtain rfl := inv_some hk1
    refine T.pick [] 3 rfl rfl nla rfl ?_
    refine T.ret1 rfl rfl (fun w hS => ⟨(), rfl, hS⟩)
   ·replace hk1 := inv_negB hb2 hk1
    refine T.skip ?_
    refine T.then_normal ?_
    refine T.seq ?_
    refine T.region ?_
    refine T.move .list rfl (wants0 rfl) rfl rfl ?_
    refine T.freeze 2 rfl rfl rfl ?_
    obtain ⟨r3, hg3, hk1⟩ := inv_bind hk1
    refine T.call .list (wants0 rfl) rfl (run_callF (vs := [_]) rfl Tryd.func9 rfl (by decide) rfl) (fun w hS => entry_DecodeReply.c hB hS (i0 := 2) rfl hg3) (fun x4 => ?_)
    refine T.move .list rfl (wants0 rfl) rfl rfl ?_
    refine T.extract .list rfl (wants0 rfl) rfl rfl rfl ?_
    refine T.extract .list rfl (wants0 rfl) rfl rfl rfl ?_
    refine T.allocS .list rfl (wants0 rfl) rfl (cs := [.int .i64 0, .int .i64 0, .slice none 0 0]) rfl (fun b2 => ?_)
    refine T.store .list 0 rfl rfl (wants0 rfl) rfl rfl rfl rfl (Nat.le_of_ble_eq_true rfl) rfl (cs' := [.int .i64 r3.1.1, .int .i64 r3.1.2.1, .slice x4.1 r3.1.2.2.length x4.2]) rfl rfl ?_
    refine T.assign .list rfl (wants0 rfl) rfl rfl ?_
    refine T.nil ?_
    refine T.then_normal ?_
    refine T.seq ?_
    refine T.region ?_
    refine T.move .list rfl (wants0 rfl) rfl rfl ?_
    refine T.bin .list rfl (wants0 rfl) rfl rfl rfl rfl ?_
    refine T.move .list rfl (wants0 rfl) rfl rfl ?_
    refine T.bool (b := (decide (r3.2 = 0))) (fun hb3 => ?_) (fun hb3 => ?_)
    ·replace hk1 := inv_posB hb3 hk1
     refine T.loadN .list 0 rfl rfl (wants1 rfl rfl rfl hb3) rfl rfl (vs := [.int .i64 r3.1.1, .int .i64 r3.1.2.1, .slice x4.1 r3.1.2.2.length x4.2]) rfl rfl ?_
     refine T.loadN .list 2 rfl rfl (wants1 rfl rfl rfl hb3) rfl rfl (vs := [.int .i64 a0.1, .int .i64 a0.2.1, .slice A0a a0.2.2.length c0a]) rfl rfl ?_
     obtain ⟨r4, hg4, hk1⟩ := inv_bind hk1
     refine T.call .list (wants1 rfl rfl rfl hb3) rfl (run_callF (vs := [_, _]) rfl Tryd.func10 rfl (by decide) rfl) (fun w hS => ref16_Same.c hB hS (i0a := 1) (i1a := 3) (a0 := r3.1) (a1 := a0) rfl rfl hg4) (fun x5 => ?_)
     refine T.pickT .list rfl (wants0 rfl) rfl rfl hb3 rfl ?_
     refine T.move .list rfl (wants0 rfl) rfl rfl ?_
     refine T.bool (b := r4) (fun hb4 => ?_) (fun hb4 => ?_)
     ·replace hk1 := inv_posB hb4 hk1
      refine T.move .list rfl (wants1 rfl rfl rfl hb4) rfl rfl ?_
      refine T.lenSlice .list rfl (wants1 rfl rfl rfl hb4) rfl rfl ?_
      refine T.bin .list rfl (wants1 rfl rfl rfl hb4) rfl rfl rfl rfl ?_
      refine T.pickT .list rfl (wants0 rfl) rfl rfl hb4 rfl ?_
      refine T.assign .list rfl (wants0 rfl) rfl rfl ?_
      refine T.nil ?_
      refine T.then_normal ?_
      refine T.ret ?_
      obtain rfl := inv_some hk1
      refine T.pick [] 5 rfl rfl nla rfl ?_
      refine T.ret1 rfl rfl (fun w hS => ⟨(), rfl, hS⟩)
     ·replace hk1 := inv_negB hb4 hk1
      refine T.leave .list (wantsNot rfl rfl rfl hb4) rfl ?_
      refine T.leave .list (wantsNot rfl rfl rfl hb4) rfl ?_
      refine T.leave .list (wantsNot rfl rfl rfl hb4) rfl ?_
      refine T.pickF .list rfl (wants0 rfl) rfl rfl hb4 rfl ?_
      refine T.assign .list rfl (wants0 rfl) rfl rfl ?_
      refine T.nil ?_
      refine T.then_normal ?_
      refine T.ret ?_
      obtain rfl := inv_some hk1
      refine T.pick [] 5 rfl rfl nla rfl ?_
      refine T.ret1 rfl rfl (fun w hS => ⟨(), rfl, hS⟩)
    ·replace hk1 := inv_negB hb3 hk1
     refine T.leave .list (wantsNot rfl rfl rfl hb3) rfl ?_
     refine T.leave .list (wantsNot rfl rfl rfl hb3) rfl ?_
     refine T.leave .list (wantsNot rfl rfl rfl hb3) rfl ?_
     refine T.pickF .list rfl (wants0 rfl) rfl rfl hb3 rfl ?_
     refine T.move .list rfl (wants0 rfl) rfl rfl ?_
     refine T.leave .list (wantsNot rfl rfl rfl rfl) rfl ?_
     refine T.leave .list (wantsNot rfl rfl rfl rfl) rfl ?_
     refine T.leave .list (wantsNot rfl rfl rfl rfl) rfl ?_
     refine T.pickF .list rfl (wants0 rfl) rfl rfl rfl rfl ?_
     refine T.assign .list rfl (wants0 rfl) rfl rfl ?_
     refine T.nil ?_
     refine T.then_normal ?_
     refine T.ret ?_
     obtain rfl := inv_some hk1
     refine T.pick [] 5 rfl rfl nla rfl ?_
     refine T.ret1 rfl rfl (fun w hS => ⟨(), rfl, hS⟩)
 ·refine T.region ?_
  obtain ⟨r5, hg5, hr⟩ := inv_bind hr
  refine T.call .list (wants0 rfl) rfl (run_callF (vs := []) rfl Tryd.func8 rfl (by decide) rfl) (fun w hS => law17_told.c hB hS  hg5) (fun x6 => ?_)
  refine T.not .list rfl (wants0 rfl) rfl rfl ?_
  refine T.move .list rfl (wants0 rfl) rfl rfl ?_
  refine T.bool (b := r5) (fun hb5 => ?_) (fun hb5 => ?_)
  ·replace hr := inv_posB hb5 hr
   refine T.move .list rfl (wants1 rfl rfl rfl (not_t hb5)) rfl rfl ?_
   refine T.bin .list rfl (wants1 rfl rfl rfl (not_t hb5)) rfl rfl rfl rfl ?_
   refine T.move .list rfl (wants1 rfl rfl rfl (not_t hb5)) rfl rfl ?_
   refine T.boolNe .list rfl (wants1 rfl rfl rfl (not_t hb5)) rfl rfl rfl (by kernel_rfl) ?_
   refine T.pickF .list rfl (wants0 rfl) rfl rfl (not_t hb5) rfl ?_
   refine T.move .list rfl (wants0 rfl) rfl rfl ?_
   refine T.bool (b := (decide ((decide (r1.2 = 0)) = r2))) (fun hb6 => ?_) (fun hb6 => ?_)
   ·replace hr := inv_posB hb6 hr
    refine T.move .list rfl (wants1 rfl rfl rfl (not_t hb6)) rfl rfl ?_
    refine T.not .list rfl (wants1 rfl rfl rfl (not_t hb6)) rfl rfl ?_
    refine T.move .list rfl (wants1 rfl rfl rfl (not_t hb6)) rfl rfl ?_
    refine T.bool (b := r2) (fun hb7 => ?_) (fun hb7 => ?_)
    ·replace hr := inv_posB hb7 hr
     refine T.leave .list (wantsNot rfl rfl rfl (not_t hb7)) rfl ?_
     refine T.leave .list (wantsNot rfl rfl rfl (not_t hb7)) rfl ?_
     refine T.leave .list (wantsNot rfl rfl rfl (not_t hb7)) rfl ?_
     refine T.leave .list (wantsUndef rfl rfl rfl) rfl ?_
     refine T.leave .list (wantsUndef rfl rfl rfl) rfl ?_
     refine T.leave .list (wantsUndef rfl rfl rfl) rfl ?_
     refine T.leave .list (wantsNot rfl rfl rfl (not_t hb7)) rfl ?_
     refine T.pickF .list rfl (wants1 rfl rfl rfl (not_t hb6)) rfl rfl (not_t hb7) rfl ?_
     refine T.pickF .list rfl (wants0 rfl) rfl rfl (not_t hb6) rfl ?_
     refine T.nil ?_
     refine T.then_normal ?_
     exact T.le (EnvLe.cons rfl (EnvLe.cons rfl (EnvLe.cons rfl (EnvLe.cons rfl EnvLe.nil)))) (T.pick [1, 2, 0] 3 rfl rfl nla rfl (J1 false () hr))
    ·replace hr := inv_negB hb7 hr
     refine T.move .list rfl (wants1 rfl rfl rfl (not_f hb7)) rfl rfl ?_
     refine T.bin .list rfl (wants1 rfl rfl rfl (not_f hb7)) rfl rfl rfl rfl ?_
     refine T.move .list rfl (wants1 rfl rfl rfl (not_f hb7)) rfl rfl ?_
     refine T.bool (b := (decide (r1.2 = 1))) (fun hb8 => ?_) (fun hb8 => ?_)
     ·replace hr := inv_posB hb8 hr
      refine T.move .list rfl (wants1 rfl rfl rfl (not_t hb8)) rfl rfl ?_
      refine T.lenSlice .list rfl (wants1 rfl rfl rfl (not_t hb8)) rfl rfl ?_
      refine T.bin .list rfl (wants1 rfl rfl rfl (not_t hb8)) rfl rfl rfl rfl ?_
      refine T.pickF .list rfl (wants1 rfl rfl rfl (not_f hb7)) rfl rfl (not_t hb8) rfl ?_
      refine T.pickT .list rfl (wants1 rfl rfl rfl (not_t hb6)) rfl rfl (not_f hb7) rfl ?_
      refine T.pickF .list rfl (wants0 rfl) rfl rfl (not_t hb6) rfl ?_
      refine T.nil ?_
      refine T.then_normal ?_
      exact T.le (EnvLe.cons rfl (EnvLe.cons rfl (EnvLe.cons rfl (EnvLe.cons rfl EnvLe.nil)))) (T.pick [1, 2, 0] 3 rfl rfl nla rfl (J1 (decide ((0 : Int) < ((r1.1.length : Int)))) () hr))
     ·replace hr := inv_negB hb8 hr
      refine T.leave .list (wantsNot rfl rfl rfl (not_f hb8)) rfl ?_
      refine T.leave .list (wantsNot rfl rfl rfl (not_f hb8)) rfl ?_
      refine T.leave .list (wantsNot rfl rfl rfl (not_f hb8)) rfl ?_
      refine T.pickT .list rfl (wants1 rfl rfl rfl (not_f hb7)) rfl rfl (not_f hb8) rfl ?_
      refine T.pickT .list rfl (wants1 rfl rfl rfl (not_t hb6)) rfl rfl (not_f hb7) rfl ?_
      refine T.pickF .list rfl (wants0 rfl) rfl rfl (not_t hb6) rfl ?_
      refine T.nil ?_
      refine T.then_normal ?_
      exact T.le (EnvLe.cons rfl (EnvLe.cons rfl (EnvLe.cons rfl (EnvLe.cons rfl EnvLe.nil)))) (T.pick [1, 2, 0] 3 rfl rfl nla rfl (J1 true () hr))
   ·replace hr := inv_negB hb6 hr
    refine T.leave .list (wantsNot rfl rfl rfl (not_f hb6)) rfl ?_
    refine T.leave .list (wantsNot rfl rfl rfl (not_f hb6)) rfl ?_
    refine T.leave .list (wantsNot rfl rfl rfl (not_f hb6)) rfl ?_
    refine T.leave .list (wantsUndef rfl rfl rfl) rfl ?_
    refine T.leave .list (wantsUndef rfl rfl rfl) rfl ?_
    refine T.leave .list (wantsUndef rfl rfl rfl) rfl ?_
    refine T.leave .list (wantsUndef rfl rfl rfl) rfl ?_
    refine T.leave .list (wantsUndef rfl rfl rfl) rfl ?_
    refine T.leave .list (wantsUndef rfl rfl rfl) rfl ?_
    refine T.leave .list (wantsUndef rfl rfl rfl) rfl ?_
    refine T.leave .list (wantsNot rfl rfl rfl (not_f hb6)) rfl ?_
    refine T.pickT .list rfl (wants0 rfl) rfl rfl (not_f hb6) rfl ?_
    refine T.nil ?_
    refine T.then_normal ?_
    exact T.le (EnvLe.cons rfl (EnvLe.cons rfl (EnvLe.cons rfl (EnvLe.cons rfl EnvLe.nil)))) (T.pick [1, 2, 0] 3 rfl rfl nla rfl (J1 true () hr))
  ·replace hr := inv_negB hb5 hr
   refine T.leave .list (wantsNot rfl rfl rfl (not_f hb5)) rfl ?_
   refine T.leave .list (wantsNot rfl rfl rfl (not_f hb5)) rfl ?_
   refine T.leave .list (wantsNot rfl rfl rfl (not_f hb5)) rfl ?_
   refine T.leave .list (wantsNot rfl rfl rfl (not_f hb5)) rfl ?_
   refine T.pickT .list rfl (wants0 rfl) rfl rfl (not_f hb5) rfl ?_
   refine T.move .list rfl (wants0 rfl) rfl rfl ?_
   refine T.leave .list (wantsNot rfl rfl rfl rfl) rfl ?_
   refine T.leave .list (wantsNot rfl rfl rfl rfl) rfl ?_
   refine T.leave .list (wantsNot rfl rfl rfl rfl) rfl ?_
   refine T.leave .list (wantsUndef rfl rfl rfl) rfl ?_
   refine T.leave .list (wantsUndef rfl rfl rfl) rfl ?_
   refine T.leave .list (wantsUndef rfl rfl rfl) rfl ?_
   refine T.leave .list (wantsUndef rfl rfl rfl) rfl ?_
   refine T.leave .list (wantsUndef rfl rfl rfl) rfl ?_
   refine T.leave .list (wantsUndef rfl rfl rfl) rfl ?_
   refine T.leave .list (wantsUndef rfl rfl rfl) rfl ?_
   refine T.leave .list (wantsNot rfl rfl rfl rfl) rfl ?_
   refine T.pickT .list rfl (wants0 rfl) rfl rfl rfl rfl ?_
   refine T.nil ?_
   refine T.then_normal ?_
   exact T.le (EnvLe.cons rfl (EnvLe.cons rfl (EnvLe.cons rfl (EnvLe.cons rfl EnvLe.nil)))) (T.pick [1, 2, 0] 3 rfl rfl nla rfl (J1 true () hr))
end Go.Proofs.YtpogdeibkghhaaaDoor
