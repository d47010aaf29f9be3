/- SchemaB: what the functions compute, and that the program computes it; printed by a program of ours. -/
import Derived.Test.YtdfbknkgmhddcaaDoorSchemaL
set_option linter.unusedVariables false
set_option linter.unusedSimpArgs false
namespace Go.Proofs.YtdfbknkgmhddcaaDoor
open Go.RowKit
noncomputable def law14_SchemaBytes.k5 (r5 : ((List UInt8) × (List ((List UInt8) × Int × Int)) × (List (Int × Bool))) × Int) (r6 : (List (Int × Int × (List UInt8))) × Int) (s5 : Unit) : Option Bool :=
  (if ((decide (r5.2 = 0))) = true then (if ((decide (r6.2 = 0))) = true then some true else some (decide (r6.2 = 11))) else (if ((decide (r5.2 = 11))) = true then (if ((decide (r6.2 = 0))) = true then some true else some (decide (r6.2 = 11))) else some false))
noncomputable def law14_SchemaBytes.k6 (r5 : ((List UInt8) × (List ((List UInt8) × Int × Int)) × (List (Int × Bool))) × Int) (r6 : (List (Int × Int × (List UInt8))) × Int) (s6 : Bool) : Option Bool :=
  (if s6 = true then some false else law14_SchemaBytes.k5 r5 r6 ())
noncomputable def law14_SchemaBytes.k4 (r6 : (List (Int × Int × (List UInt8))) × Int) (r5 : ((List UInt8) × (List ((List UInt8) × Int × Int)) × (List (Int × Bool))) × Int) (l2 : List UInt8) (s4 : Unit) : Option Bool :=
  (if ((decide (r6.2 = 0))) = true then (schema_EncodeRow.impl r6.1).bind fun r7 => (if ((decide (r7.2 = 0))) = true then law14_SchemaBytes.k6 r5 r6 (!(decide (r7.1 = l2))) else law14_SchemaBytes.k6 r5 r6 true) else law14_SchemaBytes.k5 r5 r6 ())
noncomputable def law14_SchemaBytes.k7 (r6 : (List (Int × Int × (List UInt8))) × Int) (r5 : ((List UInt8) × (List ((List UInt8) × Int × Int)) × (List (Int × Bool))) × Int) (l2 : List UInt8) (s7 : Bool) : Option Bool :=
  (if s7 = true then some false else law14_SchemaBytes.k4 r6 r5 l2 ())
noncomputable def law14_SchemaBytes.k3 (l2 : List UInt8) (s3 : Unit) : Option Bool :=
  (schema_Decode.impl l2).bind fun r5 => (schema_DecodeRow.impl l2).bind fun r6 => (if ((decide (r5.2 = 0))) = true then (schema_Encode.impl ((r5.1.1, r5.1.2.1, r5.1.2.2))).bind fun r8 => (if ((decide (r8.2 = 0))) = true then law14_SchemaBytes.k7 r6 r5 l2 (!(decide (r8.1 = l2))) else law14_SchemaBytes.k7 r6 r5 l2 true) else law14_SchemaBytes.k4 r6 r5 l2 ())
noncomputable def law14_SchemaBytes.k8 (l2 : List UInt8) (s8 : Bool) : Option Bool :=
  (if s8 = true then some false else law14_SchemaBytes.k3 l2 ())
noncomputable def law14_SchemaBytes.k2 (r4 : List UInt8 × Int) (l2 : List UInt8) (r2 : (List (Int × Int × (List UInt8)))) (s2 : Unit) : Option Bool :=
  (if ((decide (r4.2 = 0))) = true then (schema_DecodeRow.impl r4.1).bind fun r9 => (if ((decide (r9.2 = 0))) = true then (if ((decide ((120 : Int) < ((r4.1.length : Int))))) = true then law14_SchemaBytes.k8 l2 true else (ref2_Same.impl r9.1 r2).bind fun r10 => law14_SchemaBytes.k8 l2 (!r10)) else law14_SchemaBytes.k8 l2 true) else law14_SchemaBytes.k3 l2 ())
noncomputable def law14_SchemaBytes.k9 (r4 : List UInt8 × Int) (l2 : List UInt8) (r2 : (List (Int × Int × (List UInt8)))) (s9 : Bool) : Option Bool :=
  (if s9 = true then some false else law14_SchemaBytes.k2 r4 l2 r2 ())
noncomputable def law14_SchemaBytes.k1 (r3 : List UInt8 × Int) (r4 : List UInt8 × Int) (l2 : List UInt8) (r2 : (List (Int × Int × (List UInt8)))) (r1 : ((List UInt8) × (List ((List UInt8) × Int × Int)) × (List (Int × Bool)))) (s1 : Bool) : Option Bool :=
  (if s1 = true then some false else (if ((decide (r3.2 = 0))) = true then (schema_Decode.impl r3.1).bind fun r11 => (if ((decide (r11.2 = 0))) = true then (if ((decide ((80 : Int) < ((r3.1.length : Int))))) = true then law14_SchemaBytes.k9 r4 l2 r2 true else (ref14_Same.impl ((r11.1.1, r11.1.2.1, r11.1.2.2)) ((r1.1, r1.2.1, r1.2.2))).bind fun r12 => law14_SchemaBytes.k9 r4 l2 r2 (!r12)) else law14_SchemaBytes.k9 r4 l2 r2 true) else law14_SchemaBytes.k2 r4 l2 r2 ()))
noncomputable def law14_SchemaBytes.impl (a0 : (List UInt8) × (List ((List UInt8) × Int × Int)) × (List (Int × Bool))) (l1 : List (Int × Int × (List UInt8))) (l2 : List UInt8) : Option Bool :=
  (law14_copied.impl ((a0.1, a0.2.1, a0.2.2))).bind fun r1 => (law14_few.impl l1).bind fun r2 => (schema_Encode.impl ((r1.1, r1.2.1, r1.2.2))).bind fun r3 => (schema_EncodeRow.impl r2).bind fun r4 => (law14_told.impl ).bind fun r13 => (if r13 = true then (ref14_Right.impl ((r1.1, r1.2.1, r1.2.2))).bind fun r14 => (if ((decide ((decide (r3.2 = 0)) = r14))) = true then (if ((decide (r3.2 = 0))) = true then (ref14_RowRight.impl r2).bind fun r15 => law14_SchemaBytes.k1 r3 r4 l2 r2 r1 (!(decide (r4.2 = r15))) else (if ((decide (r3.2 = 61))) = true then (if ((decide ((0 : Int) < ((r3.1.length : Int))))) = true then law14_SchemaBytes.k1 r3 r4 l2 r2 r1 true else (ref14_RowRight.impl r2).bind fun r16 => law14_SchemaBytes.k1 r3 r4 l2 r2 r1 (!(decide (r4.2 = r16)))) else law14_SchemaBytes.k1 r3 r4 l2 r2 r1 true)) else law14_SchemaBytes.k1 r3 r4 l2 r2 r1 true) else law14_SchemaBytes.k1 r3 r4 l2 r2 r1 true)
set_option maxRecDepth 100000 in
set_option maxHeartbeats 4000000 in
theorem law14_SchemaBytes.c {B : World} {hs : List MP} {w : World} {a0 : (List UInt8) × (List ((List UInt8) × Int × Int)) × (List (Int × Bool))} {i0a c0a : Nat} {A0a : Option Addr} {i0b c0b : Nat} {A0b : Option Addr} {i1 c1 : Nat} {A1 : Option Addr} {l1 : List (Int × Int × (List UInt8))} {i2 c2 : Nat} {A2 : Option Addr} {l2 : List UInt8} (hB : Base B) (hS : St B (hs) w) (h0a : (hs)[i0a]? = some (Ro (Elt.pair EStr (Elt.pair E64 E64)) A0a c0a a0.2.1)) (h0b : (hs)[i0b]? = some (Ro (Elt.pair E64 EBool) A0b c0b a0.2.2)) (h1 : (hs)[i1]? = some (Ro (Elt.pair E64 (Elt.pair E64 EStr)) A1 c1 l1)) (h2 : (hs)[i2]? = some (Ro E8 A2 c2 l2)) {r : Bool} (hr : law14_SchemaBytes.impl a0 l1 l2 = some r) :
    Calls Tryd.prog 5 #[.agg #[str a0.1, .slice A0a a0.2.1.length c0a, .slice A0b a0.2.2.length c0b], .slice A1 l1.length c1, .slice A2 l2.length c2] w fun e w' => ∃ x : Unit, e = .returned (.bool r) ∧ St B (hs) w' := by
 unfold law14_SchemaBytes.impl at hr
 refine calls_T Tryd.func5 rfl rfl rfl hS ?_
 refine T.front i0a h0a ?_
 refine T.front (i0b + 1) h0b ?_
 refine T.front (i1 + 2) h1 ?_
 refine T.front (i2 + 3) h2 ?_
 refine T.seq ?_
 refine T.region ?_
 refine T.boxS .list rfl (wants0 rfl) rfl rfl (cs := [str a0.1, .slice A0a a0.2.1.length c0a, .slice A0b a0.2.2.length c0b]) rfl (fun b1 => ?_)
 refine T.assign .list rfl (wants0 rfl) rfl rfl ?_
 refine T.nil ?_
 refine T.then_normal ?_
 refine T.seq ?_
 refine T.region ?_
 refine T.loadN .list 0 rfl rfl (wants0 rfl) rfl rfl (vs := [str a0.1, .slice A0a a0.2.1.length c0a, .slice A0b a0.2.2.length c0b]) rfl rfl ?_
 obtain ⟨r1, hg1, hr⟩ := inv_bind hr
 refine T.call .list (wants0 rfl) rfl (run_callF (vs := [_]) rfl Tryd.func6 rfl (by decide) rfl) (fun w hS => law14_copied.c hB hS (i0a := 4) (i0b := 3) (a0 := (a0.1, a0.2.1, a0.2.2)) rfl rfl hg1) (fun x1 => ?_)
 refine T.move .list rfl (wants0 rfl) rfl rfl ?_
 obtain ⟨r2, hg2, hr⟩ := inv_bind hr
 refine T.call .list (wants0 rfl) rfl (run_callF (vs := [_]) rfl Tryd.func7 rfl (by decide) rfl) (fun w hS => law14_few.c hB hS (i0 := 4) rfl hg2) (fun x2 => ?_)
 refine T.allocS .list rfl (wants0 rfl) rfl (cs := [str (([] : List UInt8)), .slice none 0 0, .slice none 0 0]) rfl (fun b2 => ?_)
 refine T.store .list 0 rfl rfl (wants0 rfl) rfl rfl rfl rfl (Nat.le_of_ble_eq_true rfl) rfl (cs' := [str r1.1, .slice x1.1.1 r1.2.1.length x1.1.2, .slice x1.2.1 r1.2.2.length x1.2.2]) rfl rfl ?_
 refine T.assign .list rfl (wants0 rfl) rfl rfl ?_
 refine T.nil ?_
 refine T.then_normal ?_
 refine T.seq ?_
 refine T.region ?_
 refine T.loadN .list 0 rfl rfl (wants0 rfl) rfl rfl (vs := [str r1.1, .slice x1.1.1 r1.2.1.length x1.1.2, .slice x1.2.1 r1.2.2.length x1.2.2]) rfl rfl ?_
 obtain ⟨r3, hg3, hr⟩ := inv_bind hr
 refine T.call .list (wants0 rfl) rfl (run_callF (vs := [_]) rfl Tryd.func19 rfl (by decide) rfl) (fun w hS => schema_Encode.c hB hS (i0a := 2) (i0b := 3) (a0 := (r1.1, r1.2.1, r1.2.2)) rfl rfl hg3) (fun x3 => ?_)
 refine T.move .list rfl (wants0 rfl) rfl rfl ?_
 refine T.extract .list rfl (wants0 rfl) rfl rfl rfl ?_
 refine T.extract .list rfl (wants0 rfl) rfl rfl rfl ?_
 refine T.assign .list rfl (wants0 rfl) rfl rfl ?_
 refine T.assign .list rfl (wants0 rfl) rfl rfl ?_
 refine T.nil ?_
 refine T.then_normal ?_
 refine T.seq ?_
 refine T.region ?_
 refine T.move .list rfl (wants0 rfl) rfl rfl ?_
 obtain ⟨r4, hg4, hr⟩ := inv_bind hr
 refine T.call .list (wants0 rfl) rfl (run_callF (vs := [_]) rfl Tryd.func20 rfl (by decide) rfl) (fun w hS => (schema_EncodeRow.c (hB.up hS) (St.borrow (ros := [Ro (Elt.pair E64 (Elt.pair E64 EStr)) x2.1 x2.2 r2]) (Ros.cons (hS.roBf 2 rfl rfl) Ros.nil)) (i0 := 0) rfl hg4).mono fun e w' ⟨x, he, h1⟩ => ⟨x, he, hS.unborrow (post := [Bf E8 5 x.1 x.2 r4.1]) h1 (Frees.cons (Bf.free .sc) Frees.nil)⟩) (fun x4 => ?_)
 refine T.move .list rfl (wants0 rfl) rfl rfl ?_
 refine T.extract .list rfl (wants0 rfl) rfl rfl rfl ?_
 refine T.extract .list rfl (wants0 rfl) rfl rfl rfl ?_
 refine T.assign .list rfl (wants0 rfl) rfl rfl ?_
 refine T.assign .list rfl (wants0 rfl) rfl rfl ?_
 refine T.nil ?_
 refine T.then_normal ?_
 refine T.seq ?_
 refine T.seqJ (fun (s1 : Bool) (x5 : Unit) => [(2, .slice A2 l2.length c2), (7, .pointer (some ⟨b2, 0, none⟩)), (8, .slice x2.1 r2.length x2.2), (9, .slice x3.1 r3.1.length x3.2), (10, .int .i64 r3.2), (11, .slice x4.1 r4.1.length x4.2), (12, .int .i64 r4.2), (66, .bool s1)]) (fun s1 x5 => Ro E8 A2 c2 l2 :: Cl b2 25 [str r1.1, .slice x1.1.1 r1.2.1.length x1.1.2, .slice x1.2.1 r1.2.2.length x1.2.2] :: Ro (Elt.pair EStr (Elt.pair E64 E64)) x1.1.1 x1.1.2 r1.2.1 :: Ro (Elt.pair E64 EBool) x1.2.1 x1.2.2 r1.2.2 :: Bf (Elt.pair E64 (Elt.pair E64 EStr)) 39 x2.1 x2.2 r2 :: Bf E8 5 x3.1 x3.2 r3.1 :: Bf E8 5 x4.1 x4.2 r4.1 :: hs) (fun s1 => law14_SchemaBytes.k1 r3 r4 l2 r2 r1 s1 = some r) (fun s1 x5 hk1 => ?_) (fun J1 => ?_)
 ·unfold law14_SchemaBytes.k1 at hk1
  refine T.cond rfl (fun hb1 => ?_) (fun hb1 => ?_)
  ·replace hk1 := inv_posB hb1 hk1
   refine T.seq ?_
   refine T.region ?_
   refine T.assign .list rfl (wants0 rfl) rfl rfl ?_
   refine T.nil ?_
   refine T.then_normal ?_
   refine T.ret ?_
   refine T.then_ret ?_
   obtain rfl := inv_some hk1
   refine T.pick [] 7 rfl rfl (Nat.le_add_left _ _) rfl ?_
   refine T.ret1 rfl rfl (fun w hS => ⟨(), rfl, hS⟩)
  ·replace hk1 := inv_negB hb1 hk1
   refine T.skip ?_
   refine T.then_normal ?_
   refine T.seqJ (fun (s2 : Unit) (x6 : Unit) => [(2, .slice A2 l2.length c2), (8, .slice x2.1 r2.length x2.2), (11, .slice x4.1 r4.1.length x4.2), (12, .int .i64 r4.2)]) (fun s2 x6 => Ro E8 A2 c2 l2 :: Bf (Elt.pair E64 (Elt.pair E64 EStr)) 39 x2.1 x2.2 r2 :: Bf E8 5 x4.1 x4.2 r4.1 :: hs) (fun s2 => law14_SchemaBytes.k2 r4 l2 r2 s2 = some r) (fun s2 x6 hk2 => ?_) (fun J2 => ?_)
   ·unfold law14_SchemaBytes.k2 at hk2
    refine T.seqJ (fun (s3 : Unit) (x7 : Unit) => [(2, .slice A2 l2.length c2)]) (fun s3 x7 => Ro E8 A2 c2 l2 :: hs) (fun s3 => law14_SchemaBytes.k3 l2 s3 = some r) (fun s3 x7 hk3 => ?_) (fun J3 => ?_)
    ·unfold law14_SchemaBytes.k3 at hk3
     refine T.seq ?_
     refine T.region ?_
     refine T.move .list rfl (wants0 rfl) rfl rfl ?_
     obtain ⟨r5, hg5, hk3⟩ := inv_bind hk3
     refine T.call .list (wants0 rfl) rfl (run_callF (vs := [_]) rfl Tryd.func24 rfl (by decide) rfl) (fun w hS => schema_Decode.c hB hS (i0 := 0) rfl hg5) (fun x8 => ?_)
     refine T.move .list rfl (wants0 rfl) rfl rfl ?_
     refine T.extract .list rfl (wants0 rfl) rfl rfl rfl ?_
     refine T.extract .list rfl (wants0 rfl) rfl rfl rfl ?_
     refine T.allocS .list rfl (wants0 rfl) rfl (cs := [str (([] : List UInt8)), .slice none 0 0, .slice none 0 0]) rfl (fun b3 => ?_)
     refine T.store .list 0 rfl rfl (wants0 rfl) rfl rfl rfl rfl (Nat.le_of_ble_eq_true rfl) rfl (cs' := [str r5.1.1, .slice x8.1.1 r5.1.2.1.length x8.1.2, .slice x8.2.1 r5.1.2.2.length x8.2.2]) rfl rfl ?_
     refine T.assign .list rfl (wants0 rfl) rfl rfl ?_
     refine T.nil ?_
     refine T.then_normal ?_
     refine T.seq ?_
     refine T.region ?_
     refine T.move .list rfl (wants0 rfl) rfl rfl ?_
     obtain ⟨r6, hg6, hk3⟩ := inv_bind hk3
     refine T.call .list (wants0 rfl) rfl (run_callF (vs := [_]) rfl Tryd.func25 rfl (by decide) rfl) (fun w hS => schema_DecodeRow.c hB hS (i0 := 3) rfl hg6) (fun x9 => ?_)
     refine T.move .list rfl (wants0 rfl) rfl rfl ?_
     refine T.extract .list rfl (wants0 rfl) rfl rfl rfl ?_
     refine T.extract .list rfl (wants0 rfl) rfl rfl rfl ?_
     refine T.assign .list rfl (wants0 rfl) rfl rfl ?_
     refine T.assign .list rfl (wants0 rfl) rfl rfl ?_
     refine T.nil ?_
     refine T.then_normal ?_
     refine T.seqJ (fun (s4 : Unit) (x10 : Unit) => [(2, .slice A2 l2.length c2), (18, .int .i64 r5.2), (19, .slice x9.1 r6.1.length x9.2), (20, .int .i64 r6.2)]) (fun s4 x10 => Ro E8 A2 c2 l2 :: Bf (Elt.pair E64 (Elt.pair E64 EStr)) 39 x9.1 x9.2 r6.1 :: hs) (fun s4 => law14_SchemaBytes.k4 r6 r5 l2 s4 = some r) (fun s4 x10 hk4 => ?_) (fun J4 => ?_)
     ·unfold law14_SchemaBytes.k4 at hk4
      refine T.seqJ (fun (s5 : Unit) (x11 : Unit) => [(18, .int .i64 r5.2), (20, .int .i64 r6.2)]) (fun s5 x11 => hs) (fun s5 => law14_SchemaBytes.k5 r5 r6 s5 = some r) (fun s5 x11 hk5 => ?_) (fun J5 => ?_)
      ·unfold law14_SchemaBytes.k5 at hk5
       refine T.seq ?_
       refine T.region ?_
       refine T.move .list rfl (wants0 rfl) rfl rfl ?_
       refine T.bin .list rfl (wants0 rfl) rfl rfl rfl rfl ?_
       refine T.move .list rfl (wants0 rfl) rfl rfl ?_
       refine T.bool (b := (decide (r5.2 = 0))) (fun hb2 => ?_) (fun hb2 => ?_)
       ·replace hk5 := inv_posB hb2 hk5
        refine T.leave .list (wantsNot rfl rfl rfl hb2) rfl ?_
        refine T.leave .list (wantsNot rfl rfl rfl hb2) rfl ?_
        refine T.pickT .list rfl (wants0 rfl) rfl rfl hb2 rfl ?_
        refine T.move .list rfl (wants0 rfl) rfl rfl ?_
        refine T.move .list rfl (wants1 rfl rfl rfl rfl) rfl rfl ?_
        refine T.bin .list rfl (wants1 rfl rfl rfl rfl) rfl rfl rfl rfl ?_
        refine T.move .list rfl (wants1 rfl rfl rfl rfl) rfl rfl ?_
        refine T.bool (b := (decide (r6.2 = 0))) (fun hb3 => ?_) (fun hb3 => ?_)
        ·replace hk5 := inv_posB hb3 hk5
         refine T.leave .list (wantsNot rfl rfl rfl hb3) rfl ?_
         refine T.leave .list (wantsNot rfl rfl rfl hb3) rfl ?_
         refine T.pickT .list rfl (wants1 rfl rfl rfl rfl) rfl rfl hb3 rfl ?_
         refine T.pickT .list rfl (wants0 rfl) rfl rfl rfl rfl ?_
         refine T.assign .list rfl (wants0 rfl) rfl rfl ?_
         refine T.nil ?_
         refine T.then_normal ?_
         refine T.ret ?_
         obtain rfl := inv_some hk5
         refine T.pick [] 0 rfl rfl (Nat.le_add_left _ _) rfl ?_
         refine T.ret1 rfl rfl (fun w hS => ⟨(), rfl, hS⟩)
        ·replace hk5 := inv_negB hb3 hk5
         refine T.move .list rfl (wants1 rfl rfl rfl hb3) rfl rfl ?_
         refine T.bin .list rfl (wants1 rfl rfl rfl hb3) rfl rfl rfl rfl ?_
         refine T.pickF .list rfl (wants1 rfl rfl rfl rfl) rfl rfl hb3 rfl ?_
         refine T.pickT .list rfl (wants0 rfl) rfl rfl rfl rfl ?_
         refine T.assign .list rfl (wants0 rfl) rfl rfl ?_
         refine T.nil ?_
         refine T.then_normal ?_
         refine T.ret ?_
         obtain rfl := inv_some hk5
         refine T.pick [] 0 rfl rfl (Nat.le_add_left _ _) rfl ?_
         refine T.ret1 rfl rfl (fun w hS => ⟨(), rfl, hS⟩)
       ·replace hk5 := inv_negB hb2 hk5
        refine T.move .list rfl (wants1 rfl rfl rfl hb2) rfl rfl ?_
        refine T.bin .list rfl (wants1 rfl rfl rfl hb2) rfl rfl rfl rfl ?_
        refine T.pickF .list rfl (wants0 rfl) rfl rfl hb2 rfl ?_
        refine T.move .list rfl (wants0 rfl) rfl rfl ?_
        refine T.bool (b := (decide (r5.2 = 11))) (fun hb4 => ?_) (fun hb4 => ?_)
        ·replace hk5 := inv_posB hb4 hk5
         refine T.move .list rfl (wants1 rfl rfl rfl hb4) rfl rfl ?_
         refine T.bin .list rfl (wants1 rfl rfl rfl hb4) rfl rfl rfl rfl ?_
         refine T.move .list rfl (wants1 rfl rfl rfl hb4) rfl rfl ?_
         refine T.bool (b := (decide (r6.2 = 0))) (fun hb5 => ?_) (fun hb5 => ?_)
         ·replace hk5 := inv_posB hb5 hk5
          refine T.leave .list (wantsNot rfl rfl rfl hb5) rfl ?_
          refine T.leave .list (wantsNot rfl rfl rfl hb5) rfl ?_
          refine T.pickT .list rfl (wants1 rfl rfl rfl hb4) rfl rfl hb5 rfl ?_
          refine T.pickT .list rfl (wants0 rfl) rfl rfl hb4 rfl ?_
          refine T.assign .list rfl (wants0 rfl) rfl rfl ?_
          refine T.nil ?_
          refine T.then_normal ?_
          refine T.ret ?_
          obtain rfl := inv_some hk5
          refine T.pick [] 0 rfl rfl (Nat.le_add_left _ _) rfl ?_
          refine T.ret1 rfl rfl (fun w hS => ⟨(), rfl, hS⟩)
         ·replace hk5 := inv_negB hb5 hk5
          refine T.move .list rfl (wants1 rfl rfl rfl hb5) rfl rfl ?_
          refine T.bin .list rfl (wants1 rfl rfl rfl hb5) rfl rfl rfl rfl ?_
          refine T.pickF .list rfl (wants1 rfl rfl rfl hb4) rfl rfl hb5 rfl ?_
          refine T.pickT .list rfl (wants0 rfl) rfl rfl hb4 rfl ?_
          refine T.assign .list rfl (wants0 rfl) rfl rfl ?_
          refine T.nil ?_
          refine T.then_normal ?_
          refine T.ret ?_
          obtain rfl := inv_some hk5
          refine T.pick [] 0 rfl rfl (Nat.le_add_left _ _) rfl ?_
          refine T.ret1 rfl rfl (fun w hS => ⟨(), rfl, hS⟩)
        ·replace hk5 := inv_negB hb4 hk5
         refine T.leave .list (wantsNot rfl rfl rfl hb4) rfl ?_
         refine T.leave .list (wantsNot rfl rfl rfl hb4) rfl ?_
         refine T.leave .list (wantsNot rfl rfl rfl hb4) rfl ?_
         refine T.leave .list (wantsUndef rfl rfl rfl) rfl ?_
         refine T.leave .list (wantsUndef rfl rfl rfl) rfl ?_
         refine T.leave .list (wantsNot rfl rfl rfl hb4) rfl ?_
         refine T.pickF .list rfl (wants0 rfl) rfl rfl hb4 rfl ?_
         refine T.assign .list rfl (wants0 rfl) rfl rfl ?_
         refine T.nil ?_
         refine T.then_normal ?_
         refine T.ret ?_
         obtain rfl := inv_some hk5
         refine T.pick [] 0 rfl rfl (Nat.le_add_left _ _) rfl ?_
         refine T.ret1 rfl rfl (fun w hS => ⟨(), rfl, hS⟩)
      ·refine T.seq ?_
       refine T.region ?_
       refine T.move .list rfl (wants0 rfl) rfl rfl ?_
       refine T.bin .list rfl (wants0 rfl) rfl rfl rfl rfl ?_
       refine T.nil ?_
       refine T.then_normal ?_
       refine T.cond rfl (fun hb6 => ?_) (fun hb6 => ?_)
       ·replace hk4 := inv_posB hb6 hk4
        refine T.seq ?_
        refine T.region ?_
        refine T.move .list rfl (wants0 rfl) rfl rfl ?_
        obtain ⟨r7, hg7, hk4⟩ := inv_bind hk4
        refine T.call .list (wants0 rfl) rfl (run_callF (vs := [_]) rfl Tryd.func20 rfl (by decide) rfl) (fun w hS => (schema_EncodeRow.c (hB.up hS) (St.borrow (ros := [Ro (Elt.pair E64 (Elt.pair E64 EStr)) x9.1 x9.2 r6.1]) (Ros.cons (hS.roBf 1 rfl rfl) Ros.nil)) (i0 := 0) rfl hg7).mono fun e w' ⟨x, he, h1⟩ => ⟨x, he, hS.unborrow (post := [Bf E8 5 x.1 x.2 r7.1]) h1 (Frees.cons (Bf.free .sc) Frees.nil)⟩) (fun x12 => ?_)
        refine T.move .list rfl (wants0 rfl) rfl rfl ?_
        refine T.extract .list rfl (wants0 rfl) rfl rfl rfl ?_
        refine T.extract .list rfl (wants0 rfl) rfl rfl rfl ?_
        refine T.assign .list rfl (wants0 rfl) rfl rfl ?_
        refine T.assign .list rfl (wants0 rfl) rfl rfl ?_
        refine T.nil ?_
        refine T.then_normal ?_
        refine T.seqJ (fun (s6 : Bool) (x13 : Unit) => [(18, .int .i64 r5.2), (20, .int .i64 r6.2), (148, .bool s6)]) (fun s6 x13 => hs) (fun s6 => law14_SchemaBytes.k6 r5 r6 s6 = some r) (fun s6 x13 hk6 => ?_) (fun J6 => ?_)
        ·unfold law14_SchemaBytes.k6 at hk6
         refine T.cond rfl (fun hb7 => ?_) (fun hb7 => ?_)
         ·replace hk6 := inv_posB hb7 hk6
          refine T.seq ?_
          refine T.region ?_
          refine T.assign .list rfl (wants0 rfl) rfl rfl ?_
          refine T.nil ?_
          refine T.then_normal ?_
          refine T.ret ?_
          refine T.then_ret ?_
          obtain rfl := inv_some hk6
          refine T.pick [] 0 rfl rfl (Nat.le_add_left _ _) rfl ?_
          refine T.ret1 rfl rfl (fun w hS => ⟨(), rfl, hS⟩)
         ·replace hk6 := inv_negB hb7 hk6
          refine T.skip ?_
          refine T.then_normal ?_
          exact T.le (EnvLe.cons rfl (EnvLe.cons rfl EnvLe.nil)) (T.pick [] 0 rfl rfl (Nat.le_add_left _ _) rfl (J5 () () hk6))
        ·refine T.region ?_
         refine T.move .list rfl (wants0 rfl) rfl rfl ?_
         refine T.bin .list rfl (wants0 rfl) rfl rfl rfl rfl ?_
         refine T.move .list rfl (wants0 rfl) rfl rfl ?_
         refine T.bool (b := (decide (r7.2 = 0))) (fun hb8 => ?_) (fun hb8 => ?_)
         ·replace hk4 := inv_posB hb8 hk4
          refine T.move .list rfl (wants1 rfl rfl rfl (not_t hb8)) rfl rfl ?_
          refine T.strBf .list 0 rfl rfl (wants1 rfl rfl rfl (not_t hb8)) rfl rfl rfl ?_
          refine T.move .list rfl (wants1 rfl rfl rfl (not_t hb8)) rfl rfl ?_
          refine T.strRo .list 1 rfl rfl (wants1 rfl rfl rfl (not_t hb8)) rfl rfl rfl ?_
          refine T.strNe .list rfl (wants1 rfl rfl rfl (not_t hb8)) rfl (l := r7.1) (l' := l2) rfl rfl ?_
          refine T.pickF .list rfl (wants0 rfl) rfl rfl (not_t hb8) rfl ?_
          refine T.nil ?_
          refine T.then_normal ?_
          exact T.le (EnvLe.cons rfl (EnvLe.cons rfl (EnvLe.cons rfl EnvLe.nil))) (T.pick [] 3 rfl rfl (Nat.le_add_left _ _) rfl (J6 (!(decide (r7.1 = l2))) () hk4))
         ·replace hk4 := inv_negB hb8 hk4
          refine T.leave .list (wantsNot rfl rfl rfl (not_f hb8)) rfl ?_
          refine T.leave .list (wantsNot rfl rfl rfl (not_f hb8)) rfl ?_
          refine T.leave .list (wantsNot rfl rfl rfl (not_f hb8)) rfl ?_
          refine T.leave .list (wantsNot rfl rfl rfl (not_f hb8)) rfl ?_
          refine T.leave .list (wantsNot rfl rfl rfl (not_f hb8)) rfl ?_
          refine T.pickT .list rfl (wants0 rfl) rfl rfl (not_f hb8) rfl ?_
          refine T.nil ?_
          refine T.then_normal ?_
          exact T.le (EnvLe.cons rfl (EnvLe.cons rfl (EnvLe.cons rfl EnvLe.nil))) (T.pick [] 3 rfl rfl (Nat.le_add_left _ _) rfl (J6 true () hk4))
       ·replace hk4 := inv_negB hb6 hk4
        refine T.skip ?_
        refine T.then_normal ?_
        exact T.le (EnvLe.cons rfl (EnvLe.cons rfl EnvLe.nil)) (T.pick [] 2 rfl rfl (Nat.le_add_left _ _) rfl (J5 () () hk4))
     ·refine T.seq ?_
      refine T.region ?_
      refine T.move .list rfl (wants0 rfl) rfl rfl ?_
      refine T.bin .list rfl (wants0 rfl) rfl rfl rfl rfl ?_
      refine T.nil ?_
      refine T.then_normal ?_
      refine T.cond rfl (fun hb9 => ?_) (fun hb9 => ?_)
      ·replace hk3 := inv_posB hb9 hk3
       refine T.seq ?_
       refine T.region ?_
       refine T.loadN .list 1 rfl rfl (wants0 rfl) rfl rfl (vs := [str r5.1.1, .slice x8.1.1 r5.1.2.1.length x8.1.2, .slice x8.2.1 r5.1.2.2.length x8.2.2]) rfl rfl ?_
       obtain ⟨r8, hg8, hk3⟩ := inv_bind hk3
       refine T.call .list (wants0 rfl) rfl (run_callF (vs := [_]) rfl Tryd.func19 rfl (by decide) rfl) (fun w hS => schema_Encode.c hB hS (i0a := 2) (i0b := 3) (a0 := (r5.1.1, r5.1.2.1, r5.1.2.2)) rfl rfl hg8) (fun x14 => ?_)
       refine T.move .list rfl (wants0 rfl) rfl rfl ?_
       refine T.extract .list rfl (wants0 rfl) rfl rfl rfl ?_
       refine T.extract .list rfl (wants0 rfl) rfl rfl rfl ?_
       refine T.assign .list rfl (wants0 rfl) rfl rfl ?_
       refine T.assign .list rfl (wants0 rfl) rfl rfl ?_
       refine T.nil ?_
       refine T.then_normal ?_
       refine T.seqJ (fun (s7 : Bool) (x15 : Unit) => [(2, .slice A2 l2.length c2), (18, .int .i64 r5.2), (19, .slice x9.1 r6.1.length x9.2), (20, .int .i64 r6.2), (132, .bool s7)]) (fun s7 x15 => Ro E8 A2 c2 l2 :: Bf (Elt.pair E64 (Elt.pair E64 EStr)) 39 x9.1 x9.2 r6.1 :: hs) (fun s7 => law14_SchemaBytes.k7 r6 r5 l2 s7 = some r) (fun s7 x15 hk7 => ?_) (fun J7 => ?_)
       ·unfold law14_SchemaBytes.k7 at hk7
        refine T.cond rfl (fun hb10 => ?_) (fun hb10 => ?_)
        ·replace hk7 := inv_posB hb10 hk7
         refine T.seq ?_
         refine T.region ?_
         refine T.assign .list rfl (wants0 rfl) rfl rfl ?_
         refine T.nil ?_
         refine T.then_normal ?_
         refine T.ret ?_
         refine T.then_ret ?_
         obtain rfl := inv_some hk7
         refine T.pick [] 2 rfl rfl (Nat.le_add_left _ _) rfl ?_
         refine T.ret1 rfl rfl (fun w hS => ⟨(), rfl, hS⟩)
        ·replace hk7 := inv_negB hb10 hk7
         refine T.skip ?_
         refine T.then_normal ?_
         exact T.le (EnvLe.cons rfl (EnvLe.cons rfl (EnvLe.cons rfl (EnvLe.cons rfl EnvLe.nil)))) (T.pick [0, 1] 2 rfl rfl (Nat.le_add_left _ _) rfl (J4 () () hk7))
       ·refine T.region ?_
        refine T.move .list rfl (wants0 rfl) rfl rfl ?_
        refine T.bin .list rfl (wants0 rfl) rfl rfl rfl rfl ?_
        refine T.move .list rfl (wants0 rfl) rfl rfl ?_
        refine T.bool (b := (decide (r8.2 = 0))) (fun hb11 => ?_) (fun hb11 => ?_)
        ·replace hk3 := inv_posB hb11 hk3
         refine T.move .list rfl (wants1 rfl rfl rfl (not_t hb11)) rfl rfl ?_
         refine T.strBf .list 0 rfl rfl (wants1 rfl rfl rfl (not_t hb11)) rfl rfl rfl ?_
         refine T.move .list rfl (wants1 rfl rfl rfl (not_t hb11)) rfl rfl ?_
         refine T.strRo .list 5 rfl rfl (wants1 rfl rfl rfl (not_t hb11)) rfl rfl rfl ?_
         refine T.strNe .list rfl (wants1 rfl rfl rfl (not_t hb11)) rfl (l := r8.1) (l' := l2) rfl rfl ?_
         refine T.pickF .list rfl (wants0 rfl) rfl rfl (not_t hb11) rfl ?_
         refine T.nil ?_
         refine T.then_normal ?_
         exact T.le (EnvLe.cons rfl (EnvLe.cons rfl (EnvLe.cons rfl (EnvLe.cons rfl (EnvLe.cons rfl EnvLe.nil))))) (T.pick [5, 1] 6 rfl rfl (Nat.le_add_left _ _) rfl (J7 (!(decide (r8.1 = l2))) () hk3))
        ·replace hk3 := inv_negB hb11 hk3
         refine T.leave .list (wantsNot rfl rfl rfl (not_f hb11)) rfl ?_
         refine T.leave .list (wantsNot rfl rfl rfl (not_f hb11)) rfl ?_
         refine T.leave .list (wantsNot rfl rfl rfl (not_f hb11)) rfl ?_
         refine T.leave .list (wantsNot rfl rfl rfl (not_f hb11)) rfl ?_
         refine T.leave .list (wantsNot rfl rfl rfl (not_f hb11)) rfl ?_
         refine T.pickT .list rfl (wants0 rfl) rfl rfl (not_f hb11) rfl ?_
         refine T.nil ?_
         refine T.then_normal ?_
         exact T.le (EnvLe.cons rfl (EnvLe.cons rfl (EnvLe.cons rfl (EnvLe.cons rfl (EnvLe.cons rfl EnvLe.nil))))) (T.pick [5, 1] 6 rfl rfl (Nat.le_add_left _ _) rfl (J7 true () hk3))
      ·replace hk3 := inv_negB hb9 hk3
       refine T.skip ?_
       refine T.then_normal ?_
       exact T.le (EnvLe.cons rfl (EnvLe.cons rfl (EnvLe.cons rfl (EnvLe.cons rfl EnvLe.nil)))) (T.pick [4, 0] 5 rfl rfl (Nat.le_add_left _ _) rfl (J4 () () hk3))
    ·refine T.seq ?_
     refine T.region ?_
     refine T.move .list rfl (wants0 rfl) rfl rfl ?_
     refine T.bin .list rfl (wants0 rfl) rfl rfl rfl rfl ?_
     refine T.nil ?_
     refine T.then_normal ?_
     refine T.cond rfl (fun hb12 => ?_) (fun hb12 => ?_)
     ·replace hk2 := inv_posB hb12 hk2
      refine T.seq ?_
      refine T.region ?_
      refine T.move .list rfl (wants0 rfl) rfl rfl ?_
      obtain ⟨r9, hg9, hk2⟩ := inv_bind hk2
      refine T.call .list (wants0 rfl) rfl (run_callF (vs := [_]) rfl Tryd.func25 rfl (by decide) rfl) (fun w hS => (schema_DecodeRow.c (hB.up hS) (St.borrow (ros := [Ro E8 x4.1 x4.2 r4.1]) (Ros.cons (hS.roBf 2 rfl rfl) Ros.nil)) (i0 := 0) rfl hg9).mono fun e w' ⟨x, he, h1⟩ => ⟨x, he, hS.unborrow (post := [Bf (Elt.pair E64 (Elt.pair E64 EStr)) 39 x.1 x.2 r9.1]) h1 (Frees.cons (Bf.free (.pair .sc (.pair .sc .sc))) Frees.nil)⟩) (fun x16 => ?_)
      refine T.move .list rfl (wants0 rfl) rfl rfl ?_
      refine T.extract .list rfl (wants0 rfl) rfl rfl rfl ?_
      refine T.extract .list rfl (wants0 rfl) rfl rfl rfl ?_
      refine T.assign .list rfl (wants0 rfl) rfl rfl ?_
      refine T.assign .list rfl (wants0 rfl) rfl rfl ?_
      refine T.nil ?_
      refine T.then_normal ?_
      refine T.seqJ (fun (s8 : Bool) (x17 : Unit) => [(2, .slice A2 l2.length c2), (106, .bool s8)]) (fun s8 x17 => Ro E8 A2 c2 l2 :: hs) (fun s8 => law14_SchemaBytes.k8 l2 s8 = some r) (fun s8 x17 hk8 => ?_) (fun J8 => ?_)
      ·unfold law14_SchemaBytes.k8 at hk8
       refine T.cond rfl (fun hb13 => ?_) (fun hb13 => ?_)
       ·replace hk8 := inv_posB hb13 hk8
        refine T.seq ?_
        refine T.region ?_
        refine T.assign .list rfl (wants0 rfl) rfl rfl ?_
        refine T.nil ?_
        refine T.then_normal ?_
        refine T.ret ?_
        refine T.then_ret ?_
        obtain rfl := inv_some hk8
        refine T.pick [] 1 rfl rfl (Nat.le_add_left _ _) rfl ?_
        refine T.ret1 rfl rfl (fun w hS => ⟨(), rfl, hS⟩)
       ·replace hk8 := inv_negB hb13 hk8
        refine T.skip ?_
        refine T.then_normal ?_
        exact T.le (EnvLe.cons rfl EnvLe.nil) (T.pick [0] 1 rfl rfl (Nat.le_add_left _ _) rfl (J3 () () hk8))
      ·refine T.region ?_
       refine T.move .list rfl (wants0 rfl) rfl rfl ?_
       refine T.bin .list rfl (wants0 rfl) rfl rfl rfl rfl ?_
       refine T.move .list rfl (wants0 rfl) rfl rfl ?_
       refine T.bool (b := (decide (r9.2 = 0))) (fun hb14 => ?_) (fun hb14 => ?_)
       ·replace hk2 := inv_posB hb14 hk2
        refine T.move .list rfl (wants1 rfl rfl rfl (not_t hb14)) rfl rfl ?_
        refine T.lenSlice .list rfl (wants1 rfl rfl rfl (not_t hb14)) rfl rfl ?_
        refine T.bin .list rfl (wants1 rfl rfl rfl (not_t hb14)) rfl rfl rfl rfl ?_
        refine T.pickF .list rfl (wants0 rfl) rfl rfl (not_t hb14) rfl ?_
        refine T.move .list rfl (wants0 rfl) rfl rfl ?_
        refine T.bool (b := (decide ((120 : Int) < ((r4.1.length : Int))))) (fun hb15 => ?_) (fun hb15 => ?_)
        ·replace hk2 := inv_posB hb15 hk2
         refine T.leave .list (wantsNot rfl rfl rfl hb15) rfl ?_
         refine T.leave .list (wantsNot rfl rfl rfl hb15) rfl ?_
         refine T.leave .list (wantsNot rfl rfl rfl hb15) rfl ?_
         refine T.leave .list (wantsNot rfl rfl rfl hb15) rfl ?_
         refine T.pickT .list rfl (wants0 rfl) rfl rfl hb15 rfl ?_
         refine T.nil ?_
         refine T.then_normal ?_
         exact T.le (EnvLe.cons rfl (EnvLe.cons rfl EnvLe.nil)) (T.pick [1] 4 rfl rfl (Nat.le_add_left _ _) rfl (J8 true () hk2))
        ·replace hk2 := inv_negB hb15 hk2
         refine T.move .list rfl (wants1 rfl rfl rfl hb15) rfl rfl ?_
         refine T.move .list rfl (wants1 rfl rfl rfl hb15) rfl rfl ?_
         obtain ⟨r10, hg10, hk2⟩ := inv_bind hk2
         refine T.call .list (wants1 rfl rfl rfl hb15) rfl (run_callF (vs := [_, _]) rfl Tryd.func14 rfl (by decide) rfl) (fun w hS => (ref2_Same.c (hB.up hS) (St.borrow (ros := [Ro (Elt.pair E64 (Elt.pair E64 EStr)) x16.1 x16.2 r9.1, Ro (Elt.pair E64 (Elt.pair E64 EStr)) x2.1 x2.2 r2]) (Ros.cons (hS.roBf 0 rfl rfl) (Ros.cons (hS.roBf 2 rfl rfl) Ros.nil))) (i0 := 0) (i1 := 1) rfl rfl hg10).mono fun e w' ⟨x, he, h1⟩ => ⟨x, he, hS.unborrow (post := []) h1 Frees.nil⟩) (fun x18 => ?_)
         refine T.not .list rfl (wants1 rfl rfl rfl hb15) rfl rfl ?_
         refine T.pickF .list rfl (wants0 rfl) rfl rfl hb15 rfl ?_
         refine T.nil ?_
         refine T.then_normal ?_
         exact T.le (EnvLe.cons rfl (EnvLe.cons rfl EnvLe.nil)) (T.pick [1] 4 rfl rfl (Nat.le_add_left _ _) rfl (J8 (!r10) () hk2))
       ·replace hk2 := inv_negB hb14 hk2
        refine T.leave .list (wantsNot rfl rfl rfl (not_f hb14)) rfl ?_
        refine T.leave .list (wantsNot rfl rfl rfl (not_f hb14)) rfl ?_
        refine T.leave .list (wantsNot rfl rfl rfl (not_f hb14)) rfl ?_
        refine T.pickT .list rfl (wants0 rfl) rfl rfl (not_f hb14) rfl ?_
        refine T.move .list rfl (wants0 rfl) rfl rfl ?_
        refine T.leave .list (wantsNot rfl rfl rfl rfl) rfl ?_
        refine T.leave .list (wantsNot rfl rfl rfl rfl) rfl ?_
        refine T.leave .list (wantsNot rfl rfl rfl rfl) rfl ?_
        refine T.leave .list (wantsNot rfl rfl rfl rfl) rfl ?_
        refine T.pickT .list rfl (wants0 rfl) rfl rfl rfl rfl ?_
        refine T.nil ?_
        refine T.then_normal ?_
        exact T.le (EnvLe.cons rfl (EnvLe.cons rfl EnvLe.nil)) (T.pick [1] 4 rfl rfl (Nat.le_add_left _ _) rfl (J8 true () hk2))
     ·replace hk2 := inv_negB hb12 hk2
      refine T.skip ?_
      refine T.then_normal ?_
      exact T.le (EnvLe.cons rfl EnvLe.nil) (T.pick [0] 3 rfl rfl (Nat.le_add_left _ _) rfl (J3 () () hk2))
   ·refine T.seq ?_
    refine T.region ?_
    refine T.move .list rfl (wants0 rfl) rfl rfl ?_
    refine T.bin .list rfl (wants0 rfl) rfl rfl rfl rfl ?_
    refine T.nil ?_
    refine T.then_normal ?_
    refine T.cond rfl (fun hb16 => ?_) (fun hb16 => ?_)
    ·replace hk1 := inv_posB hb16 hk1
     refine T.seq ?_
     refine T.region ?_
     refine T.move .list rfl (wants0 rfl) rfl rfl ?_
     refine T.freeze 5 rfl rfl rfl ?_
     obtain ⟨r11, hg11, hk1⟩ := inv_bind hk1
     refine T.call .list (wants0 rfl) rfl (run_callF (vs := [_]) rfl Tryd.func24 rfl (by decide) rfl) (fun w hS => schema_Decode.c hB hS (i0 := 5) rfl hg11) (fun x19 => ?_)
     refine T.move .list rfl (wants0 rfl) rfl rfl ?_
     refine T.extract .list rfl (wants0 rfl) rfl rfl rfl ?_
     refine T.extract .list rfl (wants0 rfl) rfl rfl rfl ?_
     refine T.allocS .list rfl (wants0 rfl) rfl (cs := [str (([] : List UInt8)), .slice none 0 0, .slice none 0 0]) rfl (fun b4 => ?_)
     refine T.store .list 0 rfl rfl (wants0 rfl) rfl rfl rfl rfl (Nat.le_of_ble_eq_true rfl) rfl (cs' := [str r11.1.1, .slice x19.1.1 r11.1.2.1.length x19.1.2, .slice x19.2.1 r11.1.2.2.length x19.2.2]) rfl rfl ?_
     refine T.assign .list rfl (wants0 rfl) rfl rfl ?_
     refine T.nil ?_
     refine T.then_normal ?_
     refine T.seqJ (fun (s9 : Bool) (x20 : Unit) => [(2, .slice A2 l2.length c2), (8, .slice x2.1 r2.length x2.2), (11, .slice x4.1 r4.1.length x4.2), (12, .int .i64 r4.2), (86, .bool s9)]) (fun s9 x20 => Ro E8 A2 c2 l2 :: Bf (Elt.pair E64 (Elt.pair E64 EStr)) 39 x2.1 x2.2 r2 :: Bf E8 5 x4.1 x4.2 r4.1 :: hs) (fun s9 => law14_SchemaBytes.k9 r4 l2 r2 s9 = some r) (fun s9 x20 hk9 => ?_) (fun J9 => ?_)
     ·unfold law14_SchemaBytes.k9 at hk9
      refine T.cond rfl (fun hb17 => ?_) (fun hb17 => ?_)
      ·replace hk9 := inv_posB hb17 hk9
       refine T.seq ?_
       refine T.region ?_
       refine T.assign .list rfl (wants0 rfl) rfl rfl ?_
       refine T.nil ?_
       refine T.then_normal ?_
       refine T.ret ?_
       refine T.then_ret ?_
       obtain rfl := inv_some hk9
       refine T.pick [] 3 rfl rfl (Nat.le_add_left _ _) rfl ?_
       refine T.ret1 rfl rfl (fun w hS => ⟨(), rfl, hS⟩)
      ·replace hk9 := inv_negB hb17 hk9
       refine T.skip ?_
       refine T.then_normal ?_
       exact T.le (EnvLe.cons rfl (EnvLe.cons rfl (EnvLe.cons rfl (EnvLe.cons rfl EnvLe.nil)))) (T.pick [0, 1, 2] 3 rfl rfl (Nat.le_add_left _ _) rfl (J2 () () hk9))
     ·refine T.region ?_
      refine T.move .list rfl (wants0 rfl) rfl rfl ?_
      refine T.bin .list rfl (wants0 rfl) rfl rfl rfl rfl ?_
      refine T.move .list rfl (wants0 rfl) rfl rfl ?_
      refine T.bool (b := (decide (r11.2 = 0))) (fun hb18 => ?_) (fun hb18 => ?_)
      ·replace hk1 := inv_posB hb18 hk1
       refine T.move .list rfl (wants1 rfl rfl rfl (not_t hb18)) rfl rfl ?_
       refine T.lenSlice .list rfl (wants1 rfl rfl rfl (not_t hb18)) rfl rfl ?_
       refine T.bin .list rfl (wants1 rfl rfl rfl (not_t hb18)) rfl rfl rfl rfl ?_
       refine T.pickF .list rfl (wants0 rfl) rfl rfl (not_t hb18) rfl ?_
       refine T.move .list rfl (wants0 rfl) rfl rfl ?_
       refine T.bool (b := (decide ((80 : Int) < ((r3.1.length : Int))))) (fun hb19 => ?_) (fun hb19 => ?_)
       ·replace hk1 := inv_posB hb19 hk1
        refine T.leave .list (wantsNot rfl rfl rfl hb19) rfl ?_
        refine T.leave .list (wantsNot rfl rfl rfl hb19) rfl ?_
        refine T.leave .list (wantsNot rfl rfl rfl hb19) rfl ?_
        refine T.leave .list (wantsNot rfl rfl rfl hb19) rfl ?_
        refine T.pickT .list rfl (wants0 rfl) rfl rfl hb19 rfl ?_
        refine T.nil ?_
        refine T.then_normal ?_
        exact T.le (EnvLe.cons rfl (EnvLe.cons rfl (EnvLe.cons rfl (EnvLe.cons rfl (EnvLe.cons rfl EnvLe.nil))))) (T.pick [3, 7, 9] 10 rfl rfl (Nat.le_add_left _ _) rfl (J9 true () hk1))
       ·replace hk1 := inv_negB hb19 hk1
        refine T.loadN .list 0 rfl rfl (wants1 rfl rfl rfl hb19) rfl rfl (vs := [str r11.1.1, .slice x19.1.1 r11.1.2.1.length x19.1.2, .slice x19.2.1 r11.1.2.2.length x19.2.2]) rfl rfl ?_
        refine T.loadN .list 4 rfl rfl (wants1 rfl rfl rfl hb19) rfl rfl (vs := [str r1.1, .slice x1.1.1 r1.2.1.length x1.1.2, .slice x1.2.1 r1.2.2.length x1.2.2]) rfl rfl ?_
        obtain ⟨r12, hg12, hk1⟩ := inv_bind hk1
        refine T.call .list (wants1 rfl rfl rfl hb19) rfl (run_callF (vs := [_, _]) rfl Tryd.func18 rfl (by decide) rfl) (fun w hS => ref14_Same.c hB hS (i0a := 1) (i0b := 2) (i1a := 5) (i1b := 6) (a0 := (r11.1.1, r11.1.2.1, r11.1.2.2)) (a1 := (r1.1, r1.2.1, r1.2.2)) rfl rfl rfl rfl hg12) (fun x21 => ?_)
        refine T.not .list rfl (wants1 rfl rfl rfl hb19) rfl rfl ?_
        refine T.pickF .list rfl (wants0 rfl) rfl rfl hb19 rfl ?_
        refine T.nil ?_
        refine T.then_normal ?_
        exact T.le (EnvLe.cons rfl (EnvLe.cons rfl (EnvLe.cons rfl (EnvLe.cons rfl (EnvLe.cons rfl EnvLe.nil))))) (T.pick [3, 7, 9] 10 rfl rfl (Nat.le_add_left _ _) rfl (J9 (!r12) () hk1))
      ·replace hk1 := inv_negB hb18 hk1
       refine T.leave .list (wantsNot rfl rfl rfl (not_f hb18)) rfl ?_
       refine T.leave .list (wantsNot rfl rfl rfl (not_f hb18)) rfl ?_
       refine T.leave .list (wantsNot rfl rfl rfl (not_f hb18)) rfl ?_
       refine T.pickT .list rfl (wants0 rfl) rfl rfl (not_f hb18) rfl ?_
       refine T.move .list rfl (wants0 rfl) rfl rfl ?_
       refine T.leave .list (wantsNot rfl rfl rfl rfl) rfl ?_
       refine T.leave .list (wantsNot rfl rfl rfl rfl) rfl ?_
       refine T.leave .list (wantsNot rfl rfl rfl rfl) rfl ?_
       refine T.leave .list (wantsNot rfl rfl rfl rfl) rfl ?_
       refine T.pickT .list rfl (wants0 rfl) rfl rfl rfl rfl ?_
       refine T.nil ?_
       refine T.then_normal ?_
       exact T.le (EnvLe.cons rfl (EnvLe.cons rfl (EnvLe.cons rfl (EnvLe.cons rfl (EnvLe.cons rfl EnvLe.nil))))) (T.pick [3, 7, 9] 10 rfl rfl (Nat.le_add_left _ _) rfl (J9 true () hk1))
    ·replace hk1 := inv_negB hb16 hk1
     refine T.skip ?_
     refine T.then_normal ?_
     exact T.le (EnvLe.cons rfl (EnvLe.cons rfl (EnvLe.cons rfl (EnvLe.cons rfl EnvLe.nil)))) (T.pick [0, 4, 6] 7 rfl rfl (Nat.le_add_left _ _) rfl (J2 () () hk1))
 ·refine T.region ?_
  obtain ⟨r13, hg13, hr⟩ := inv_bind hr
  refine T.call .list (wants0 rfl) rfl (run_callF (vs := []) rfl Tryd.func10 rfl (by decide) rfl) (fun w hS => law14_told.c hB hS  hg13) (fun x22 => ?_)
  refine T.not .list rfl (wants0 rfl) rfl rfl ?_
  refine T.move .list rfl (wants0 rfl) rfl rfl ?_
  refine T.bool (b := r13) (fun hb20 => ?_) (fun hb20 => ?_)
  ·replace hr := inv_posB hb20 hr
   refine T.move .list rfl (wants1 rfl rfl rfl (not_t hb20)) rfl rfl ?_
   refine T.bin .list rfl (wants1 rfl rfl rfl (not_t hb20)) rfl rfl rfl rfl ?_
   refine T.loadN .list 2 rfl rfl (wants1 rfl rfl rfl (not_t hb20)) rfl rfl (vs := [str r1.1, .slice x1.1.1 r1.2.1.length x1.1.2, .slice x1.2.1 r1.2.2.length x1.2.2]) rfl rfl ?_
   obtain ⟨r14, hg14, hr⟩ := inv_bind hr
   refine T.call .list (wants1 rfl rfl rfl (not_t hb20)) rfl (run_callF (vs := [_]) rfl Tryd.func11 rfl (by decide) rfl) (fun w hS => ref14_Right.c hB hS (i0a := 4) (i0b := 5) (a0 := (r1.1, r1.2.1, r1.2.2)) rfl rfl hg14) (fun x23 => ?_)
   refine T.boolNe .list rfl (wants1 rfl rfl rfl (not_t hb20)) rfl rfl rfl (by kernel_rfl) ?_
   refine T.pickF .list rfl (wants0 rfl) rfl rfl (not_t hb20) rfl ?_
   refine T.move .list rfl (wants0 rfl) rfl rfl ?_
   refine T.bool (b := (decide ((decide (r3.2 = 0)) = r14))) (fun hb21 => ?_) (fun hb21 => ?_)
   ·replace hr := inv_posB hb21 hr
    refine T.move .list rfl (wants1 rfl rfl rfl (not_t hb21)) rfl rfl ?_
    refine T.bin .list rfl (wants1 rfl rfl rfl (not_t hb21)) rfl rfl rfl rfl ?_
    refine T.move .list rfl (wants1 rfl rfl rfl (not_t hb21)) rfl rfl ?_
    refine T.bool (b := (decide (r3.2 = 0))) (fun hb22 => ?_) (fun hb22 => ?_)
    ·replace hr := inv_posB hb22 hr
     refine T.leave .list (wantsNot rfl rfl rfl (not_t hb22)) rfl ?_
     refine T.leave .list (wantsNot rfl rfl rfl (not_t hb22)) rfl ?_
     refine T.leave .list (wantsNot rfl rfl rfl (not_t hb22)) rfl ?_
     refine T.leave .list (wantsUndef rfl rfl rfl) rfl ?_
     refine T.leave .list (wantsUndef rfl rfl rfl) rfl ?_
     refine T.leave .list (wantsUndef rfl rfl rfl) rfl ?_
     refine T.leave .list (wantsNot rfl rfl rfl (not_t hb22)) rfl ?_
     refine T.pickF .list rfl (wants1 rfl rfl rfl (not_t hb21)) rfl rfl (not_t hb22) rfl ?_
     refine T.pickF .list rfl (wants0 rfl) rfl rfl (not_t hb21) rfl ?_
     refine T.move .list rfl (wants0 rfl) rfl rfl ?_
     refine T.move .list rfl (wants1 rfl rfl rfl rfl) rfl rfl ?_
     refine T.move .list rfl (wants1 rfl rfl rfl rfl) rfl rfl ?_
     obtain ⟨r15, hg15, hr⟩ := inv_bind hr
     refine T.call .list (wants1 rfl rfl rfl rfl) rfl (run_callF (vs := [_]) rfl Tryd.func23 rfl (by decide) rfl) (fun w hS => (ref14_RowRight.c (hB.up hS) (St.borrow (ros := [Ro (Elt.pair E64 (Elt.pair E64 EStr)) x2.1 x2.2 r2]) (Ros.cons (hS.roBf 3 rfl rfl) Ros.nil)) (i0 := 0) rfl hg15).mono fun e w' ⟨x, he, h1⟩ => ⟨x, he, hS.unborrow (post := []) h1 Frees.nil⟩) (fun x24 => ?_)
     refine T.bin .list rfl (wants1 rfl rfl rfl rfl) rfl rfl rfl rfl ?_
     refine T.pickF .list rfl (wants0 rfl) rfl rfl rfl rfl ?_
     refine T.nil ?_
     refine T.then_normal ?_
     exact T.le (EnvLe.cons rfl (EnvLe.cons rfl (EnvLe.cons rfl (EnvLe.cons rfl (EnvLe.cons rfl (EnvLe.cons rfl (EnvLe.cons rfl (EnvLe.cons rfl EnvLe.nil)))))))) (T.pick [7, 2, 4, 5, 3, 1, 0] 11 rfl rfl (Nat.le_add_left _ _) rfl (J1 (!(decide (r4.2 = r15))) () hr))
    ·replace hr := inv_negB hb22 hr
     refine T.move .list rfl (wants1 rfl rfl rfl (not_f hb22)) rfl rfl ?_
     refine T.bin .list rfl (wants1 rfl rfl rfl (not_f hb22)) rfl rfl rfl rfl ?_
     refine T.move .list rfl (wants1 rfl rfl rfl (not_f hb22)) rfl rfl ?_
     refine T.bool (b := (decide (r3.2 = 61))) (fun hb23 => ?_) (fun hb23 => ?_)
     ·replace hr := inv_posB hb23 hr
      refine T.move .list rfl (wants1 rfl rfl rfl (not_t hb23)) rfl rfl ?_
      refine T.lenSlice .list rfl (wants1 rfl rfl rfl (not_t hb23)) rfl rfl ?_
      refine T.bin .list rfl (wants1 rfl rfl rfl (not_t hb23)) rfl rfl rfl rfl ?_
      refine T.pickF .list rfl (wants1 rfl rfl rfl (not_f hb22)) rfl rfl (not_t hb23) rfl ?_
      refine T.pickT .list rfl (wants1 rfl rfl rfl (not_t hb21)) rfl rfl (not_f hb22) rfl ?_
      refine T.pickF .list rfl (wants0 rfl) rfl rfl (not_t hb21) rfl ?_
      refine T.move .list rfl (wants0 rfl) rfl rfl ?_
      refine T.bool (b := (decide ((0 : Int) < ((r3.1.length : Int))))) (fun hb24 => ?_) (fun hb24 => ?_)
      ·replace hr := inv_posB hb24 hr
       refine T.leave .list (wantsNot rfl rfl rfl hb24) rfl ?_
       refine T.leave .list (wantsNot rfl rfl rfl hb24) rfl ?_
       refine T.leave .list (wantsNot rfl rfl rfl hb24) rfl ?_
       refine T.leave .list (wantsNot rfl rfl rfl hb24) rfl ?_
       refine T.pickT .list rfl (wants0 rfl) rfl rfl hb24 rfl ?_
       refine T.nil ?_
       refine T.then_normal ?_
       exact T.le (EnvLe.cons rfl (EnvLe.cons rfl (EnvLe.cons rfl (EnvLe.cons rfl (EnvLe.cons rfl (EnvLe.cons rfl (EnvLe.cons rfl (EnvLe.cons rfl EnvLe.nil)))))))) (T.pick [7, 2, 4, 5, 3, 1, 0] 11 rfl rfl (Nat.le_add_left _ _) rfl (J1 true () hr))
      ·replace hr := inv_negB hb24 hr
       refine T.move .list rfl (wants1 rfl rfl rfl hb24) rfl rfl ?_
       refine T.move .list rfl (wants1 rfl rfl rfl hb24) rfl rfl ?_
       obtain ⟨r16, hg16, hr⟩ := inv_bind hr
       refine T.call .list (wants1 rfl rfl rfl hb24) rfl (run_callF (vs := [_]) rfl Tryd.func23 rfl (by decide) rfl) (fun w hS => (ref14_RowRight.c (hB.up hS) (St.borrow (ros := [Ro (Elt.pair E64 (Elt.pair E64 EStr)) x2.1 x2.2 r2]) (Ros.cons (hS.roBf 3 rfl rfl) Ros.nil)) (i0 := 0) rfl hg16).mono fun e w' ⟨x, he, h1⟩ => ⟨x, he, hS.unborrow (post := []) h1 Frees.nil⟩) (fun x25 => ?_)
       refine T.bin .list rfl (wants1 rfl rfl rfl hb24) rfl rfl rfl rfl ?_
       refine T.pickF .list rfl (wants0 rfl) rfl rfl hb24 rfl ?_
       refine T.nil ?_
       refine T.then_normal ?_
       exact T.le (EnvLe.cons rfl (EnvLe.cons rfl (EnvLe.cons rfl (EnvLe.cons rfl (EnvLe.cons rfl (EnvLe.cons rfl (EnvLe.cons rfl (EnvLe.cons rfl EnvLe.nil)))))))) (T.pick [7, 2, 4, 5, 3, 1, 0] 11 rfl rfl (Nat.le_add_left _ _) rfl (J1 (!(decide (r4.2 = r16))) () hr))
     ·replace hr := inv_negB hb23 hr
      refine T.leave .list (wantsNot rfl rfl rfl (not_f hb23)) rfl ?_
      refine T.leave .list (wantsNot rfl rfl rfl (not_f hb23)) rfl ?_
      refine T.leave .list (wantsNot rfl rfl rfl (not_f hb23)) rfl ?_
      refine T.pickT .list rfl (wants1 rfl rfl rfl (not_f hb22)) rfl rfl (not_f hb23) rfl ?_
      refine T.pickT .list rfl (wants1 rfl rfl rfl (not_t hb21)) rfl rfl (not_f hb22) rfl ?_
      refine T.pickF .list rfl (wants0 rfl) rfl rfl (not_t hb21) rfl ?_
      refine T.move .list rfl (wants0 rfl) rfl rfl ?_
      refine T.leave .list (wantsNot rfl rfl rfl rfl) rfl ?_
      refine T.leave .list (wantsNot rfl rfl rfl rfl) rfl ?_
      refine T.leave .list (wantsNot rfl rfl rfl rfl) rfl ?_
      refine T.leave .list (wantsNot rfl rfl rfl rfl) rfl ?_
      refine T.pickT .list rfl (wants0 rfl) rfl rfl rfl rfl ?_
      refine T.nil ?_
      refine T.then_normal ?_
      exact T.le (EnvLe.cons rfl (EnvLe.cons rfl (EnvLe.cons rfl (EnvLe.cons rfl (EnvLe.cons rfl (EnvLe.cons rfl (EnvLe.cons rfl (EnvLe.cons rfl EnvLe.nil)))))))) (T.pick [7, 2, 4, 5, 3, 1, 0] 11 rfl rfl (Nat.le_add_left _ _) rfl (J1 true () hr))
   ·replace hr := inv_negB hb21 hr
    refine T.leave .list (wantsNot rfl rfl rfl (not_f hb21)) rfl ?_
    refine T.leave .list (wantsNot rfl rfl rfl (not_f hb21)) rfl ?_
    refine T.leave .list (wantsNot rfl rfl rfl (not_f hb21)) rfl ?_
    refine T.leave .list (wantsUndef rfl rfl rfl) rfl ?_
    refine T.leave .list (wantsUndef rfl rfl rfl) rfl ?_
    refine T.leave .list (wantsUndef rfl rfl rfl) rfl ?_
    refine T.leave .list (wantsUndef rfl rfl rfl) rfl ?_
    refine T.leave .list (wantsUndef rfl rfl rfl) rfl ?_
    refine T.leave .list (wantsUndef rfl rfl rfl) rfl ?_
    refine T.leave .list (wantsUndef rfl rfl rfl) rfl ?_
    refine T.leave .list (wantsNot rfl rfl rfl (not_f hb21)) rfl ?_
    refine T.pickT .list rfl (wants0 rfl) rfl rfl (not_f hb21) rfl ?_
    refine T.move .list rfl (wants0 rfl) rfl rfl ?_
    refine T.leave .list (wantsNot rfl rfl rfl rfl) rfl ?_
    refine T.leave .list (wantsNot rfl rfl rfl rfl) rfl ?_
    refine T.leave .list (wantsNot rfl rfl rfl rfl) rfl ?_
    refine T.leave .list (wantsNot rfl rfl rfl rfl) rfl ?_
    refine T.pickT .list rfl (wants0 rfl) rfl rfl rfl rfl ?_
    refine T.nil ?_
    refine T.then_normal ?_
    exact T.le (EnvLe.cons rfl (EnvLe.cons rfl (EnvLe.cons rfl (EnvLe.cons rfl (EnvLe.cons rfl (EnvLe.cons rfl (EnvLe.cons rfl (EnvLe.cons rfl EnvLe.nil)))))))) (T.pick [7, 2, 4, 5, 3, 1, 0] 11 rfl rfl (Nat.le_add_left _ _) rfl (J1 true () hr))
  ·replace hr := inv_negB hb20 hr
   refine T.leave .list (wantsNot rfl rfl rfl (not_f hb20)) rfl ?_
   refine T.leave .list (wantsNot rfl rfl rfl (not_f hb20)) rfl ?_
   refine T.leave .list (wantsNot rfl rfl rfl (not_f hb20)) rfl ?_
   refine T.leave .list (wantsNot rfl rfl rfl (not_f hb20)) rfl ?_
   refine T.leave .list (wantsNot rfl rfl rfl (not_f hb20)) rfl ?_
   refine T.pickT .list rfl (wants0 rfl) rfl rfl (not_f hb20) rfl ?_
   refine T.move .list rfl (wants0 rfl) rfl rfl ?_
   refine T.leave .list (wantsNot rfl rfl rfl rfl) rfl ?_
   refine T.leave .list (wantsNot rfl rfl rfl rfl) rfl ?_
   refine T.leave .list (wantsNot rfl rfl rfl rfl) rfl ?_
   refine T.leave .list (wantsUndef rfl rfl rfl) rfl ?_
   refine T.leave .list (wantsUndef rfl rfl rfl) rfl ?_
   refine T.leave .list (wantsUndef rfl rfl rfl) rfl ?_
   refine T.leave .list (wantsUndef rfl rfl rfl) rfl ?_
   refine T.leave .list (wantsUndef rfl rfl rfl) rfl ?_
   refine T.leave .list (wantsUndef rfl rfl rfl) rfl ?_
   refine T.leave .list (wantsUndef rfl rfl rfl) rfl ?_
   refine T.leave .list (wantsNot rfl rfl rfl rfl) rfl ?_
   refine T.pickT .list rfl (wants0 rfl) rfl rfl rfl rfl ?_
   refine T.move .list rfl (wants0 rfl) rfl rfl ?_
   refine T.leave .list (wantsNot rfl rfl rfl rfl) rfl ?_
   refine T.leave .list (wantsNot rfl rfl rfl rfl) rfl ?_
   refine T.leave .list (wantsNot rfl rfl rfl rfl) rfl ?_
   refine T.leave .list (wantsNot rfl rfl rfl rfl) rfl ?_
   refine T.pickT .list rfl (wants0 rfl) rfl rfl rfl rfl ?_
   refine T.nil ?_
   refine T.then_normal ?_
   exact T.le (EnvLe.cons rfl (EnvLe.cons rfl (EnvLe.cons rfl (EnvLe.cons rfl (EnvLe.cons rfl (EnvLe.cons rfl (EnvLe.cons rfl (EnvLe.cons rfl EnvLe.nil)))))))) (T.pick [7, 2, 4, 5, 3, 1, 0] 11 rfl rfl (Nat.le_add_left _ _) rfl (J1 true () hr))
end Go.Proofs.YtdfbknkgmhddcaaDoor
