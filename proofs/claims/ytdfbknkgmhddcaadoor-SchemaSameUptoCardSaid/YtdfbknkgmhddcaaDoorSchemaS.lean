/- SchemaS: what the functions compute, and that the program computes it; printed by a program of ours. -/
import Derived.Test.YtdfbknkgmhddcaaDoorSchemaL
set_option linter.unusedVariables false
set_option linter.unusedSimpArgs false
namespace Go.Proofs.YtdfbknkgmhddcaaDoor
open Go.RowKit
noncomputable def law14_SchemaSame.k3 (a0 : (List UInt8) × (List ((List UInt8) × Int × Int)) × (List (Int × Bool))) (l2 : List (Int × Int × (List UInt8))) (s3 : Bool) : Option Bool :=
  (if s3 = true then some false else (law14_told.impl ).bind fun r9 => (if r9 = true then (law14_copied.impl ((a0.1, a0.2.1, a0.2.2))).bind fun r10 => (law14_copied.impl ((a0.1, a0.2.1, a0.2.2))).bind fun r11 => (schema_Same.impl r10 r11).bind fun r12 => (if r12 = true then (law14_few.impl l2).bind fun r13 => (law14_few.impl l2).bind fun r14 => (schema_SameRow.impl r13 r14).bind fun r15 => some r15 else some false) else some false))
noncomputable def law14_SchemaSame.k2 (a0 : (List UInt8) × (List ((List UInt8) × Int × Int)) × (List (Int × Bool))) (l2 : List (Int × Int × (List UInt8))) (s2 : Bool) : Option Bool :=
  (if s2 = true then some false else (law14_copied.impl ((a0.1, a0.2.1, a0.2.2))).bind fun r16 => (law14_few.impl l2).bind fun r17 => (schema_Fits.impl r16 r17).bind fun r18 => (if ((decide (r18 = 0))) = true then (law14_copied.impl ((a0.1, a0.2.1, a0.2.2))).bind fun r19 => (law14_copied.impl ((a0.1, a0.2.1, a0.2.2))).bind fun r20 => (law14_few.impl l2).bind fun r21 => (schema_Fold.impl r20 r21).bind fun r22 => (schema_Fits.impl r19 r22).bind fun r23 => law14_SchemaSame.k3 a0 l2 (!(decide (r23 = 0))) else law14_SchemaSame.k3 a0 l2 false))
noncomputable def law14_SchemaSame.k1 (r6 : List UInt8 × Int) (r8 : List UInt8 × Int) (l2 : List (Int × Int × (List UInt8))) (l3 : List (Int × Int × (List UInt8))) (a0 : (List UInt8) × (List ((List UInt8) × Int × Int)) × (List (Int × Bool))) (s1 : Bool) : Option Bool :=
  (if s1 = true then some false else (if ((decide (r6.2 = 0))) = true then (if ((decide (r8.2 = 0))) = true then (law14_few.impl l2).bind fun r24 => (law14_few.impl l3).bind fun r25 => (schema_SameRow.impl r24 r25).bind fun r26 => law14_SchemaSame.k2 a0 l2 (!(decide ((decide (r6.1 = r8.1)) = r26))) else law14_SchemaSame.k2 a0 l2 false) else law14_SchemaSame.k2 a0 l2 false))
noncomputable def law14_SchemaSame.impl (a0 : (List UInt8) × (List ((List UInt8) × Int × Int)) × (List (Int × Bool))) (a1 : (List UInt8) × (List ((List UInt8) × Int × Int)) × (List (Int × Bool))) (l2 : List (Int × Int × (List UInt8))) (l3 : List (Int × Int × (List UInt8))) : Option Bool :=
  (law14_copied.impl ((a0.1, a0.2.1, a0.2.2))).bind fun r1 => (schema_Encode.impl r1).bind fun r2 => (law14_copied.impl ((a1.1, a1.2.1, a1.2.2))).bind fun r3 => (schema_Encode.impl r3).bind fun r4 => (law14_few.impl l2).bind fun r5 => (schema_EncodeRow.impl r5).bind fun r6 => (law14_few.impl l3).bind fun r7 => (schema_EncodeRow.impl r7).bind fun r8 => (if ((decide (r2.2 = 0))) = true then (if ((decide (r4.2 = 0))) = true then (law14_copied.impl ((a0.1, a0.2.1, a0.2.2))).bind fun r27 => (law14_copied.impl ((a1.1, a1.2.1, a1.2.2))).bind fun r28 => (schema_Same.impl r27 r28).bind fun r29 => law14_SchemaSame.k1 r6 r8 l2 l3 a0 (!(decide ((decide (r2.1 = r4.1)) = r29))) else law14_SchemaSame.k1 r6 r8 l2 l3 a0 false) else law14_SchemaSame.k1 r6 r8 l2 l3 a0 false)
set_option maxRecDepth 100000 in
set_option maxHeartbeats 4000000 in
theorem law14_SchemaSame.c {B : World} {hs : List MP} {w : World} {a0 : (List UInt8) × (List ((List UInt8) × Int × Int)) × (List (Int × Bool))} {i0a c0a : Nat} {A0a : Option Addr} {i0b c0b : Nat} {A0b : Option Addr} {a1 : (List UInt8) × (List ((List UInt8) × Int × Int)) × (List (Int × Bool))} {i1a c1a : Nat} {A1a : Option Addr} {i1b c1b : Nat} {A1b : Option Addr} {i2 c2 : Nat} {A2 : Option Addr} {l2 : List (Int × Int × (List UInt8))} {i3 c3 : Nat} {A3 : Option Addr} {l3 : List (Int × Int × (List UInt8))} (hB : Base B) (hS : St B (hs) w) (h0a : (hs)[i0a]? = some (Ro (Elt.pair EStr (Elt.pair E64 E64)) A0a c0a a0.2.1)) (h0b : (hs)[i0b]? = some (Ro (Elt.pair E64 EBool) A0b c0b a0.2.2)) (h1a : (hs)[i1a]? = some (Ro (Elt.pair EStr (Elt.pair E64 E64)) A1a c1a a1.2.1)) (h1b : (hs)[i1b]? = some (Ro (Elt.pair E64 EBool) A1b c1b a1.2.2)) (h2 : (hs)[i2]? = some (Ro (Elt.pair E64 (Elt.pair E64 EStr)) A2 c2 l2)) (h3 : (hs)[i3]? = some (Ro (Elt.pair E64 (Elt.pair E64 EStr)) A3 c3 l3)) {r : Bool} (hr : law14_SchemaSame.impl a0 a1 l2 l3 = some r) :
    Calls Tryd.prog 4 #[.agg #[str a0.1, .slice A0a a0.2.1.length c0a, .slice A0b a0.2.2.length c0b], .agg #[str a1.1, .slice A1a a1.2.1.length c1a, .slice A1b a1.2.2.length c1b], .slice A2 l2.length c2, .slice A3 l3.length c3] w fun e w' => ∃ x : Unit, e = .returned (.bool r) ∧ St B (hs) w' := by
 unfold law14_SchemaSame.impl at hr
 refine calls_T Tryd.func4 rfl rfl rfl hS ?_
 refine T.front i0a h0a ?_
 refine T.front (i0b + 1) h0b ?_
 refine T.front (i1a + 2) h1a ?_
 refine T.front (i1b + 3) h1b ?_
 refine T.front (i2 + 4) h2 ?_
 refine T.front (i3 + 5) h3 ?_
 refine T.seq ?_
 refine T.region ?_
 refine T.boxS .list rfl (wants0 rfl) rfl rfl (cs := [str a0.1, .slice A0a a0.2.1.length c0a, .slice A0b a0.2.2.length c0b]) rfl (fun b1 => ?_)
 refine T.boxS .list rfl (wants0 rfl) rfl rfl (cs := [str a1.1, .slice A1a a1.2.1.length c1a, .slice A1b a1.2.2.length c1b]) rfl (fun b2 => ?_)
 refine T.assign .list rfl (wants0 rfl) rfl rfl ?_
 refine T.nil ?_
 refine T.then_normal ?_
 refine T.seq ?_
 refine T.region ?_
 refine T.loadN .list 1 rfl rfl (wants0 rfl) rfl rfl (vs := [str a0.1, .slice A0a a0.2.1.length c0a, .slice A0b a0.2.2.length c0b]) rfl rfl ?_
 obtain ⟨r1, hg1, hr⟩ := inv_bind hr
 refine T.call .list (wants0 rfl) rfl (run_callF (vs := [_]) rfl Tryd.func6 rfl (by decide) rfl) (fun w hS => law14_copied.c hB hS (i0a := 7) (i0b := 6) (a0 := (a0.1, a0.2.1, a0.2.2)) rfl rfl hg1) (fun x1 => ?_)
 obtain ⟨r2, hg2, hr⟩ := inv_bind hr
 refine T.call .list (wants0 rfl) rfl (run_callF (vs := [_]) rfl Tryd.func19 rfl (by decide) rfl) (fun w hS => schema_Encode.c hB hS (i0a := 0) (i0b := 1) (a0 := r1) rfl rfl hg2) (fun x2 => ?_)
 refine T.move .list rfl (wants0 rfl) rfl rfl ?_
 refine T.extract .list rfl (wants0 rfl) rfl rfl rfl ?_
 refine T.extract .list rfl (wants0 rfl) rfl rfl rfl ?_
 refine T.assign .list rfl (wants0 rfl) rfl rfl ?_
 refine T.assign .list rfl (wants0 rfl) rfl rfl ?_
 refine T.nil ?_
 refine T.then_normal ?_
 refine T.seq ?_
 refine T.region ?_
 refine T.loadN .list 3 rfl rfl (wants0 rfl) rfl rfl (vs := [str a1.1, .slice A1a a1.2.1.length c1a, .slice A1b a1.2.2.length c1b]) rfl rfl ?_
 obtain ⟨r3, hg3, hr⟩ := inv_bind hr
 refine T.call .list (wants0 rfl) rfl (run_callF (vs := [_]) rfl Tryd.func6 rfl (by decide) rfl) (fun w hS => law14_copied.c hB hS (i0a := 8) (i0b := 7) (a0 := (a1.1, a1.2.1, a1.2.2)) rfl rfl hg3) (fun x3 => ?_)
 obtain ⟨r4, hg4, hr⟩ := inv_bind hr
 refine T.call .list (wants0 rfl) rfl (run_callF (vs := [_]) rfl Tryd.func19 rfl (by decide) rfl) (fun w hS => schema_Encode.c hB hS (i0a := 0) (i0b := 1) (a0 := r3) rfl rfl hg4) (fun x4 => ?_)
 refine T.move .list rfl (wants0 rfl) rfl rfl ?_
 refine T.extract .list rfl (wants0 rfl) rfl rfl rfl ?_
 refine T.extract .list rfl (wants0 rfl) rfl rfl rfl ?_
 refine T.assign .list rfl (wants0 rfl) rfl rfl ?_
 refine T.assign .list rfl (wants0 rfl) rfl rfl ?_
 refine T.nil ?_
 refine T.then_normal ?_
 refine T.seq ?_
 refine T.region ?_
 refine T.move .list rfl (wants0 rfl) rfl rfl ?_
 obtain ⟨r5, hg5, hr⟩ := inv_bind hr
 refine T.call .list (wants0 rfl) rfl (run_callF (vs := [_]) rfl Tryd.func7 rfl (by decide) rfl) (fun w hS => law14_few.c hB hS (i0 := 9) rfl hg5) (fun x5 => ?_)
 obtain ⟨r6, hg6, hr⟩ := inv_bind hr
 refine T.call .list (wants0 rfl) rfl (run_callF (vs := [_]) rfl Tryd.func20 rfl (by decide) rfl) (fun w hS => (schema_EncodeRow.c (hB.up hS) (St.borrow (ros := [Ro (Elt.pair E64 (Elt.pair E64 EStr)) x5.1 x5.2 r5]) (Ros.cons (hS.roBf 0 rfl rfl) Ros.nil)) (i0 := 0) rfl hg6).mono fun e w' ⟨x, he, h1⟩ => ⟨x, he, hS.unborrow (post := [Bf E8 5 x.1 x.2 r6.1]) h1 (Frees.cons (Bf.free .sc) Frees.nil)⟩) (fun x6 => ?_)
 refine T.move .list rfl (wants0 rfl) rfl rfl ?_
 refine T.extract .list rfl (wants0 rfl) rfl rfl rfl ?_
 refine T.extract .list rfl (wants0 rfl) rfl rfl rfl ?_
 refine T.assign .list rfl (wants0 rfl) rfl rfl ?_
 refine T.assign .list rfl (wants0 rfl) rfl rfl ?_
 refine T.nil ?_
 refine T.then_normal ?_
 refine T.seq ?_
 refine T.region ?_
 refine T.move .list rfl (wants0 rfl) rfl rfl ?_
 obtain ⟨r7, hg7, hr⟩ := inv_bind hr
 refine T.call .list (wants0 rfl) rfl (run_callF (vs := [_]) rfl Tryd.func7 rfl (by decide) rfl) (fun w hS => law14_few.c hB hS (i0 := 10) rfl hg7) (fun x7 => ?_)
 obtain ⟨r8, hg8, hr⟩ := inv_bind hr
 refine T.call .list (wants0 rfl) rfl (run_callF (vs := [_]) rfl Tryd.func20 rfl (by decide) rfl) (fun w hS => (schema_EncodeRow.c (hB.up hS) (St.borrow (ros := [Ro (Elt.pair E64 (Elt.pair E64 EStr)) x7.1 x7.2 r7]) (Ros.cons (hS.roBf 0 rfl rfl) Ros.nil)) (i0 := 0) rfl hg8).mono fun e w' ⟨x, he, h1⟩ => ⟨x, he, hS.unborrow (post := [Bf E8 5 x.1 x.2 r8.1]) h1 (Frees.cons (Bf.free .sc) Frees.nil)⟩) (fun x8 => ?_)
 refine T.move .list rfl (wants0 rfl) rfl rfl ?_
 refine T.extract .list rfl (wants0 rfl) rfl rfl rfl ?_
 refine T.extract .list rfl (wants0 rfl) rfl rfl rfl ?_
 refine T.assign .list rfl (wants0 rfl) rfl rfl ?_
 refine T.assign .list rfl (wants0 rfl) rfl rfl ?_
 refine T.nil ?_
 refine T.then_normal ?_
 refine T.seq ?_
 refine T.seqJ (fun (s1 : Bool) (x9 : Unit) => [(2, .slice A2 l2.length c2), (3, .slice A3 l3.length c3), (4, .pointer (some ⟨b1, 0, none⟩)), (13, .slice x6.1 r6.1.length x6.2), (14, .int .i64 r6.2), (15, .slice x8.1 r8.1.length x8.2), (16, .int .i64 r8.2), (59, .bool s1)]) (fun s1 x9 => Ro (Elt.pair E64 (Elt.pair E64 EStr)) A2 c2 l2 :: Ro (Elt.pair E64 (Elt.pair E64 EStr)) A3 c3 l3 :: Cl b1 25 [str a0.1, .slice A0a a0.2.1.length c0a, .slice A0b a0.2.2.length c0b] :: Ro (Elt.pair EStr (Elt.pair E64 E64)) A0a c0a a0.2.1 :: Ro (Elt.pair E64 EBool) A0b c0b a0.2.2 :: Bf E8 5 x6.1 x6.2 r6.1 :: Bf E8 5 x8.1 x8.2 r8.1 :: hs) (fun s1 => law14_SchemaSame.k1 r6 r8 l2 l3 a0 s1 = some r) (fun s1 x9 hk1 => ?_) (fun J1 => ?_)
 ·unfold law14_SchemaSame.k1 at hk1
  refine T.cond rfl (fun hb1 => ?_) (fun hb1 => ?_)
  ·replace hk1 := inv_posB hb1 hk1
   refine T.seq ?_
   refine T.region ?_
   refine T.assign .list rfl (wants0 rfl) rfl rfl ?_
   refine T.nil ?_
   refine T.then_normal ?_
   refine T.ret ?_
   refine T.then_ret ?_
   obtain rfl := inv_some hk1
   refine T.pick [] 7 rfl rfl (Nat.le_add_left _ _) rfl ?_
   refine T.ret1 rfl rfl (fun w hS => ⟨(), rfl, hS⟩)
  ·replace hk1 := inv_negB hb1 hk1
   refine T.skip ?_
   refine T.then_normal ?_
   refine T.seq ?_
   refine T.seqJ (fun (s2 : Bool) (x10 : Unit) => [(2, .slice A2 l2.length c2), (4, .pointer (some ⟨b1, 0, none⟩)), (78, .bool s2)]) (fun s2 x10 => Ro (Elt.pair E64 (Elt.pair E64 EStr)) A2 c2 l2 :: Cl b1 25 [str a0.1, .slice A0a a0.2.1.length c0a, .slice A0b a0.2.2.length c0b] :: Ro (Elt.pair EStr (Elt.pair E64 E64)) A0a c0a a0.2.1 :: Ro (Elt.pair E64 EBool) A0b c0b a0.2.2 :: hs) (fun s2 => law14_SchemaSame.k2 a0 l2 s2 = some r) (fun s2 x10 hk2 => ?_) (fun J2 => ?_)
   ·unfold law14_SchemaSame.k2 at hk2
    refine T.cond rfl (fun hb2 => ?_) (fun hb2 => ?_)
    ·replace hk2 := inv_posB hb2 hk2
     refine T.seq ?_
     refine T.region ?_
     refine T.assign .list rfl (wants0 rfl) rfl rfl ?_
     refine T.nil ?_
     refine T.then_normal ?_
     refine T.ret ?_
     refine T.then_ret ?_
     obtain rfl := inv_some hk2
     refine T.pick [] 4 rfl rfl (Nat.le_add_left _ _) rfl ?_
     refine T.ret1 rfl rfl (fun w hS => ⟨(), rfl, hS⟩)
    ·replace hk2 := inv_negB hb2 hk2
     refine T.skip ?_
     refine T.then_normal ?_
     refine T.seq ?_
     refine T.seqJ (fun (s3 : Bool) (x11 : Unit) => [(2, .slice A2 l2.length c2), (4, .pointer (some ⟨b1, 0, none⟩)), (95, .bool s3)]) (fun s3 x11 => Ro (Elt.pair E64 (Elt.pair E64 EStr)) A2 c2 l2 :: Cl b1 25 [str a0.1, .slice A0a a0.2.1.length c0a, .slice A0b a0.2.2.length c0b] :: Ro (Elt.pair EStr (Elt.pair E64 E64)) A0a c0a a0.2.1 :: Ro (Elt.pair E64 EBool) A0b c0b a0.2.2 :: hs) (fun s3 => law14_SchemaSame.k3 a0 l2 s3 = some r) (fun s3 x11 hk3 => ?_) (fun J3 => ?_)
     ·unfold law14_SchemaSame.k3 at hk3
      refine T.cond rfl (fun hb3 => ?_) (fun hb3 => ?_)
      ·replace hk3 := inv_posB hb3 hk3
       refine T.seq ?_
       refine T.region ?_
       refine T.assign .list rfl (wants0 rfl) rfl rfl ?_
       refine T.nil ?_
       refine T.then_normal ?_
       refine T.ret ?_
       refine T.then_ret ?_
       obtain rfl := inv_some hk3
       refine T.pick [] 4 rfl rfl (Nat.le_add_left _ _) rfl ?_
       refine T.ret1 rfl rfl (fun w hS => ⟨(), rfl, hS⟩)
      ·replace hk3 := inv_negB hb3 hk3
       refine T.skip ?_
       refine T.then_normal ?_
       refine T.seq ?_
       refine T.dStart mixed ?_
       obtain ⟨r9, hg9, hk3⟩ := inv_bind hk3
       refine T.dOnly (i := 0) (by kernel_rfl) ?_
       refine T.call (.dOne rfl (by kernel_rfl)) (wants0 rfl) rfl (run_callF (vs := []) rfl Tryd.func10 rfl (by decide) rfl) (fun w hS => law14_told.c hB hS  hg9) (fun x12 => ?_)
       refine T.dNext phi_nil ?_
       refine T.move (.dPure (i := 1) rfl (by kernel_rfl) (fun d _ _ _ _ h => by cases d <;> exact h)) rfl (wants0 rfl) rfl rfl ?_
       refine T.bool (b := r9) (fun hb4 => ?_) (fun hb4 => ?_)
       ·replace hk3 := inv_posB hb4 hk3
        refine T.dAdd 16 (fun w => w.heap[b1]? = some (.cells [str a0.1, .slice A0a a0.2.1.length c0a, .slice A0b a0.2.2.length c0b].toArray 25 (0, 0))) (Cl.stays 1 rfl) ?_
        refine T.valS 0 (i := 2) (.agg #[str a0.1, .slice A0a a0.2.1.length c0a, .slice A0b a0.2.2.length c0b]) rfl rfl (by kernel_rfl) (by kernel_rfl) (fun d _ _ _ _ h => by cases d <;> exact h) (wants1 rfl rfl rfl hb4) rfl (run_ldClN rfl rfl (vs := [str a0.1, .slice A0a a0.2.1.length c0a, .slice A0b a0.2.2.length c0b]) rfl rfl) ?_
        refine T.valS 0 (i := 4) (.agg #[str a0.1, .slice A0a a0.2.1.length c0a, .slice A0b a0.2.2.length c0b]) rfl rfl (by kernel_rfl) (by kernel_rfl) (fun d _ _ _ _ h => by cases d <;> exact h) (wants1 rfl rfl rfl hb4) rfl (run_ldClN rfl rfl (vs := [str a0.1, .slice A0a a0.2.1.length c0a, .slice A0b a0.2.2.length c0b]) rfl rfl) ?_
        obtain ⟨r10, hg10, hk3⟩ := inv_bind hk3
        refine T.dOnly (i := 3) (by kernel_rfl) ?_
        refine T.call (.dOne rfl (by kernel_rfl)) (wants1 rfl rfl rfl hb4) rfl (run_callF (vs := [_]) rfl Tryd.func6 rfl (by decide) rfl) (fun w hS => law14_copied.c hB hS (i0a := 2) (i0b := 3) (a0 := (a0.1, a0.2.1, a0.2.2)) rfl rfl hg10) (fun x13 => ?_)
        refine T.dNext (phi_cons (.inr (Cl.stays 3 rfl)) phi_nil) ?_
        obtain ⟨r11, hg11, hk3⟩ := inv_bind hk3
        refine T.dOnly (i := 5) (by kernel_rfl) ?_
        refine T.call (.dOne rfl (by kernel_rfl)) (wants1 rfl rfl rfl hb4) rfl (run_callF (vs := [_]) rfl Tryd.func6 rfl (by decide) rfl) (fun w hS => law14_copied.c hB hS (i0a := 4) (i0b := 5) (a0 := (a0.1, a0.2.1, a0.2.2)) rfl rfl hg11) (fun x14 => ?_)
        refine T.dNext (phi_cons (.inr (Cl.stays 5 rfl)) phi_nil) ?_
        obtain ⟨r12, hg12, hk3⟩ := inv_bind hk3
        refine T.dOnly (i := 6) (by kernel_rfl) ?_
        refine T.call (.dOne rfl (by kernel_rfl)) (wants1 rfl rfl rfl hb4) rfl (run_callF (vs := [_, _]) rfl Tryd.func21 rfl (by decide) rfl) (fun w hS => schema_Same.c hB hS (i0a := 2) (i0b := 3) (i1a := 0) (i1b := 1) (a0 := r10) (a1 := r11) rfl rfl rfl rfl hg12) (fun x15 => ?_)
        refine T.dNext (phi_cons (.inr (Cl.stays 5 rfl)) phi_nil) ?_
        refine T.pickT (.dPure (i := 7) rfl (by kernel_rfl) (fun d _ _ _ _ h => by cases d <;> exact h)) rfl (wants0 rfl) rfl rfl hb4 rfl ?_
        refine T.move (.dPure (i := 8) rfl (by kernel_rfl) (fun d _ _ _ _ h => by cases d <;> exact h)) rfl (wants0 rfl) rfl rfl ?_
        refine T.bool (b := r12) (fun hb5 => ?_) (fun hb5 => ?_)
        ·replace hk3 := inv_posB hb5 hk3
         refine T.move (.dPure (i := 9) rfl (by kernel_rfl) (fun d _ _ _ _ h => by cases d <;> exact h)) rfl (wants1 rfl rfl rfl hb5) rfl rfl ?_
         refine T.move (.dPure (i := 11) rfl (by kernel_rfl) (fun d _ _ _ _ h => by cases d <;> exact h)) rfl (wants1 rfl rfl rfl hb5) rfl rfl ?_
         obtain ⟨r13, hg13, hk3⟩ := inv_bind hk3
         refine T.dOnly (i := 10) (by kernel_rfl) ?_
         refine T.call (.dOne rfl (by kernel_rfl)) (wants1 rfl rfl rfl hb5) rfl (run_callF (vs := [_]) rfl Tryd.func7 rfl (by decide) rfl) (fun w hS => law14_few.c hB hS (i0 := 4) rfl hg13) (fun x16 => ?_)
         refine T.dNext (phi_cons (.inr (Cl.stays 6 rfl)) phi_nil) ?_
         obtain ⟨r14, hg14, hk3⟩ := inv_bind hk3
         refine T.dOnly (i := 12) (by kernel_rfl) ?_
         refine T.call (.dOne rfl (by kernel_rfl)) (wants1 rfl rfl rfl hb5) rfl (run_callF (vs := [_]) rfl Tryd.func7 rfl (by decide) rfl) (fun w hS => law14_few.c hB hS (i0 := 5) rfl hg14) (fun x17 => ?_)
         refine T.dNext (phi_cons (.inr (Cl.stays 7 rfl)) phi_nil) ?_
         obtain ⟨r15, hg15, hk3⟩ := inv_bind hk3
         refine T.dOnly (i := 13) (by kernel_rfl) ?_
         refine T.call (.dOne rfl (by kernel_rfl)) (wants1 rfl rfl rfl hb5) rfl (run_callF (vs := [_, _]) rfl Tryd.func22 rfl (by decide) rfl) (fun w hS => (schema_SameRow.c (hB.up hS) (St.borrow (ros := [Ro (Elt.pair E64 (Elt.pair E64 EStr)) x16.1 x16.2 r13, Ro (Elt.pair E64 (Elt.pair E64 EStr)) x17.1 x17.2 r14]) (Ros.cons (hS.roBf 1 rfl rfl) (Ros.cons (hS.roBf 0 rfl rfl) Ros.nil))) (i0 := 0) (i1 := 1) rfl rfl hg15).mono fun e w' ⟨x, he, h1⟩ => ⟨x, he, hS.unborrow (post := []) h1 Frees.nil⟩) (fun x18 => ?_)
         refine T.dNext (phi_cons (.inr (Cl.stays 7 rfl)) phi_nil) ?_
         refine T.pickT (.dPure (i := 14) rfl (by kernel_rfl) (fun d _ _ _ _ h => by cases d <;> exact h)) rfl (wants0 rfl) rfl rfl hb5 rfl ?_
         refine T.assign (.dPure (i := 15) rfl (by kernel_rfl) (fun d _ _ _ _ h => by cases d <;> exact h)) rfl (wants0 rfl) rfl rfl ?_
         refine T.dDone (by kernel_rfl) ?_
         refine T.then_normal ?_
         refine T.ret ?_
         obtain rfl := inv_some hk3
         refine T.pick [] 10 rfl rfl (Nat.le_add_left _ _) rfl ?_
         refine T.ret1 rfl rfl (fun w hS => ⟨(), rfl, hS⟩)
        ·replace hk3 := inv_negB hb5 hk3
         refine T.leave (.dPure (i := 9) rfl (by kernel_rfl) (fun d _ _ _ _ h => by cases d <;> exact h)) (wantsNot rfl rfl rfl hb5) rfl ?_
         refine T.leave (.dPure (i := 10) rfl (by kernel_rfl) (fun d _ _ _ _ h => by cases d <;> exact h)) (wantsNot rfl rfl rfl hb5) rfl ?_
         refine T.leave (.dPure (i := 11) rfl (by kernel_rfl) (fun d _ _ _ _ h => by cases d <;> exact h)) (wantsNot rfl rfl rfl hb5) rfl ?_
         refine T.leave (.dPure (i := 12) rfl (by kernel_rfl) (fun d _ _ _ _ h => by cases d <;> exact h)) (wantsNot rfl rfl rfl hb5) rfl ?_
         refine T.leave (.dPure (i := 13) rfl (by kernel_rfl) (fun d _ _ _ _ h => by cases d <;> exact h)) (wantsNot rfl rfl rfl hb5) rfl ?_
         refine T.pickF (.dPure (i := 14) rfl (by kernel_rfl) (fun d _ _ _ _ h => by cases d <;> exact h)) rfl (wants0 rfl) rfl rfl hb5 rfl ?_
         refine T.assign (.dPure (i := 15) rfl (by kernel_rfl) (fun d _ _ _ _ h => by cases d <;> exact h)) rfl (wants0 rfl) rfl rfl ?_
         refine T.dDone (by kernel_rfl) ?_
         refine T.then_normal ?_
         refine T.ret ?_
         obtain rfl := inv_some hk3
         refine T.pick [] 8 rfl rfl (Nat.le_add_left _ _) rfl ?_
         refine T.ret1 rfl rfl (fun w hS => ⟨(), rfl, hS⟩)
       ·replace hk3 := inv_negB hb4 hk3
        refine T.leave (.dPure (i := 2) rfl (by kernel_rfl) (fun d _ _ _ _ h => by cases d <;> exact h)) (wantsNot rfl rfl rfl hb4) rfl ?_
        refine T.leave (.dPure (i := 3) rfl (by kernel_rfl) (fun d _ _ _ _ h => by cases d <;> exact h)) (wantsNot rfl rfl rfl hb4) rfl ?_
        refine T.leave (.dPure (i := 4) rfl (by kernel_rfl) (fun d _ _ _ _ h => by cases d <;> exact h)) (wantsNot rfl rfl rfl hb4) rfl ?_
        refine T.leave (.dPure (i := 5) rfl (by kernel_rfl) (fun d _ _ _ _ h => by cases d <;> exact h)) (wantsNot rfl rfl rfl hb4) rfl ?_
        refine T.leave (.dPure (i := 6) rfl (by kernel_rfl) (fun d _ _ _ _ h => by cases d <;> exact h)) (wantsNot rfl rfl rfl hb4) rfl ?_
        refine T.pickF (.dPure (i := 7) rfl (by kernel_rfl) (fun d _ _ _ _ h => by cases d <;> exact h)) rfl (wants0 rfl) rfl rfl hb4 rfl ?_
        refine T.move (.dPure (i := 8) rfl (by kernel_rfl) (fun d _ _ _ _ h => by cases d <;> exact h)) rfl (wants0 rfl) rfl rfl ?_
        refine T.leave (.dPure (i := 9) rfl (by kernel_rfl) (fun d _ _ _ _ h => by cases d <;> exact h)) (wantsNot rfl rfl rfl rfl) rfl ?_
        refine T.leave (.dPure (i := 10) rfl (by kernel_rfl) (fun d _ _ _ _ h => by cases d <;> exact h)) (wantsNot rfl rfl rfl rfl) rfl ?_
        refine T.leave (.dPure (i := 11) rfl (by kernel_rfl) (fun d _ _ _ _ h => by cases d <;> exact h)) (wantsNot rfl rfl rfl rfl) rfl ?_
        refine T.leave (.dPure (i := 12) rfl (by kernel_rfl) (fun d _ _ _ _ h => by cases d <;> exact h)) (wantsNot rfl rfl rfl rfl) rfl ?_
        refine T.leave (.dPure (i := 13) rfl (by kernel_rfl) (fun d _ _ _ _ h => by cases d <;> exact h)) (wantsNot rfl rfl rfl rfl) rfl ?_
        refine T.pickF (.dPure (i := 14) rfl (by kernel_rfl) (fun d _ _ _ _ h => by cases d <;> exact h)) rfl (wants0 rfl) rfl rfl rfl rfl ?_
        refine T.assign (.dPure (i := 15) rfl (by kernel_rfl) (fun d _ _ _ _ h => by cases d <;> exact h)) rfl (wants0 rfl) rfl rfl ?_
        refine T.dDone (by kernel_rfl) ?_
        refine T.then_normal ?_
        refine T.ret ?_
        obtain rfl := inv_some hk3
        refine T.pick [] 4 rfl rfl (Nat.le_add_left _ _) rfl ?_
        refine T.ret1 rfl rfl (fun w hS => ⟨(), rfl, hS⟩)
     ·refine T.dStart mixed ?_
      refine T.move (.dPure (i := 2) rfl (by kernel_rfl) (fun d _ _ _ _ h => by cases d <;> exact h)) rfl (wants0 rfl) rfl rfl ?_
      refine T.dAdd 17 (fun w => w.heap[b1]? = some (.cells [str a0.1, .slice A0a a0.2.1.length c0a, .slice A0b a0.2.2.length c0b].toArray 25 (0, 0))) (Cl.stays 1 rfl) ?_
      refine T.valS 0 (i := 0) (.agg #[str a0.1, .slice A0a a0.2.1.length c0a, .slice A0b a0.2.2.length c0b]) rfl rfl (by kernel_rfl) (by kernel_rfl) (fun d _ _ _ _ h => by cases d <;> exact h) (wants0 rfl) rfl (run_ldClN rfl rfl (vs := [str a0.1, .slice A0a a0.2.1.length c0a, .slice A0b a0.2.2.length c0b]) rfl rfl) ?_
      obtain ⟨r16, hg16, hk2⟩ := inv_bind hk2
      refine T.dOnly (i := 1) (by kernel_rfl) ?_
      refine T.call (.dOne rfl (by kernel_rfl)) (wants0 rfl) rfl (run_callF (vs := [_]) rfl Tryd.func6 rfl (by decide) rfl) (fun w hS => law14_copied.c hB hS (i0a := 2) (i0b := 3) (a0 := (a0.1, a0.2.1, a0.2.2)) rfl rfl hg16) (fun x19 => ?_)
      refine T.dNext (phi_cons (.inr (Cl.stays 3 rfl)) phi_nil) ?_
      obtain ⟨r17, hg17, hk2⟩ := inv_bind hk2
      refine T.dOnly (i := 3) (by kernel_rfl) ?_
      refine T.call (.dOne rfl (by kernel_rfl)) (wants0 rfl) rfl (run_callF (vs := [_]) rfl Tryd.func7 rfl (by decide) rfl) (fun w hS => law14_few.c hB hS (i0 := 2) rfl hg17) (fun x20 => ?_)
      refine T.dNext (phi_cons (.inr (Cl.stays 4 rfl)) phi_nil) ?_
      obtain ⟨r18, hg18, hk2⟩ := inv_bind hk2
      refine T.dOnly (i := 4) (by kernel_rfl) ?_
      refine T.call (.dOne rfl (by kernel_rfl)) (wants0 rfl) rfl (run_callF (vs := [_, _]) rfl Tryd.func12 rfl (by decide) rfl) (fun w hS => (schema_Fits.c (hB.up hS) (St.borrow (ros := [Ro (Elt.pair EStr (Elt.pair E64 E64)) x19.1.1 x19.1.2 r16.2.1, Ro (Elt.pair E64 EBool) x19.2.1 x19.2.2 r16.2.2, Ro (Elt.pair E64 (Elt.pair E64 EStr)) x20.1 x20.2 r17]) (Ros.cons (hS.roRo 1 rfl) (Ros.cons (hS.roRo 2 rfl) (Ros.cons (hS.roBf 0 rfl rfl) Ros.nil)))) (i0a := 0) (i0b := 1) (i1 := 2) (a0 := r16) rfl rfl rfl hg18).mono fun e w' ⟨x, he, h1⟩ => ⟨x, he, hS.unborrow (post := []) h1 Frees.nil⟩) (fun x21 => ?_)
      refine T.dNext (phi_cons (.inr (Cl.stays 4 rfl)) phi_nil) ?_
      refine T.bin (.dPure (i := 5) rfl (by kernel_rfl) (fun d _ _ _ _ h => by cases d <;> exact h)) rfl (wants0 rfl) rfl rfl rfl rfl ?_
      refine T.move (.dPure (i := 6) rfl (by kernel_rfl) (fun d _ _ _ _ h => by cases d <;> exact h)) rfl (wants0 rfl) rfl rfl ?_
      refine T.bool (b := (decide (r18 = 0))) (fun hb6 => ?_) (fun hb6 => ?_)
      ·replace hk2 := inv_posB hb6 hk2
       refine T.move (.dPure (i := 11) rfl (by kernel_rfl) (fun d _ _ _ _ h => by cases d <;> exact h)) rfl (wants1 rfl rfl rfl hb6) rfl rfl ?_
       refine T.valS 0 (i := 7) (.agg #[str a0.1, .slice A0a a0.2.1.length c0a, .slice A0b a0.2.2.length c0b]) rfl rfl (by kernel_rfl) (by kernel_rfl) (fun d _ _ _ _ h => by cases d <;> exact h) (wants1 rfl rfl rfl hb6) rfl (run_ldClN rfl rfl (vs := [str a0.1, .slice A0a a0.2.1.length c0a, .slice A0b a0.2.2.length c0b]) rfl rfl) ?_
       refine T.valS 0 (i := 9) (.agg #[str a0.1, .slice A0a a0.2.1.length c0a, .slice A0b a0.2.2.length c0b]) rfl rfl (by kernel_rfl) (by kernel_rfl) (fun d _ _ _ _ h => by cases d <;> exact h) (wants1 rfl rfl rfl hb6) rfl (run_ldClN rfl rfl (vs := [str a0.1, .slice A0a a0.2.1.length c0a, .slice A0b a0.2.2.length c0b]) rfl rfl) ?_
       obtain ⟨r19, hg19, hk2⟩ := inv_bind hk2
       refine T.dOnly (i := 8) (by kernel_rfl) ?_
       refine T.call (.dOne rfl (by kernel_rfl)) (wants1 rfl rfl rfl hb6) rfl (run_callF (vs := [_]) rfl Tryd.func6 rfl (by decide) rfl) (fun w hS => law14_copied.c hB hS (i0a := 5) (i0b := 6) (a0 := (a0.1, a0.2.1, a0.2.2)) rfl rfl hg19) (fun x22 => ?_)
       refine T.dNext (phi_cons (.inr (Cl.stays 6 rfl)) phi_nil) ?_
       obtain ⟨r20, hg20, hk2⟩ := inv_bind hk2
       refine T.dOnly (i := 10) (by kernel_rfl) ?_
       refine T.call (.dOne rfl (by kernel_rfl)) (wants1 rfl rfl rfl hb6) rfl (run_callF (vs := [_]) rfl Tryd.func6 rfl (by decide) rfl) (fun w hS => law14_copied.c hB hS (i0a := 7) (i0b := 8) (a0 := (a0.1, a0.2.1, a0.2.2)) rfl rfl hg20) (fun x23 => ?_)
       refine T.dNext (phi_cons (.inr (Cl.stays 8 rfl)) phi_nil) ?_
       obtain ⟨r21, hg21, hk2⟩ := inv_bind hk2
       refine T.dOnly (i := 12) (by kernel_rfl) ?_
       refine T.call (.dOne rfl (by kernel_rfl)) (wants1 rfl rfl rfl hb6) rfl (run_callF (vs := [_]) rfl Tryd.func7 rfl (by decide) rfl) (fun w hS => law14_few.c hB hS (i0 := 7) rfl hg21) (fun x24 => ?_)
       refine T.dNext (phi_cons (.inr (Cl.stays 9 rfl)) phi_nil) ?_
       obtain ⟨r22, hg22, hk2⟩ := inv_bind hk2
       refine T.dOnly (i := 13) (by kernel_rfl) ?_
       refine T.call (.dOne rfl (by kernel_rfl)) (wants1 rfl rfl rfl hb6) rfl (run_callF (vs := [_, _]) rfl Tryd.func9 rfl (by decide) rfl) (fun w hS => (schema_Fold.c (hB.up hS) (St.borrow (ros := [Ro (Elt.pair EStr (Elt.pair E64 E64)) x23.1.1 x23.1.2 r20.2.1, Ro (Elt.pair E64 EBool) x23.2.1 x23.2.2 r20.2.2, Ro (Elt.pair E64 (Elt.pair E64 EStr)) x24.1 x24.2 r21]) (Ros.cons (hS.roRo 1 rfl) (Ros.cons (hS.roRo 2 rfl) (Ros.cons (hS.roBf 0 rfl rfl) Ros.nil)))) (i0a := 0) (i0b := 1) (i1 := 2) (a0 := r20) rfl rfl rfl hg22).mono fun e w' ⟨x, he, h1⟩ => ⟨x, he, hS.unborrow (post := [Bf (Elt.pair E64 (Elt.pair E64 EStr)) 39 x.1 x.2 r22]) h1 (Frees.cons (Bf.free (.pair .sc (.pair .sc .sc))) Frees.nil)⟩) (fun x25 => ?_)
       refine T.dNext (phi_cons (.inr (Cl.stays 10 rfl)) phi_nil) ?_
       obtain ⟨r23, hg23, hk2⟩ := inv_bind hk2
       refine T.dOnly (i := 14) (by kernel_rfl) ?_
       refine T.call (.dOne rfl (by kernel_rfl)) (wants1 rfl rfl rfl hb6) rfl (run_callF (vs := [_, _]) rfl Tryd.func12 rfl (by decide) rfl) (fun w hS => (schema_Fits.c (hB.up hS) (St.borrow (ros := [Ro (Elt.pair EStr (Elt.pair E64 E64)) x22.1.1 x22.1.2 r19.2.1, Ro (Elt.pair E64 EBool) x22.2.1 x22.2.2 r19.2.2, Ro (Elt.pair E64 (Elt.pair E64 EStr)) x25.1 x25.2 r22]) (Ros.cons (hS.roRo 4 rfl) (Ros.cons (hS.roRo 5 rfl) (Ros.cons (hS.roBf 0 rfl rfl) Ros.nil)))) (i0a := 0) (i0b := 1) (i1 := 2) (a0 := r19) rfl rfl rfl hg23).mono fun e w' ⟨x, he, h1⟩ => ⟨x, he, hS.unborrow (post := []) h1 Frees.nil⟩) (fun x26 => ?_)
       refine T.dNext (phi_cons (.inr (Cl.stays 10 rfl)) phi_nil) ?_
       refine T.bin (.dPure (i := 15) rfl (by kernel_rfl) (fun d _ _ _ _ h => by cases d <;> exact h)) rfl (wants1 rfl rfl rfl hb6) rfl rfl rfl rfl ?_
       refine T.pickT (.dPure (i := 16) rfl (by kernel_rfl) (fun d _ _ _ _ h => by cases d <;> exact h)) rfl (wants0 rfl) rfl rfl hb6 rfl ?_
       refine T.dDone (by kernel_rfl) ?_
       refine T.then_normal ?_
       exact T.le (EnvLe.cons rfl (EnvLe.cons rfl (EnvLe.cons rfl EnvLe.nil))) (T.pick [9, 10, 11, 12] 13 rfl rfl (Nat.le_add_left _ _) rfl (J3 (!(decide (r23 = 0))) () hk2))
      ·replace hk2 := inv_negB hb6 hk2
       refine T.leave (.dPure (i := 7) rfl (by kernel_rfl) (fun d _ _ _ _ h => by cases d <;> exact h)) (wantsNot rfl rfl rfl hb6) rfl ?_
       refine T.leave (.dPure (i := 8) rfl (by kernel_rfl) (fun d _ _ _ _ h => by cases d <;> exact h)) (wantsNot rfl rfl rfl hb6) rfl ?_
       refine T.leave (.dPure (i := 9) rfl (by kernel_rfl) (fun d _ _ _ _ h => by cases d <;> exact h)) (wantsNot rfl rfl rfl hb6) rfl ?_
       refine T.leave (.dPure (i := 10) rfl (by kernel_rfl) (fun d _ _ _ _ h => by cases d <;> exact h)) (wantsNot rfl rfl rfl hb6) rfl ?_
       refine T.leave (.dPure (i := 11) rfl (by kernel_rfl) (fun d _ _ _ _ h => by cases d <;> exact h)) (wantsNot rfl rfl rfl hb6) rfl ?_
       refine T.leave (.dPure (i := 12) rfl (by kernel_rfl) (fun d _ _ _ _ h => by cases d <;> exact h)) (wantsNot rfl rfl rfl hb6) rfl ?_
       refine T.leave (.dPure (i := 13) rfl (by kernel_rfl) (fun d _ _ _ _ h => by cases d <;> exact h)) (wantsNot rfl rfl rfl hb6) rfl ?_
       refine T.leave (.dPure (i := 14) rfl (by kernel_rfl) (fun d _ _ _ _ h => by cases d <;> exact h)) (wantsNot rfl rfl rfl hb6) rfl ?_
       refine T.leave (.dPure (i := 15) rfl (by kernel_rfl) (fun d _ _ _ _ h => by cases d <;> exact h)) (wantsNot rfl rfl rfl hb6) rfl ?_
       refine T.pickF (.dPure (i := 16) rfl (by kernel_rfl) (fun d _ _ _ _ h => by cases d <;> exact h)) rfl (wants0 rfl) rfl rfl hb6 rfl ?_
       refine T.dDone (by kernel_rfl) ?_
       refine T.then_normal ?_
       exact T.le (EnvLe.cons rfl (EnvLe.cons rfl (EnvLe.cons rfl EnvLe.nil))) (T.pick [3, 4, 5, 6] 7 rfl rfl (Nat.le_add_left _ _) rfl (J3 false () hk2))
   ·refine T.dStart mixed ?_
    refine T.move (.dPure (i := 0) rfl (by kernel_rfl) (fun d _ _ _ _ h => by cases d <;> exact h)) rfl (wants0 rfl) rfl rfl ?_
    refine T.bin (.dPure (i := 1) rfl (by kernel_rfl) (fun d _ _ _ _ h => by cases d <;> exact h)) rfl (wants0 rfl) rfl rfl rfl rfl ?_
    refine T.move (.dPure (i := 2) rfl (by kernel_rfl) (fun d _ _ _ _ h => by cases d <;> exact h)) rfl (wants0 rfl) rfl rfl ?_
    refine T.bool (b := (decide (r6.2 = 0))) (fun hb7 => ?_) (fun hb7 => ?_)
    ·replace hk1 := inv_posB hb7 hk1
     refine T.move (.dPure (i := 3) rfl (by kernel_rfl) (fun d _ _ _ _ h => by cases d <;> exact h)) rfl (wants1 rfl rfl rfl hb7) rfl rfl ?_
     refine T.bin (.dPure (i := 4) rfl (by kernel_rfl) (fun d _ _ _ _ h => by cases d <;> exact h)) rfl (wants1 rfl rfl rfl hb7) rfl rfl rfl rfl ?_
     refine T.pickT (.dPure (i := 5) rfl (by kernel_rfl) (fun d _ _ _ _ h => by cases d <;> exact h)) rfl (wants0 rfl) rfl rfl hb7 rfl ?_
     refine T.move (.dPure (i := 6) rfl (by kernel_rfl) (fun d _ _ _ _ h => by cases d <;> exact h)) rfl (wants0 rfl) rfl rfl ?_
     refine T.bool (b := (decide (r8.2 = 0))) (fun hb8 => ?_) (fun hb8 => ?_)
     ·replace hk1 := inv_posB hb8 hk1
      refine T.move (.dPure (i := 7) rfl (by kernel_rfl) (fun d _ _ _ _ h => by cases d <;> exact h)) rfl (wants1 rfl rfl rfl hb8) rfl rfl ?_
      refine T.move (.dPure (i := 9) rfl (by kernel_rfl) (fun d _ _ _ _ h => by cases d <;> exact h)) rfl (wants1 rfl rfl rfl hb8) rfl rfl ?_
      refine T.move (.dPure (i := 12) rfl (by kernel_rfl) (fun d _ _ _ _ h => by cases d <;> exact h)) rfl (wants1 rfl rfl rfl hb8) rfl rfl ?_
      refine T.move (.dPure (i := 14) rfl (by kernel_rfl) (fun d _ _ _ _ h => by cases d <;> exact h)) rfl (wants1 rfl rfl rfl hb8) rfl rfl ?_
      refine T.freeze 5 rfl rfl rfl ?_
      refine T.keep (fun z1 hk4 => ?_)
      refine T.dAdd 19 (fun w => PH.le z1 (PH.of w)) (Kp.le 0 rfl) ?_
      refine T.valS 0 (i := 8) (str r6.1) rfl rfl (by kernel_rfl) (by kernel_rfl) (fun d _ _ _ _ h => by cases d <;> exact h) (wants1 rfl rfl rfl hb8) rfl (run_strRo (hk4 5 rfl).1 rfl rfl rfl) ?_
      refine T.freeze 7 rfl rfl rfl ?_
      refine T.keep (fun z2 hk5 => ?_)
      refine T.dAdd 19 (fun w => PH.le z2 (PH.of w)) (Kp.le 0 rfl) ?_
      refine T.valS 0 (i := 10) (str r8.1) rfl rfl (by kernel_rfl) (by kernel_rfl) (fun d _ _ _ _ h => by cases d <;> exact h) (wants1 rfl rfl rfl hb8) rfl (run_strRo (hk5 7 rfl).1 rfl rfl rfl) ?_
      refine T.strEq (.dPure (i := 11) rfl (by kernel_rfl) (fun d _ _ _ _ h => by cases d <;> exact h)) rfl (wants1 rfl rfl rfl hb8) rfl (l := r6.1) (l' := r8.1) rfl rfl ?_
      obtain ⟨r24, hg24, hk1⟩ := inv_bind hk1
      refine T.dOnly (i := 13) (by kernel_rfl) ?_
      refine T.call (.dOne rfl (by kernel_rfl)) (wants1 rfl rfl rfl hb8) rfl (run_callF (vs := [_]) rfl Tryd.func7 rfl (by decide) rfl) (fun w hS => law14_few.c hB hS (i0 := 2) rfl hg24) (fun x27 => ?_)
      refine T.dNext (phi_cons (.inr (Kp.le 1 rfl)) (phi_cons (.inr (Kp.le 2 rfl)) phi_nil)) ?_
      obtain ⟨r25, hg25, hk1⟩ := inv_bind hk1
      refine T.dOnly (i := 15) (by kernel_rfl) ?_
      refine T.call (.dOne rfl (by kernel_rfl)) (wants1 rfl rfl rfl hb8) rfl (run_callF (vs := [_]) rfl Tryd.func7 rfl (by decide) rfl) (fun w hS => law14_few.c hB hS (i0 := 4) rfl hg25) (fun x28 => ?_)
      refine T.dNext (phi_cons (.inr (Kp.le 2 rfl)) (phi_cons (.inr (Kp.le 3 rfl)) phi_nil)) ?_
      obtain ⟨r26, hg26, hk1⟩ := inv_bind hk1
      refine T.dOnly (i := 16) (by kernel_rfl) ?_
      refine T.call (.dOne rfl (by kernel_rfl)) (wants1 rfl rfl rfl hb8) rfl (run_callF (vs := [_, _]) rfl Tryd.func22 rfl (by decide) rfl) (fun w hS => (schema_SameRow.c (hB.up hS) (St.borrow (ros := [Ro (Elt.pair E64 (Elt.pair E64 EStr)) x27.1 x27.2 r24, Ro (Elt.pair E64 (Elt.pair E64 EStr)) x28.1 x28.2 r25]) (Ros.cons (hS.roBf 1 rfl rfl) (Ros.cons (hS.roBf 0 rfl rfl) Ros.nil))) (i0 := 0) (i1 := 1) rfl rfl hg26).mono fun e w' ⟨x, he, h1⟩ => ⟨x, he, hS.unborrow (post := []) h1 Frees.nil⟩) (fun x29 => ?_)
      refine T.dNext (phi_cons (.inr (Kp.le 2 rfl)) (phi_cons (.inr (Kp.le 3 rfl)) phi_nil)) ?_
      refine T.boolNe (.dPure (i := 17) rfl (by kernel_rfl) (fun d _ _ _ _ h => by cases d <;> exact h)) rfl (wants1 rfl rfl rfl hb8) rfl rfl rfl (by kernel_rfl) ?_
      refine T.pickT (.dPure (i := 18) rfl (by kernel_rfl) (fun d _ _ _ _ h => by cases d <;> exact h)) rfl (wants0 rfl) rfl rfl hb8 rfl ?_
      refine T.dDone (by kernel_rfl) ?_
      refine T.then_normal ?_
      exact T.le (EnvLe.cons rfl (EnvLe.cons rfl (EnvLe.cons rfl EnvLe.nil))) (T.pick [4, 6, 7, 8] 11 rfl rfl (Nat.le_add_left _ _) rfl (J2 (!(decide ((decide (r6.1 = r8.1)) = r26))) () hk1))
     ·replace hk1 := inv_negB hb8 hk1
      refine T.leave (.dPure (i := 7) rfl (by kernel_rfl) (fun d _ _ _ _ h => by cases d <;> exact h)) (wantsNot rfl rfl rfl hb8) rfl ?_
      refine T.leave (.dPure (i := 8) rfl (by kernel_rfl) (fun d _ _ _ _ h => by cases d <;> exact h)) (wantsNot rfl rfl rfl hb8) rfl ?_
      refine T.leave (.dPure (i := 9) rfl (by kernel_rfl) (fun d _ _ _ _ h => by cases d <;> exact h)) (wantsNot rfl rfl rfl hb8) rfl ?_
      refine T.leave (.dPure (i := 10) rfl (by kernel_rfl) (fun d _ _ _ _ h => by cases d <;> exact h)) (wantsNot rfl rfl rfl hb8) rfl ?_
      refine T.leave (.dPure (i := 11) rfl (by kernel_rfl) (fun d _ _ _ _ h => by cases d <;> exact h)) (wantsNot rfl rfl rfl hb8) rfl ?_
      refine T.leave (.dPure (i := 12) rfl (by kernel_rfl) (fun d _ _ _ _ h => by cases d <;> exact h)) (wantsNot rfl rfl rfl hb8) rfl ?_
      refine T.leave (.dPure (i := 13) rfl (by kernel_rfl) (fun d _ _ _ _ h => by cases d <;> exact h)) (wantsNot rfl rfl rfl hb8) rfl ?_
      refine T.leave (.dPure (i := 14) rfl (by kernel_rfl) (fun d _ _ _ _ h => by cases d <;> exact h)) (wantsNot rfl rfl rfl hb8) rfl ?_
      refine T.leave (.dPure (i := 15) rfl (by kernel_rfl) (fun d _ _ _ _ h => by cases d <;> exact h)) (wantsNot rfl rfl rfl hb8) rfl ?_
      refine T.leave (.dPure (i := 16) rfl (by kernel_rfl) (fun d _ _ _ _ h => by cases d <;> exact h)) (wantsNot rfl rfl rfl hb8) rfl ?_
      refine T.leave (.dPure (i := 17) rfl (by kernel_rfl) (fun d _ _ _ _ h => by cases d <;> exact h)) (wantsNot rfl rfl rfl hb8) rfl ?_
      refine T.pickF (.dPure (i := 18) rfl (by kernel_rfl) (fun d _ _ _ _ h => by cases d <;> exact h)) rfl (wants0 rfl) rfl rfl hb8 rfl ?_
      refine T.dDone (by kernel_rfl) ?_
      refine T.then_normal ?_
      exact T.le (EnvLe.cons rfl (EnvLe.cons rfl (EnvLe.cons rfl EnvLe.nil))) (T.pick [0, 2, 3, 4] 7 rfl rfl (Nat.le_add_left _ _) rfl (J2 false () hk1))
    ·replace hk1 := inv_negB hb7 hk1
     refine T.leave (.dPure (i := 3) rfl (by kernel_rfl) (fun d _ _ _ _ h => by cases d <;> exact h)) (wantsNot rfl rfl rfl hb7) rfl ?_
     refine T.leave (.dPure (i := 4) rfl (by kernel_rfl) (fun d _ _ _ _ h => by cases d <;> exact h)) (wantsNot rfl rfl rfl hb7) rfl ?_
     refine T.pickF (.dPure (i := 5) rfl (by kernel_rfl) (fun d _ _ _ _ h => by cases d <;> exact h)) rfl (wants0 rfl) rfl rfl hb7 rfl ?_
     refine T.move (.dPure (i := 6) rfl (by kernel_rfl) (fun d _ _ _ _ h => by cases d <;> exact h)) rfl (wants0 rfl) rfl rfl ?_
     refine T.leave (.dPure (i := 7) rfl (by kernel_rfl) (fun d _ _ _ _ h => by cases d <;> exact h)) (wantsNot rfl rfl rfl rfl) rfl ?_
     refine T.leave (.dPure (i := 8) rfl (by kernel_rfl) (fun d _ _ _ _ h => by cases d <;> exact h)) (wantsNot rfl rfl rfl rfl) rfl ?_
     refine T.leave (.dPure (i := 9) rfl (by kernel_rfl) (fun d _ _ _ _ h => by cases d <;> exact h)) (wantsNot rfl rfl rfl rfl) rfl ?_
     refine T.leave (.dPure (i := 10) rfl (by kernel_rfl) (fun d _ _ _ _ h => by cases d <;> exact h)) (wantsNot rfl rfl rfl rfl) rfl ?_
     refine T.leave (.dPure (i := 11) rfl (by kernel_rfl) (fun d _ _ _ _ h => by cases d <;> exact h)) (wantsNot rfl rfl rfl rfl) rfl ?_
     refine T.leave (.dPure (i := 12) rfl (by kernel_rfl) (fun d _ _ _ _ h => by cases d <;> exact h)) (wantsNot rfl rfl rfl rfl) rfl ?_
     refine T.leave (.dPure (i := 13) rfl (by kernel_rfl) (fun d _ _ _ _ h => by cases d <;> exact h)) (wantsNot rfl rfl rfl rfl) rfl ?_
     refine T.leave (.dPure (i := 14) rfl (by kernel_rfl) (fun d _ _ _ _ h => by cases d <;> exact h)) (wantsNot rfl rfl rfl rfl) rfl ?_
     refine T.leave (.dPure (i := 15) rfl (by kernel_rfl) (fun d _ _ _ _ h => by cases d <;> exact h)) (wantsNot rfl rfl rfl rfl) rfl ?_
     refine T.leave (.dPure (i := 16) rfl (by kernel_rfl) (fun d _ _ _ _ h => by cases d <;> exact h)) (wantsNot rfl rfl rfl rfl) rfl ?_
     refine T.leave (.dPure (i := 17) rfl (by kernel_rfl) (fun d _ _ _ _ h => by cases d <;> exact h)) (wantsNot rfl rfl rfl rfl) rfl ?_
     refine T.pickF (.dPure (i := 18) rfl (by kernel_rfl) (fun d _ _ _ _ h => by cases d <;> exact h)) rfl (wants0 rfl) rfl rfl rfl rfl ?_
     refine T.dDone (by kernel_rfl) ?_
     refine T.then_normal ?_
     exact T.le (EnvLe.cons rfl (EnvLe.cons rfl (EnvLe.cons rfl EnvLe.nil))) (T.pick [0, 2, 3, 4] 7 rfl rfl (Nat.le_add_left _ _) rfl (J2 false () hk1))
 ·refine T.dStart mixed ?_
  refine T.move (.dPure (i := 0) rfl (by kernel_rfl) (fun d _ _ _ _ h => by cases d <;> exact h)) rfl (wants0 rfl) rfl rfl ?_
  refine T.bin (.dPure (i := 1) rfl (by kernel_rfl) (fun d _ _ _ _ h => by cases d <;> exact h)) rfl (wants0 rfl) rfl rfl rfl rfl ?_
  refine T.move (.dPure (i := 2) rfl (by kernel_rfl) (fun d _ _ _ _ h => by cases d <;> exact h)) rfl (wants0 rfl) rfl rfl ?_
  refine T.bool (b := (decide (r2.2 = 0))) (fun hb9 => ?_) (fun hb9 => ?_)
  ·replace hr := inv_posB hb9 hr
   refine T.move (.dPure (i := 3) rfl (by kernel_rfl) (fun d _ _ _ _ h => by cases d <;> exact h)) rfl (wants1 rfl rfl rfl hb9) rfl rfl ?_
   refine T.bin (.dPure (i := 4) rfl (by kernel_rfl) (fun d _ _ _ _ h => by cases d <;> exact h)) rfl (wants1 rfl rfl rfl hb9) rfl rfl rfl rfl ?_
   refine T.pickT (.dPure (i := 5) rfl (by kernel_rfl) (fun d _ _ _ _ h => by cases d <;> exact h)) rfl (wants0 rfl) rfl rfl hb9 rfl ?_
   refine T.move (.dPure (i := 6) rfl (by kernel_rfl) (fun d _ _ _ _ h => by cases d <;> exact h)) rfl (wants0 rfl) rfl rfl ?_
   refine T.bool (b := (decide (r4.2 = 0))) (fun hb10 => ?_) (fun hb10 => ?_)
   ·replace hr := inv_posB hb10 hr
    refine T.move (.dPure (i := 7) rfl (by kernel_rfl) (fun d _ _ _ _ h => by cases d <;> exact h)) rfl (wants1 rfl rfl rfl hb10) rfl rfl ?_
    refine T.move (.dPure (i := 9) rfl (by kernel_rfl) (fun d _ _ _ _ h => by cases d <;> exact h)) rfl (wants1 rfl rfl rfl hb10) rfl rfl ?_
    refine T.freeze 7 rfl rfl rfl ?_
    refine T.keep (fun z3 hk6 => ?_)
    refine T.dAdd 19 (fun w => PH.le z3 (PH.of w)) (Kp.le 0 rfl) ?_
    refine T.valS 0 (i := 8) (str r2.1) rfl rfl (by kernel_rfl) (by kernel_rfl) (fun d _ _ _ _ h => by cases d <;> exact h) (wants1 rfl rfl rfl hb10) rfl (run_strRo (hk6 7 rfl).1 rfl rfl rfl) ?_
    refine T.freeze 5 rfl rfl rfl ?_
    refine T.keep (fun z4 hk7 => ?_)
    refine T.dAdd 19 (fun w => PH.le z4 (PH.of w)) (Kp.le 0 rfl) ?_
    refine T.valS 0 (i := 10) (str r4.1) rfl rfl (by kernel_rfl) (by kernel_rfl) (fun d _ _ _ _ h => by cases d <;> exact h) (wants1 rfl rfl rfl hb10) rfl (run_strRo (hk7 5 rfl).1 rfl rfl rfl) ?_
    refine T.strEq (.dPure (i := 11) rfl (by kernel_rfl) (fun d _ _ _ _ h => by cases d <;> exact h)) rfl (wants1 rfl rfl rfl hb10) rfl (l := r2.1) (l' := r4.1) rfl rfl ?_
    refine T.dAdd 19 (fun w => w.heap[b1]? = some (.cells [str a0.1, .slice A0a a0.2.1.length c0a, .slice A0b a0.2.2.length c0b].toArray 25 (0, 0))) (Cl.stays 13 rfl) ?_
    refine T.valS 0 (i := 12) (.agg #[str a0.1, .slice A0a a0.2.1.length c0a, .slice A0b a0.2.2.length c0b]) rfl rfl (by kernel_rfl) (by kernel_rfl) (fun d _ _ _ _ h => by cases d <;> exact h) (wants1 rfl rfl rfl hb10) rfl (run_ldClN rfl rfl (vs := [str a0.1, .slice A0a a0.2.1.length c0a, .slice A0b a0.2.2.length c0b]) rfl rfl) ?_
    refine T.dAdd 19 (fun w => w.heap[b2]? = some (.cells [str a1.1, .slice A1a a1.2.1.length c1a, .slice A1b a1.2.2.length c1b].toArray 25 (0, 0))) (Cl.stays 12 rfl) ?_
    refine T.valS 0 (i := 14) (.agg #[str a1.1, .slice A1a a1.2.1.length c1a, .slice A1b a1.2.2.length c1b]) rfl rfl (by kernel_rfl) (by kernel_rfl) (fun d _ _ _ _ h => by cases d <;> exact h) (wants1 rfl rfl rfl hb10) rfl (run_ldClN rfl rfl (vs := [str a1.1, .slice A1a a1.2.1.length c1a, .slice A1b a1.2.2.length c1b]) rfl rfl) ?_
    obtain ⟨r27, hg27, hr⟩ := inv_bind hr
    refine T.dOnly (i := 13) (by kernel_rfl) ?_
    refine T.call (.dOne rfl (by kernel_rfl)) (wants1 rfl rfl rfl hb10) rfl (run_callF (vs := [_]) rfl Tryd.func6 rfl (by decide) rfl) (fun w hS => law14_copied.c hB hS (i0a := 19) (i0b := 18) (a0 := (a0.1, a0.2.1, a0.2.2)) rfl rfl hg27) (fun x30 => ?_)
    refine T.dNext (phi_cons (.inr (Cl.stays 14 rfl)) (phi_cons (.inr (Cl.stays 15 rfl)) (phi_cons (.inr (Kp.le 2 rfl)) (phi_cons (.inr (Kp.le 3 rfl)) phi_nil)))) ?_
    obtain ⟨r28, hg28, hr⟩ := inv_bind hr
    refine T.dOnly (i := 15) (by kernel_rfl) ?_
    refine T.call (.dOne rfl (by kernel_rfl)) (wants1 rfl rfl rfl hb10) rfl (run_callF (vs := [_]) rfl Tryd.func6 rfl (by decide) rfl) (fun w hS => law14_copied.c hB hS (i0a := 19) (i0b := 18) (a0 := (a1.1, a1.2.1, a1.2.2)) rfl rfl hg28) (fun x31 => ?_)
    refine T.dNext (phi_cons (.inr (Cl.stays 16 rfl)) (phi_cons (.inr (Cl.stays 17 rfl)) (phi_cons (.inr (Kp.le 4 rfl)) (phi_cons (.inr (Kp.le 5 rfl)) phi_nil)))) ?_
    obtain ⟨r29, hg29, hr⟩ := inv_bind hr
    refine T.dOnly (i := 16) (by kernel_rfl) ?_
    refine T.call (.dOne rfl (by kernel_rfl)) (wants1 rfl rfl rfl hb10) rfl (run_callF (vs := [_, _]) rfl Tryd.func21 rfl (by decide) rfl) (fun w hS => schema_Same.c hB hS (i0a := 2) (i0b := 3) (i1a := 0) (i1b := 1) (a0 := r27) (a1 := r28) rfl rfl rfl rfl hg29) (fun x32 => ?_)
    refine T.dNext (phi_cons (.inr (Cl.stays 16 rfl)) (phi_cons (.inr (Cl.stays 17 rfl)) (phi_cons (.inr (Kp.le 4 rfl)) (phi_cons (.inr (Kp.le 5 rfl)) phi_nil)))) ?_
    refine T.boolNe (.dPure (i := 17) rfl (by kernel_rfl) (fun d _ _ _ _ h => by cases d <;> exact h)) rfl (wants1 rfl rfl rfl hb10) rfl rfl rfl (by kernel_rfl) ?_
    refine T.pickT (.dPure (i := 18) rfl (by kernel_rfl) (fun d _ _ _ _ h => by cases d <;> exact h)) rfl (wants0 rfl) rfl rfl hb10 rfl ?_
    refine T.dDone (by kernel_rfl) ?_
    refine T.then_normal ?_
    exact T.le (EnvLe.cons rfl (EnvLe.cons rfl (EnvLe.cons rfl (EnvLe.cons rfl (EnvLe.cons rfl (EnvLe.cons rfl (EnvLe.cons rfl (EnvLe.cons rfl EnvLe.nil)))))))) (T.pick [19, 18, 17, 23, 22, 8, 6] 24 rfl rfl (Nat.le_add_left _ _) rfl (J1 (!(decide ((decide (r2.1 = r4.1)) = r29))) () hr))
   ·replace hr := inv_negB hb10 hr
    refine T.leave (.dPure (i := 7) rfl (by kernel_rfl) (fun d _ _ _ _ h => by cases d <;> exact h)) (wantsNot rfl rfl rfl hb10) rfl ?_
    refine T.leave (.dPure (i := 8) rfl (by kernel_rfl) (fun d _ _ _ _ h => by cases d <;> exact h)) (wantsNot rfl rfl rfl hb10) rfl ?_
    refine T.leave (.dPure (i := 9) rfl (by kernel_rfl) (fun d _ _ _ _ h => by cases d <;> exact h)) (wantsNot rfl rfl rfl hb10) rfl ?_
    refine T.leave (.dPure (i := 10) rfl (by kernel_rfl) (fun d _ _ _ _ h => by cases d <;> exact h)) (wantsNot rfl rfl rfl hb10) rfl ?_
    refine T.leave (.dPure (i := 11) rfl (by kernel_rfl) (fun d _ _ _ _ h => by cases d <;> exact h)) (wantsNot rfl rfl rfl hb10) rfl ?_
    refine T.leave (.dPure (i := 12) rfl (by kernel_rfl) (fun d _ _ _ _ h => by cases d <;> exact h)) (wantsNot rfl rfl rfl hb10) rfl ?_
    refine T.leave (.dPure (i := 13) rfl (by kernel_rfl) (fun d _ _ _ _ h => by cases d <;> exact h)) (wantsNot rfl rfl rfl hb10) rfl ?_
    refine T.leave (.dPure (i := 14) rfl (by kernel_rfl) (fun d _ _ _ _ h => by cases d <;> exact h)) (wantsNot rfl rfl rfl hb10) rfl ?_
    refine T.leave (.dPure (i := 15) rfl (by kernel_rfl) (fun d _ _ _ _ h => by cases d <;> exact h)) (wantsNot rfl rfl rfl hb10) rfl ?_
    refine T.leave (.dPure (i := 16) rfl (by kernel_rfl) (fun d _ _ _ _ h => by cases d <;> exact h)) (wantsNot rfl rfl rfl hb10) rfl ?_
    refine T.leave (.dPure (i := 17) rfl (by kernel_rfl) (fun d _ _ _ _ h => by cases d <;> exact h)) (wantsNot rfl rfl rfl hb10) rfl ?_
    refine T.pickF (.dPure (i := 18) rfl (by kernel_rfl) (fun d _ _ _ _ h => by cases d <;> exact h)) rfl (wants0 rfl) rfl rfl hb10 rfl ?_
    refine T.dDone (by kernel_rfl) ?_
    refine T.then_normal ?_
    exact T.le (EnvLe.cons rfl (EnvLe.cons rfl (EnvLe.cons rfl (EnvLe.cons rfl (EnvLe.cons rfl (EnvLe.cons rfl (EnvLe.cons rfl (EnvLe.cons rfl EnvLe.nil)))))))) (T.pick [13, 12, 11, 17, 16, 2, 0] 18 rfl rfl (Nat.le_add_left _ _) rfl (J1 false () hr))
  ·replace hr := inv_negB hb9 hr
   refine T.leave (.dPure (i := 3) rfl (by kernel_rfl) (fun d _ _ _ _ h => by cases d <;> exact h)) (wantsNot rfl rfl rfl hb9) rfl ?_
   refine T.leave (.dPure (i := 4) rfl (by kernel_rfl) (fun d _ _ _ _ h => by cases d <;> exact h)) (wantsNot rfl rfl rfl hb9) rfl ?_
   refine T.pickF (.dPure (i := 5) rfl (by kernel_rfl) (fun d _ _ _ _ h => by cases d <;> exact h)) rfl (wants0 rfl) rfl rfl hb9 rfl ?_
   refine T.move (.dPure (i := 6) rfl (by kernel_rfl) (fun d _ _ _ _ h => by cases d <;> exact h)) rfl (wants0 rfl) rfl rfl ?_
   refine T.leave (.dPure (i := 7) rfl (by kernel_rfl) (fun d _ _ _ _ h => by cases d <;> exact h)) (wantsNot rfl rfl rfl rfl) rfl ?_
   refine T.leave (.dPure (i := 8) rfl (by kernel_rfl) (fun d _ _ _ _ h => by cases d <;> exact h)) (wantsNot rfl rfl rfl rfl) rfl ?_
   refine T.leave (.dPure (i := 9) rfl (by kernel_rfl) (fun d _ _ _ _ h => by cases d <;> exact h)) (wantsNot rfl rfl rfl rfl) rfl ?_
   refine T.leave (.dPure (i := 10) rfl (by kernel_rfl) (fun d _ _ _ _ h => by cases d <;> exact h)) (wantsNot rfl rfl rfl rfl) rfl ?_
   refine T.leave (.dPure (i := 11) rfl (by kernel_rfl) (fun d _ _ _ _ h => by cases d <;> exact h)) (wantsNot rfl rfl rfl rfl) rfl ?_
   refine T.leave (.dPure (i := 12) rfl (by kernel_rfl) (fun d _ _ _ _ h => by cases d <;> exact h)) (wantsNot rfl rfl rfl rfl) rfl ?_
   refine T.leave (.dPure (i := 13) rfl (by kernel_rfl) (fun d _ _ _ _ h => by cases d <;> exact h)) (wantsNot rfl rfl rfl rfl) rfl ?_
   refine T.leave (.dPure (i := 14) rfl (by kernel_rfl) (fun d _ _ _ _ h => by cases d <;> exact h)) (wantsNot rfl rfl rfl rfl) rfl ?_
   refine T.leave (.dPure (i := 15) rfl (by kernel_rfl) (fun d _ _ _ _ h => by cases d <;> exact h)) (wantsNot rfl rfl rfl rfl) rfl ?_
   refine T.leave (.dPure (i := 16) rfl (by kernel_rfl) (fun d _ _ _ _ h => by cases d <;> exact h)) (wantsNot rfl rfl rfl rfl) rfl ?_
   refine T.leave (.dPure (i := 17) rfl (by kernel_rfl) (fun d _ _ _ _ h => by cases d <;> exact h)) (wantsNot rfl rfl rfl rfl) rfl ?_
   refine T.pickF (.dPure (i := 18) rfl (by kernel_rfl) (fun d _ _ _ _ h => by cases d <;> exact h)) rfl (wants0 rfl) rfl rfl rfl rfl ?_
   refine T.dDone (by kernel_rfl) ?_
   refine T.then_normal ?_
   exact T.le (EnvLe.cons rfl (EnvLe.cons rfl (EnvLe.cons rfl (EnvLe.cons rfl (EnvLe.cons rfl (EnvLe.cons rfl (EnvLe.cons rfl (EnvLe.cons rfl EnvLe.nil)))))))) (T.pick [13, 12, 11, 17, 16, 2, 0] 18 rfl rfl (Nat.le_add_left _ _) rfl (J1 false () hr))
end Go.Proofs.YtdfbknkgmhddcaaDoor
