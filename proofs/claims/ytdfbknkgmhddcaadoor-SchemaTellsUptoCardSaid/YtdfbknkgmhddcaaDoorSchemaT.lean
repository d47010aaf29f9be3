/- SchemaT: what the functions compute, and that the program computes it; printed by a program of ours. -/
import Derived.Test.YtdfbknkgmhddcaaDoorSchemaL
set_option linter.unusedVariables false
set_option linter.unusedSimpArgs false
namespace Go.Proofs.YtdfbknkgmhddcaaDoor
open Go.RowKit
noncomputable def law14_SchemaTells.k2 (s1 : Bool) (a0 : (List UInt8) × (List ((List UInt8) × Int × Int)) × (List (Int × Bool))) (r1 : ((List UInt8) × (List ((List UInt8) × Int × Int)) × (List (Int × Bool)))) (l1 : List (Int × Int × (List UInt8))) (r2 : (List (Int × Int × (List UInt8)))) (s2 : Unit) : Option Bool :=
  (if s1 = true then (law14_copied.impl ((a0.1, a0.2.1, a0.2.2))).bind fun r5 => (ref14_Same.impl ((r1.1, r1.2.1, r1.2.2)) r5).bind fun r6 => (if r6 = true then (law14_few.impl l1).bind fun r7 => (ref2_Same.impl r2 r7).bind fun r8 => some r8 else some false) else some false)
noncomputable def law14_SchemaTells.st1 (s3 : (List (Int × Int × (List UInt8))) × Int) : Option (((List (Int × Int × (List UInt8))) × Int) ⊕ Unit) :=
  (if ((decide (s3.2 < ((s3.1.length : Int))))) = true then chk (0 ≤ s3.2 ∧ s3.2 < (s3.1.length : Int)) (some (.inl (((s3.1).set (s3.2 : Int).toNat (-9, 0, ([] : List UInt8))), IntKind.i64.wrap (s3.2 + 1)))) else some (.inr ()))
noncomputable def law14_SchemaTells.k1 (r4 : (List (Int × Int × (List UInt8)))) (a0 : (List UInt8) × (List ((List UInt8) × Int × Int)) × (List (Int × Bool))) (r1 : ((List UInt8) × (List ((List UInt8) × Int × Int)) × (List (Int × Bool)))) (l1 : List (Int × Int × (List UInt8))) (r2 : (List (Int × Int × (List UInt8)))) (s1 : Bool) : Option Bool :=
  (loop (law14_SchemaTells.st1) (r4, 0)).bind (fun e1 => law14_SchemaTells.k2 s1 a0 r1 l1 r2 e1)
noncomputable def law14_SchemaTells.impl (a0 : (List UInt8) × (List ((List UInt8) × Int × Int)) × (List (Int × Bool))) (l1 : List (Int × Int × (List UInt8))) (l2 : List UInt8) : Option Bool :=
  (law14_copied.impl ((a0.1, a0.2.1, a0.2.2))).bind fun r1 => (law14_few.impl l1).bind fun r2 => (schema_Right.impl ((r1.1, r1.2.1, r1.2.2))).bind fun r3 => (schema_Fold.impl ((r1.1, r1.2.1, r1.2.2)) r2).bind fun r4 => (law14_told.impl ).bind fun r9 => (if r9 = true then (ref14_Right.impl ((r1.1, r1.2.1, r1.2.2))).bind fun r10 => (if ((decide ((decide (r3 = 0)) = r10))) = true then (if ((decide (r3 = 0))) = true then (schema_Fits.impl ((r1.1, r1.2.1, r1.2.2)) r2).bind fun r11 => (ref14_Fits.impl ((r1.1, r1.2.1, r1.2.2)) r2).bind fun r12 => (if ((decide (r11 = r12))) = true then (ref14_Fold.impl r2).bind fun r13 => (ref2_Same.impl r4 r13).bind fun r14 => (if r14 = true then (schema_Name.impl l2).bind fun r15 => (ref14_Name.impl l2).bind fun r16 => law14_SchemaTells.k1 r4 a0 r1 l1 r2 (decide (r15 = r16)) else law14_SchemaTells.k1 r4 a0 r1 l1 r2 false) else law14_SchemaTells.k1 r4 a0 r1 l1 r2 false) else (if ((decide (r3 = 61))) = true then (schema_Fits.impl ((r1.1, r1.2.1, r1.2.2)) r2).bind fun r17 => (ref14_Fits.impl ((r1.1, r1.2.1, r1.2.2)) r2).bind fun r18 => (if ((decide (r17 = r18))) = true then (ref14_Fold.impl r2).bind fun r19 => (ref2_Same.impl r4 r19).bind fun r20 => (if r20 = true then (schema_Name.impl l2).bind fun r21 => (ref14_Name.impl l2).bind fun r22 => law14_SchemaTells.k1 r4 a0 r1 l1 r2 (decide (r21 = r22)) else law14_SchemaTells.k1 r4 a0 r1 l1 r2 false) else law14_SchemaTells.k1 r4 a0 r1 l1 r2 false) else law14_SchemaTells.k1 r4 a0 r1 l1 r2 false)) else law14_SchemaTells.k1 r4 a0 r1 l1 r2 false) else law14_SchemaTells.k1 r4 a0 r1 l1 r2 false)
set_option maxRecDepth 100000 in
set_option maxHeartbeats 4000000 in
theorem law14_SchemaTells.c {B : World} {hs : List MP} {w : World} {a0 : (List UInt8) × (List ((List UInt8) × Int × Int)) × (List (Int × Bool))} {i0a c0a : Nat} {A0a : Option Addr} {i0b c0b : Nat} {A0b : Option Addr} {i1 c1 : Nat} {A1 : Option Addr} {l1 : List (Int × Int × (List UInt8))} {l2 : List UInt8} (hB : Base B) (hS : St B (hs) w) (h0a : (hs)[i0a]? = some (Ro (Elt.pair EStr (Elt.pair E64 E64)) A0a c0a a0.2.1)) (h0b : (hs)[i0b]? = some (Ro (Elt.pair E64 EBool) A0b c0b a0.2.2)) (h1 : (hs)[i1]? = some (Ro (Elt.pair E64 (Elt.pair E64 EStr)) A1 c1 l1)) {r : Bool} (hr : law14_SchemaTells.impl a0 l1 l2 = some r) :
    Calls Tryd.prog 3 #[.agg #[str a0.1, .slice A0a a0.2.1.length c0a, .slice A0b a0.2.2.length c0b], .slice A1 l1.length c1, str l2] w fun e w' => ∃ x : Unit, e = .returned (.bool r) ∧ St B (hs) w' := by
 unfold law14_SchemaTells.impl at hr
 refine calls_T Tryd.func3 rfl rfl rfl hS ?_
 refine T.front i0a h0a ?_
 refine T.front (i0b + 1) h0b ?_
 refine T.front (i1 + 2) h1 ?_
 refine T.seq ?_
 refine T.region ?_
 refine T.boxS .list rfl (wants0 rfl) rfl rfl (cs := [str a0.1, .slice A0a a0.2.1.length c0a, .slice A0b a0.2.2.length c0b]) rfl (fun b1 => ?_)
 refine T.assign .list rfl (wants0 rfl) rfl rfl ?_
 refine T.nil ?_
 refine T.then_normal ?_
 refine T.seq ?_
 refine T.region ?_
 refine T.loadN .list 0 rfl rfl (wants0 rfl) rfl rfl (vs := [str a0.1, .slice A0a a0.2.1.length c0a, .slice A0b a0.2.2.length c0b]) rfl rfl ?_
 obtain ⟨r1, hg1, hr⟩ := inv_bind hr
 refine T.call .list (wants0 rfl) rfl (run_callF (vs := [_]) rfl Tryd.func6 rfl (by decide) rfl) (fun w hS => law14_copied.c hB hS (i0a := 3) (i0b := 2) (a0 := (a0.1, a0.2.1, a0.2.2)) rfl rfl hg1) (fun x1 => ?_)
 refine T.move .list rfl (wants0 rfl) rfl rfl ?_
 obtain ⟨r2, hg2, hr⟩ := inv_bind hr
 refine T.call .list (wants0 rfl) rfl (run_callF (vs := [_]) rfl Tryd.func7 rfl (by decide) rfl) (fun w hS => law14_few.c hB hS (i0 := 3) rfl hg2) (fun x2 => ?_)
 refine T.allocS .list rfl (wants0 rfl) rfl (cs := [str (([] : List UInt8)), .slice none 0 0, .slice none 0 0]) rfl (fun b2 => ?_)
 refine T.store .list 0 rfl rfl (wants0 rfl) rfl rfl rfl rfl (Nat.le_of_ble_eq_true rfl) rfl (cs' := [str r1.1, .slice x1.1.1 r1.2.1.length x1.1.2, .slice x1.2.1 r1.2.2.length x1.2.2]) rfl rfl ?_
 refine T.assign .list rfl (wants0 rfl) rfl rfl ?_
 refine T.nil ?_
 refine T.then_normal ?_
 refine T.seq ?_
 refine T.region ?_
 refine T.loadN .list 0 rfl rfl (wants0 rfl) rfl rfl (vs := [str r1.1, .slice x1.1.1 r1.2.1.length x1.1.2, .slice x1.2.1 r1.2.2.length x1.2.2]) rfl rfl ?_
 obtain ⟨r3, hg3, hr⟩ := inv_bind hr
 refine T.call .list (wants0 rfl) rfl (run_callF (vs := [_]) rfl Tryd.func8 rfl (by decide) rfl) (fun w hS => schema_Right.c hB hS (i0a := 2) (i0b := 3) (a0 := (r1.1, r1.2.1, r1.2.2)) rfl rfl hg3) (fun x3 => ?_)
 refine T.assign .list rfl (wants0 rfl) rfl rfl ?_
 refine T.nil ?_
 refine T.then_normal ?_
 refine T.seq ?_
 refine T.region ?_
 refine T.loadN .list 0 rfl rfl (wants0 rfl) rfl rfl (vs := [str r1.1, .slice x1.1.1 r1.2.1.length x1.1.2, .slice x1.2.1 r1.2.2.length x1.2.2]) rfl rfl ?_
 refine T.move .list rfl (wants0 rfl) rfl rfl ?_
 obtain ⟨r4, hg4, hr⟩ := inv_bind hr
 refine T.call .list (wants0 rfl) rfl (run_callF (vs := [_, _]) rfl Tryd.func9 rfl (by decide) rfl) (fun w hS => (schema_Fold.c (hB.up hS) (St.borrow (ros := [Ro (Elt.pair EStr (Elt.pair E64 E64)) x1.1.1 x1.1.2 r1.2.1, Ro (Elt.pair E64 EBool) x1.2.1 x1.2.2 r1.2.2, Ro (Elt.pair E64 (Elt.pair E64 EStr)) x2.1 x2.2 r2]) (Ros.cons (hS.roRo 2 rfl) (Ros.cons (hS.roRo 3 rfl) (Ros.cons (hS.roBf 1 rfl rfl) Ros.nil)))) (i0a := 0) (i0b := 1) (i1 := 2) (a0 := (r1.1, r1.2.1, r1.2.2)) rfl rfl rfl hg4).mono fun e w' ⟨x, he, h1⟩ => ⟨x, he, hS.unborrow (post := [Bf (Elt.pair E64 (Elt.pair E64 EStr)) 39 x.1 x.2 r4]) h1 (Frees.cons (Bf.free (.pair .sc (.pair .sc .sc))) Frees.nil)⟩) (fun x4 => ?_)
 refine T.assign .list rfl (wants0 rfl) rfl rfl ?_
 refine T.nil ?_
 refine T.then_normal ?_
 refine T.seqJ (fun (s1 : Bool) (x5 : Unit) => [(1, .slice A1 l1.length c1), (3, .pointer (some ⟨b1, 0, none⟩)), (7, .pointer (some ⟨b2, 0, none⟩)), (8, .slice x2.1 r2.length x2.2), (10, .slice x4.1 r4.length x4.2), (11, .bool s1)]) (fun s1 x5 => Ro (Elt.pair E64 (Elt.pair E64 EStr)) A1 c1 l1 :: Cl b1 25 [str a0.1, .slice A0a a0.2.1.length c0a, .slice A0b a0.2.2.length c0b] :: Ro (Elt.pair EStr (Elt.pair E64 E64)) A0a c0a a0.2.1 :: Ro (Elt.pair E64 EBool) A0b c0b a0.2.2 :: Cl b2 25 [str r1.1, .slice x1.1.1 r1.2.1.length x1.1.2, .slice x1.2.1 r1.2.2.length x1.2.2] :: Ro (Elt.pair EStr (Elt.pair E64 E64)) x1.1.1 x1.1.2 r1.2.1 :: Ro (Elt.pair E64 EBool) x1.2.1 x1.2.2 r1.2.2 :: Bf (Elt.pair E64 (Elt.pair E64 EStr)) 39 x2.1 x2.2 r2 :: Bf (Elt.pair E64 (Elt.pair E64 EStr)) 39 x4.1 x4.2 r4 :: hs) (fun s1 => law14_SchemaTells.k1 r4 a0 r1 l1 r2 s1 = some r) (fun s1 x5 hk1 => ?_) (fun J1 => ?_)
 ·unfold law14_SchemaTells.k1 at hk1
  refine T.seqJ (fun (s2 : Unit) (x6 : Unit) => [(1, .slice A1 l1.length c1), (3, .pointer (some ⟨b1, 0, none⟩)), (7, .pointer (some ⟨b2, 0, none⟩)), (8, .slice x2.1 r2.length x2.2), (11, .bool s1)]) (fun s2 x6 => Ro (Elt.pair E64 (Elt.pair E64 EStr)) A1 c1 l1 :: Cl b1 25 [str a0.1, .slice A0a a0.2.1.length c0a, .slice A0b a0.2.2.length c0b] :: Ro (Elt.pair EStr (Elt.pair E64 E64)) A0a c0a a0.2.1 :: Ro (Elt.pair E64 EBool) A0b c0b a0.2.2 :: Cl b2 25 [str r1.1, .slice x1.1.1 r1.2.1.length x1.1.2, .slice x1.2.1 r1.2.2.length x1.2.2] :: Ro (Elt.pair EStr (Elt.pair E64 E64)) x1.1.1 x1.1.2 r1.2.1 :: Ro (Elt.pair E64 EBool) x1.2.1 x1.2.2 r1.2.2 :: Bf (Elt.pair E64 (Elt.pair E64 EStr)) 39 x2.1 x2.2 r2 :: hs) (fun s2 => law14_SchemaTells.k2 s1 a0 r1 l1 r2 s2 = some r) (fun s2 x6 hk2 => ?_) (fun J2 => ?_)
  ·unfold law14_SchemaTells.k2 at hk2
   refine T.seq ?_
   refine T.dStart mixed ?_
   refine T.move (.dPure (i := 0) rfl (by kernel_rfl) (fun d _ _ _ _ h => by cases d <;> exact h)) rfl (wants0 rfl) rfl rfl ?_
   refine T.move (.dPure (i := 1) rfl (by kernel_rfl) (fun d _ _ _ _ h => by cases d <;> exact h)) rfl (wants0 rfl) rfl rfl ?_
   refine T.bool (b := s1) (fun hb1 => ?_) (fun hb1 => ?_)
   ·replace hk2 := inv_posB hb1 hk2
    refine T.dAdd 14 (fun w => w.heap[b2]? = some (.cells [str r1.1, .slice x1.1.1 r1.2.1.length x1.1.2, .slice x1.2.1 r1.2.2.length x1.2.2].toArray 25 (0, 0))) (Cl.stays 4 rfl) ?_
    refine T.valS 0 (i := 2) (.agg #[str r1.1, .slice x1.1.1 r1.2.1.length x1.1.2, .slice x1.2.1 r1.2.2.length x1.2.2]) rfl rfl (by kernel_rfl) (by kernel_rfl) (fun d _ _ _ _ h => by cases d <;> exact h) (wants1 rfl rfl rfl hb1) rfl (run_ldClN rfl rfl (vs := [str r1.1, .slice x1.1.1 r1.2.1.length x1.1.2, .slice x1.2.1 r1.2.2.length x1.2.2]) rfl rfl) ?_
    refine T.dAdd 14 (fun w => w.heap[b1]? = some (.cells [str a0.1, .slice A0a a0.2.1.length c0a, .slice A0b a0.2.2.length c0b].toArray 25 (0, 0))) (Cl.stays 1 rfl) ?_
    refine T.valS 0 (i := 3) (.agg #[str a0.1, .slice A0a a0.2.1.length c0a, .slice A0b a0.2.2.length c0b]) rfl rfl (by kernel_rfl) (by kernel_rfl) (fun d _ _ _ _ h => by cases d <;> exact h) (wants1 rfl rfl rfl hb1) rfl (run_ldClN rfl rfl (vs := [str a0.1, .slice A0a a0.2.1.length c0a, .slice A0b a0.2.2.length c0b]) rfl rfl) ?_
    obtain ⟨r5, hg5, hk2⟩ := inv_bind hk2
    refine T.dOnly (i := 4) (by kernel_rfl) ?_
    refine T.call (.dOne rfl (by kernel_rfl)) (wants1 rfl rfl rfl hb1) rfl (run_callF (vs := [_]) rfl Tryd.func6 rfl (by decide) rfl) (fun w hS => law14_copied.c hB hS (i0a := 2) (i0b := 3) (a0 := (a0.1, a0.2.1, a0.2.2)) rfl rfl hg5) (fun x7 => ?_)
    refine T.dNext (phi_cons (.inr (Cl.stays 3 rfl)) (phi_cons (.inr (Cl.stays 6 rfl)) phi_nil)) ?_
    obtain ⟨r6, hg6, hk2⟩ := inv_bind hk2
    refine T.dOnly (i := 5) (by kernel_rfl) ?_
    refine T.call (.dOne rfl (by kernel_rfl)) (wants1 rfl rfl rfl hb1) rfl (run_callF (vs := [_, _]) rfl Tryd.func18 rfl (by decide) rfl) (fun w hS => ref14_Same.c hB hS (i0a := 7) (i0b := 8) (i1a := 0) (i1b := 1) (a0 := (r1.1, r1.2.1, r1.2.2)) (a1 := r5) rfl rfl rfl rfl hg6) (fun x8 => ?_)
    refine T.dNext (phi_cons (.inr (Cl.stays 3 rfl)) (phi_cons (.inr (Cl.stays 6 rfl)) phi_nil)) ?_
    refine T.pickT (.dPure (i := 6) rfl (by kernel_rfl) (fun d _ _ _ _ h => by cases d <;> exact h)) rfl (wants0 rfl) rfl rfl hb1 rfl ?_
    refine T.move (.dPure (i := 7) rfl (by kernel_rfl) (fun d _ _ _ _ h => by cases d <;> exact h)) rfl (wants0 rfl) rfl rfl ?_
    refine T.bool (b := r6) (fun hb2 => ?_) (fun hb2 => ?_)
    ·replace hk2 := inv_posB hb2 hk2
     refine T.move (.dPure (i := 8) rfl (by kernel_rfl) (fun d _ _ _ _ h => by cases d <;> exact h)) rfl (wants1 rfl rfl rfl hb2) rfl rfl ?_
     refine T.move (.dPure (i := 9) rfl (by kernel_rfl) (fun d _ _ _ _ h => by cases d <;> exact h)) rfl (wants1 rfl rfl rfl hb2) rfl rfl ?_
     obtain ⟨r7, hg7, hk2⟩ := inv_bind hk2
     refine T.dOnly (i := 10) (by kernel_rfl) ?_
     refine T.call (.dOne rfl (by kernel_rfl)) (wants1 rfl rfl rfl hb2) rfl (run_callF (vs := [_]) rfl Tryd.func7 rfl (by decide) rfl) (fun w hS => law14_few.c hB hS (i0 := 2) rfl hg7) (fun x9 => ?_)
     refine T.dNext (phi_cons (.inr (Cl.stays 4 rfl)) (phi_cons (.inr (Cl.stays 7 rfl)) phi_nil)) ?_
     obtain ⟨r8, hg8, hk2⟩ := inv_bind hk2
     refine T.dOnly (i := 11) (by kernel_rfl) ?_
     refine T.call (.dOne rfl (by kernel_rfl)) (wants1 rfl rfl rfl hb2) rfl (run_callF (vs := [_, _]) rfl Tryd.func14 rfl (by decide) rfl) (fun w hS => (ref2_Same.c (hB.up hS) (St.borrow (ros := [Ro (Elt.pair E64 (Elt.pair E64 EStr)) x2.1 x2.2 r2, Ro (Elt.pair E64 (Elt.pair E64 EStr)) x9.1 x9.2 r7]) (Ros.cons (hS.roBf 10 rfl rfl) (Ros.cons (hS.roBf 0 rfl rfl) Ros.nil))) (i0 := 0) (i1 := 1) rfl rfl hg8).mono fun e w' ⟨x, he, h1⟩ => ⟨x, he, hS.unborrow (post := []) h1 Frees.nil⟩) (fun x10 => ?_)
     refine T.dNext (phi_cons (.inr (Cl.stays 4 rfl)) (phi_cons (.inr (Cl.stays 7 rfl)) phi_nil)) ?_
     refine T.pickT (.dPure (i := 12) rfl (by kernel_rfl) (fun d _ _ _ _ h => by cases d <;> exact h)) rfl (wants0 rfl) rfl rfl hb2 rfl ?_
     refine T.assign (.dPure (i := 13) rfl (by kernel_rfl) (fun d _ _ _ _ h => by cases d <;> exact h)) rfl (wants0 rfl) rfl rfl ?_
     refine T.dDone (by kernel_rfl) ?_
     refine T.then_normal ?_
     refine T.ret ?_
     obtain rfl := inv_some hk2
     refine T.pick [] 11 rfl rfl (Nat.le_add_left _ _) rfl ?_
     refine T.ret1 rfl rfl (fun w hS => ⟨(), rfl, hS⟩)
    ·replace hk2 := inv_negB hb2 hk2
     refine T.leave (.dPure (i := 8) rfl (by kernel_rfl) (fun d _ _ _ _ h => by cases d <;> exact h)) (wantsNot rfl rfl rfl hb2) rfl ?_
     refine T.leave (.dPure (i := 9) rfl (by kernel_rfl) (fun d _ _ _ _ h => by cases d <;> exact h)) (wantsNot rfl rfl rfl hb2) rfl ?_
     refine T.leave (.dPure (i := 10) rfl (by kernel_rfl) (fun d _ _ _ _ h => by cases d <;> exact h)) (wantsNot rfl rfl rfl hb2) rfl ?_
     refine T.leave (.dPure (i := 11) rfl (by kernel_rfl) (fun d _ _ _ _ h => by cases d <;> exact h)) (wantsNot rfl rfl rfl hb2) rfl ?_
     refine T.pickF (.dPure (i := 12) rfl (by kernel_rfl) (fun d _ _ _ _ h => by cases d <;> exact h)) rfl (wants0 rfl) rfl rfl hb2 rfl ?_
     refine T.assign (.dPure (i := 13) rfl (by kernel_rfl) (fun d _ _ _ _ h => by cases d <;> exact h)) rfl (wants0 rfl) rfl rfl ?_
     refine T.dDone (by kernel_rfl) ?_
     refine T.then_normal ?_
     refine T.ret ?_
     obtain rfl := inv_some hk2
     refine T.pick [] 10 rfl rfl (Nat.le_add_left _ _) rfl ?_
     refine T.ret1 rfl rfl (fun w hS => ⟨(), rfl, hS⟩)
   ·replace hk2 := inv_negB hb1 hk2
    refine T.leave (.dPure (i := 2) rfl (by kernel_rfl) (fun d _ _ _ _ h => by cases d <;> exact h)) (wantsNot rfl rfl rfl hb1) rfl ?_
    refine T.leave (.dPure (i := 3) rfl (by kernel_rfl) (fun d _ _ _ _ h => by cases d <;> exact h)) (wantsNot rfl rfl rfl hb1) rfl ?_
    refine T.leave (.dPure (i := 4) rfl (by kernel_rfl) (fun d _ _ _ _ h => by cases d <;> exact h)) (wantsNot rfl rfl rfl hb1) rfl ?_
    refine T.leave (.dPure (i := 5) rfl (by kernel_rfl) (fun d _ _ _ _ h => by cases d <;> exact h)) (wantsNot rfl rfl rfl hb1) rfl ?_
    refine T.pickF (.dPure (i := 6) rfl (by kernel_rfl) (fun d _ _ _ _ h => by cases d <;> exact h)) rfl (wants0 rfl) rfl rfl hb1 rfl ?_
    refine T.move (.dPure (i := 7) rfl (by kernel_rfl) (fun d _ _ _ _ h => by cases d <;> exact h)) rfl (wants0 rfl) rfl rfl ?_
    refine T.leave (.dPure (i := 8) rfl (by kernel_rfl) (fun d _ _ _ _ h => by cases d <;> exact h)) (wantsNot rfl rfl rfl rfl) rfl ?_
    refine T.leave (.dPure (i := 9) rfl (by kernel_rfl) (fun d _ _ _ _ h => by cases d <;> exact h)) (wantsNot rfl rfl rfl rfl) rfl ?_
    refine T.leave (.dPure (i := 10) rfl (by kernel_rfl) (fun d _ _ _ _ h => by cases d <;> exact h)) (wantsNot rfl rfl rfl rfl) rfl ?_
    refine T.leave (.dPure (i := 11) rfl (by kernel_rfl) (fun d _ _ _ _ h => by cases d <;> exact h)) (wantsNot rfl rfl rfl rfl) rfl ?_
    refine T.pickF (.dPure (i := 12) rfl (by kernel_rfl) (fun d _ _ _ _ h => by cases d <;> exact h)) rfl (wants0 rfl) rfl rfl rfl rfl ?_
    refine T.assign (.dPure (i := 13) rfl (by kernel_rfl) (fun d _ _ _ _ h => by cases d <;> exact h)) rfl (wants0 rfl) rfl rfl ?_
    refine T.dDone (by kernel_rfl) ?_
    refine T.then_normal ?_
    refine T.ret ?_
    obtain rfl := inv_some hk2
    refine T.pick [] 8 rfl rfl (Nat.le_add_left _ _) rfl ?_
    refine T.ret1 rfl rfl (fun w hS => ⟨(), rfl, hS⟩)
  ·refine T.seq ?_
   refine T.region ?_
   refine T.assign .list rfl (wants0 rfl) rfl rfl ?_
   refine T.nil ?_
   refine T.then_normal ?_
   refine T.block ?_
   obtain ⟨e1, hl1, hk1⟩ := inv_bind hk1
   refine T.le (EnvLe.cons rfl (EnvLe.cons rfl (EnvLe.cons rfl (EnvLe.cons rfl (EnvLe.cons rfl (EnvLe.cons rfl (EnvLe.cons rfl EnvLe.nil))))))) (T.pick [0, 1, 2, 3, 4, 5, 6, 7, 8] 9 rfl rfl (Nat.le_add_left _ _) rfl (T.loop (s0 := (r4, 0)) (env := fun s3 x11 => [(1, .slice A1 l1.length c1), (3, .pointer (some ⟨b1, 0, none⟩)), (7, .pointer (some ⟨b2, 0, none⟩)), (8, .slice x2.1 r2.length x2.2), (10, .slice x11.1 s3.1.length x11.2), (11, .bool s1), (12, .int .i64 s3.2)]) (hs := fun (s3 : (List (Int × Int × (List UInt8))) × Int) (x11 : (Option Addr × Nat)) => Ro (Elt.pair E64 (Elt.pair E64 EStr)) A1 c1 l1 :: Cl b1 25 [str a0.1, .slice A0a a0.2.1.length c0a, .slice A0b a0.2.2.length c0b] :: Ro (Elt.pair EStr (Elt.pair E64 E64)) A0a c0a a0.2.1 :: Ro (Elt.pair E64 EBool) A0b c0b a0.2.2 :: Cl b2 25 [str r1.1, .slice x1.1.1 r1.2.1.length x1.1.2, .slice x1.2.1 r1.2.2.length x1.2.2] :: Ro (Elt.pair EStr (Elt.pair E64 E64)) x1.1.1 x1.1.2 r1.2.1 :: Ro (Elt.pair E64 EBool) x1.2.1 x1.2.2 r1.2.2 :: Bf (Elt.pair E64 (Elt.pair E64 EStr)) 39 x2.1 x2.2 r2 :: Bf (Elt.pair E64 (Elt.pair E64 EStr)) 39 x11.1 x11.2 s3.1 :: hs) hl1 (x4.1, x4.2) (fun K1 s3 x11 o1 he1 hm1 hx1 => ?_)))
   unfold law14_SchemaTells.st1 at he1
   refine T.seq ?_
   refine T.seq ?_
   refine T.region ?_
   refine T.move .list rfl (wants0 rfl) rfl rfl ?_
   refine T.move .list rfl (wants0 rfl) rfl rfl ?_
   refine T.lenSlice .list rfl (wants0 rfl) rfl rfl ?_
   refine T.bin .list rfl (wants0 rfl) rfl rfl rfl rfl ?_
   refine T.nil ?_
   refine T.then_normal ?_
   refine T.cond rfl (fun hb3 => ?_) (fun hb3 => ?_)
   ·replace he1 := inv_posB hb3 he1
    refine T.skip ?_
    refine T.then_normal ?_
    refine T.seq ?_
    refine T.block ?_
    refine T.region ?_
    refine T.move .list rfl (wants0 rfl) rfl rfl ?_
    refine T.move .list rfl (wants0 rfl) rfl rfl ?_
    refine T.build .list (vals := [(0, .int .i64 (-9))]) (cells := #[.int .i64 (-9), .int .i64 0, str (([] : List UInt8))]) rfl (wants0 rfl) rfl rfl (run_buildStruct (sizes := [1, 1, 1]) (by kernel_rfl) (by kernel_rfl)) ?_
    obtain ⟨hc1, he1⟩ := inv_chk he1
    refine T.idxBf .list 8 rfl rfl (wants0 rfl) rfl rfl rfl hc1.1 hc1.2 (Nat.le_refl _) ?_
    refine T.stBfS .list 8 (z := (-9, 0, ([] : List UInt8))) (us := [.int .i64 (-9), .int .i64 0, str (([] : List UInt8))]) rfl rfl rfl (wants0 rfl) rfl rfl rfl (Has.pair (Has.sc rfl) (Has.pair (Has.sc rfl) (Has.sc rfl) rfl) rfl) hc1.1 hc1.2 rfl ?_
    refine T.nil ?_
    refine T.in_normal ?_
    refine T.then_normal ?_
    refine T.region ?_
    refine T.move .list rfl (wants0 rfl) rfl rfl ?_
    refine T.bin .list rfl (wants0 rfl) rfl rfl rfl rfl ?_
    refine T.assign .list rfl (wants0 rfl) rfl rfl ?_
    refine T.nil ?_
    refine T.then_normal ?_
    obtain rfl := inv_some he1
    refine T.env1 10 rfl (slc (n' := (((s3.1).set (s3.2 : Int).toNat (-9, 0, ([] : List UInt8)))).length) (by simp only [List.length_set])) ?_
    exact T.le (EnvLe.cons rfl (EnvLe.cons rfl (EnvLe.cons rfl (EnvLe.cons rfl (EnvLe.cons rfl (EnvLe.cons rfl (EnvLe.cons rfl EnvLe.nil))))))) (T.pick [0, 1, 2, 3, 4, 5, 6, 7, 8] 9 rfl rfl (Nat.le_add_left _ _) rfl (hm1 _ rfl (x11.1, x11.2)))
   ·replace he1 := inv_negB hb3 he1
    refine T.exit ?_
    refine T.then_exit ?_
    refine T.then_exit ?_
    obtain rfl := inv_some he1
    obtain rfl := hx1 _ rfl
    refine T.in_hit ?_
    refine T.then_normal ?_
    exact T.le (EnvLe.cons rfl (EnvLe.cons rfl (EnvLe.cons rfl (EnvLe.cons rfl (EnvLe.cons rfl EnvLe.nil))))) (T.pick [0, 1, 2, 3, 4, 5, 6, 7] 9 rfl rfl (Nat.le_add_left _ _) rfl (J2 () () hk1))
 ·refine T.dStart mixed ?_
  obtain ⟨r9, hg9, hr⟩ := inv_bind hr
  refine T.dOnly (i := 0) (by kernel_rfl) ?_
  refine T.call (.dOne rfl (by kernel_rfl)) (wants0 rfl) rfl (run_callF (vs := []) rfl Tryd.func10 rfl (by decide) rfl) (fun w hS => law14_told.c hB hS  hg9) (fun x12 => ?_)
  refine T.dNext phi_nil ?_
  refine T.move (.dPure (i := 1) rfl (by kernel_rfl) (fun d _ _ _ _ h => by cases d <;> exact h)) rfl (wants0 rfl) rfl rfl ?_
  refine T.bool (b := r9) (fun hb4 => ?_) (fun hb4 => ?_)
  ·replace hr := inv_posB hb4 hr
   refine T.move (.dPure (i := 2) rfl (by kernel_rfl) (fun d _ _ _ _ h => by cases d <;> exact h)) rfl (wants1 rfl rfl rfl hb4) rfl rfl ?_
   refine T.bin (.dPure (i := 3) rfl (by kernel_rfl) (fun d _ _ _ _ h => by cases d <;> exact h)) rfl (wants1 rfl rfl rfl hb4) rfl rfl rfl rfl ?_
   refine T.dAdd 39 (fun w => w.heap[b2]? = some (.cells [str r1.1, .slice x1.1.1 r1.2.1.length x1.1.2, .slice x1.2.1 r1.2.2.length x1.2.2].toArray 25 (0, 0))) (Cl.stays 1 rfl) ?_
   refine T.valS 0 (i := 4) (.agg #[str r1.1, .slice x1.1.1 r1.2.1.length x1.1.2, .slice x1.2.1 r1.2.2.length x1.2.2]) rfl rfl (by kernel_rfl) (by kernel_rfl) (fun d _ _ _ _ h => by cases d <;> exact h) (wants1 rfl rfl rfl hb4) rfl (run_ldClN rfl rfl (vs := [str r1.1, .slice x1.1.1 r1.2.1.length x1.1.2, .slice x1.2.1 r1.2.2.length x1.2.2]) rfl rfl) ?_
   obtain ⟨r10, hg10, hr⟩ := inv_bind hr
   refine T.dOnly (i := 5) (by kernel_rfl) ?_
   refine T.call (.dOne rfl (by kernel_rfl)) (wants1 rfl rfl rfl hb4) rfl (run_callF (vs := [_]) rfl Tryd.func11 rfl (by decide) rfl) (fun w hS => ref14_Right.c hB hS (i0a := 3) (i0b := 4) (a0 := (r1.1, r1.2.1, r1.2.2)) rfl rfl hg10) (fun x13 => ?_)
   refine T.dNext (phi_cons (.inr (Cl.stays 1 rfl)) phi_nil) ?_
   refine T.boolEq (.dPure (i := 6) rfl (by kernel_rfl) (fun d _ _ _ _ h => by cases d <;> exact h)) rfl (wants1 rfl rfl rfl hb4) rfl rfl rfl (by kernel_rfl) ?_
   refine T.pickT (.dPure (i := 7) rfl (by kernel_rfl) (fun d _ _ _ _ h => by cases d <;> exact h)) rfl (wants0 rfl) rfl rfl hb4 rfl ?_
   refine T.move (.dPure (i := 8) rfl (by kernel_rfl) (fun d _ _ _ _ h => by cases d <;> exact h)) rfl (wants0 rfl) rfl rfl ?_
   refine T.bool (b := (decide ((decide (r3 = 0)) = r10))) (fun hb5 => ?_) (fun hb5 => ?_)
   ·replace hr := inv_posB hb5 hr
    refine T.move (.dPure (i := 9) rfl (by kernel_rfl) (fun d _ _ _ _ h => by cases d <;> exact h)) rfl (wants1 rfl rfl rfl hb5) rfl rfl ?_
    refine T.bin (.dPure (i := 10) rfl (by kernel_rfl) (fun d _ _ _ _ h => by cases d <;> exact h)) rfl (wants1 rfl rfl rfl hb5) rfl rfl rfl rfl ?_
    refine T.move (.dPure (i := 11) rfl (by kernel_rfl) (fun d _ _ _ _ h => by cases d <;> exact h)) rfl (wants1 rfl rfl rfl hb5) rfl rfl ?_
    refine T.bool (b := (decide (r3 = 0))) (fun hb6 => ?_) (fun hb6 => ?_)
    ·replace hr := inv_posB hb6 hr
     refine T.leave (.dPure (i := 12) rfl (by kernel_rfl) (fun d _ _ _ _ h => by cases d <;> exact h)) (wantsNot rfl rfl rfl hb6) rfl ?_
     refine T.leave (.dPure (i := 13) rfl (by kernel_rfl) (fun d _ _ _ _ h => by cases d <;> exact h)) (wantsNot rfl rfl rfl hb6) rfl ?_
     refine T.pickT (.dPure (i := 14) rfl (by kernel_rfl) (fun d _ _ _ _ h => by cases d <;> exact h)) rfl (wants1 rfl rfl rfl hb5) rfl rfl hb6 rfl ?_
     refine T.pickT (.dPure (i := 15) rfl (by kernel_rfl) (fun d _ _ _ _ h => by cases d <;> exact h)) rfl (wants0 rfl) rfl rfl hb5 rfl ?_
     refine T.move (.dPure (i := 16) rfl (by kernel_rfl) (fun d _ _ _ _ h => by cases d <;> exact h)) rfl (wants0 rfl) rfl rfl ?_
     refine T.move (.dPure (i := 18) rfl (by kernel_rfl) (fun d _ _ _ _ h => by cases d <;> exact h)) rfl (wants1 rfl rfl rfl rfl) rfl rfl ?_
     refine T.move (.dPure (i := 21) rfl (by kernel_rfl) (fun d _ _ _ _ h => by cases d <;> exact h)) rfl (wants1 rfl rfl rfl rfl) rfl rfl ?_
     refine T.valS 0 (i := 17) (.agg #[str r1.1, .slice x1.1.1 r1.2.1.length x1.1.2, .slice x1.2.1 r1.2.2.length x1.2.2]) rfl rfl (by kernel_rfl) (by kernel_rfl) (fun d _ _ _ _ h => by cases d <;> exact h) (wants1 rfl rfl rfl rfl) rfl (run_ldClN rfl rfl (vs := [str r1.1, .slice x1.1.1 r1.2.1.length x1.1.2, .slice x1.2.1 r1.2.2.length x1.2.2]) rfl rfl) ?_
     refine T.valS 0 (i := 20) (.agg #[str r1.1, .slice x1.1.1 r1.2.1.length x1.1.2, .slice x1.2.1 r1.2.2.length x1.2.2]) rfl rfl (by kernel_rfl) (by kernel_rfl) (fun d _ _ _ _ h => by cases d <;> exact h) (wants1 rfl rfl rfl rfl) rfl (run_ldClN rfl rfl (vs := [str r1.1, .slice x1.1.1 r1.2.1.length x1.1.2, .slice x1.2.1 r1.2.2.length x1.2.2]) rfl rfl) ?_
     obtain ⟨r11, hg11, hr⟩ := inv_bind hr
     refine T.dOnly (i := 19) (by kernel_rfl) ?_
     refine T.call (.dOne rfl (by kernel_rfl)) (wants1 rfl rfl rfl rfl) rfl (run_callF (vs := [_, _]) rfl Tryd.func12 rfl (by decide) rfl) (fun w hS => (schema_Fits.c (hB.up hS) (St.borrow (ros := [Ro (Elt.pair EStr (Elt.pair E64 E64)) x1.1.1 x1.1.2 r1.2.1, Ro (Elt.pair E64 EBool) x1.2.1 x1.2.2 r1.2.2, Ro (Elt.pair E64 (Elt.pair E64 EStr)) x2.1 x2.2 r2]) (Ros.cons (hS.roRo 3 rfl) (Ros.cons (hS.roRo 4 rfl) (Ros.cons (hS.roBf 2 rfl rfl) Ros.nil)))) (i0a := 0) (i0b := 1) (i1 := 2) (a0 := (r1.1, r1.2.1, r1.2.2)) rfl rfl rfl hg11).mono fun e w' ⟨x, he, h1⟩ => ⟨x, he, hS.unborrow (post := []) h1 Frees.nil⟩) (fun x14 => ?_)
     refine T.dNext (phi_cons (.inr (Cl.stays 1 rfl)) phi_nil) ?_
     obtain ⟨r12, hg12, hr⟩ := inv_bind hr
     refine T.dOnly (i := 22) (by kernel_rfl) ?_
     refine T.call (.dOne rfl (by kernel_rfl)) (wants1 rfl rfl rfl rfl) rfl (run_callF (vs := [_, _]) rfl Tryd.func13 rfl (by decide) rfl) (fun w hS => (ref14_Fits.c (hB.up hS) (St.borrow (ros := [Ro (Elt.pair EStr (Elt.pair E64 E64)) x1.1.1 x1.1.2 r1.2.1, Ro (Elt.pair E64 EBool) x1.2.1 x1.2.2 r1.2.2, Ro (Elt.pair E64 (Elt.pair E64 EStr)) x2.1 x2.2 r2]) (Ros.cons (hS.roRo 3 rfl) (Ros.cons (hS.roRo 4 rfl) (Ros.cons (hS.roBf 2 rfl rfl) Ros.nil)))) (i0a := 0) (i0b := 1) (i1 := 2) (a0 := (r1.1, r1.2.1, r1.2.2)) rfl rfl rfl hg12).mono fun e w' ⟨x, he, h1⟩ => ⟨x, he, hS.unborrow (post := []) h1 Frees.nil⟩) (fun x15 => ?_)
     refine T.dNext (phi_cons (.inr (Cl.stays 1 rfl)) phi_nil) ?_
     refine T.bin (.dPure (i := 23) rfl (by kernel_rfl) (fun d _ _ _ _ h => by cases d <;> exact h)) rfl (wants1 rfl rfl rfl rfl) rfl rfl rfl rfl ?_
     refine T.pickT (.dPure (i := 24) rfl (by kernel_rfl) (fun d _ _ _ _ h => by cases d <;> exact h)) rfl (wants0 rfl) rfl rfl rfl rfl ?_
     refine T.move (.dPure (i := 25) rfl (by kernel_rfl) (fun d _ _ _ _ h => by cases d <;> exact h)) rfl (wants0 rfl) rfl rfl ?_
     refine T.bool (b := (decide (r11 = r12))) (fun hb7 => ?_) (fun hb7 => ?_)
     ·replace hr := inv_posB hb7 hr
      refine T.move (.dPure (i := 26) rfl (by kernel_rfl) (fun d _ _ _ _ h => by cases d <;> exact h)) rfl (wants1 rfl rfl rfl hb7) rfl rfl ?_
      refine T.move (.dPure (i := 27) rfl (by kernel_rfl) (fun d _ _ _ _ h => by cases d <;> exact h)) rfl (wants1 rfl rfl rfl hb7) rfl rfl ?_
      obtain ⟨r13, hg13, hr⟩ := inv_bind hr
      refine T.dOnly (i := 28) (by kernel_rfl) ?_
      refine T.call (.dOne rfl (by kernel_rfl)) (wants1 rfl rfl rfl hb7) rfl (run_callF (vs := [_]) rfl Tryd.func15 rfl (by decide) rfl) (fun w hS => (ref14_Fold.c (hB.up hS) (St.borrow (ros := [Ro (Elt.pair E64 (Elt.pair E64 EStr)) x2.1 x2.2 r2]) (Ros.cons (hS.roBf 2 rfl rfl) Ros.nil)) (i0 := 0) rfl hg13).mono fun e w' ⟨x, he, h1⟩ => ⟨x, he, hS.unborrow (post := [Bf (Elt.pair E64 (Elt.pair E64 EStr)) 39 x.1 x.2 r13]) h1 (Frees.cons (Bf.free (.pair .sc (.pair .sc .sc))) Frees.nil)⟩) (fun x16 => ?_)
      refine T.dNext (phi_cons (.inr (Cl.stays 2 rfl)) phi_nil) ?_
      obtain ⟨r14, hg14, hr⟩ := inv_bind hr
      refine T.dOnly (i := 29) (by kernel_rfl) ?_
      refine T.call (.dOne rfl (by kernel_rfl)) (wants1 rfl rfl rfl hb7) rfl (run_callF (vs := [_, _]) rfl Tryd.func14 rfl (by decide) rfl) (fun w hS => (ref2_Same.c (hB.up hS) (St.borrow (ros := [Ro (Elt.pair E64 (Elt.pair E64 EStr)) x4.1 x4.2 r4, Ro (Elt.pair E64 (Elt.pair E64 EStr)) x16.1 x16.2 r13]) (Ros.cons (hS.roBf 1 rfl rfl) (Ros.cons (hS.roBf 0 rfl rfl) Ros.nil))) (i0 := 0) (i1 := 1) rfl rfl hg14).mono fun e w' ⟨x, he, h1⟩ => ⟨x, he, hS.unborrow (post := []) h1 Frees.nil⟩) (fun x17 => ?_)
      refine T.dNext (phi_cons (.inr (Cl.stays 2 rfl)) phi_nil) ?_
      refine T.pickT (.dPure (i := 30) rfl (by kernel_rfl) (fun d _ _ _ _ h => by cases d <;> exact h)) rfl (wants0 rfl) rfl rfl hb7 rfl ?_
      refine T.move (.dPure (i := 31) rfl (by kernel_rfl) (fun d _ _ _ _ h => by cases d <;> exact h)) rfl (wants0 rfl) rfl rfl ?_
      refine T.bool (b := r14) (fun hb8 => ?_) (fun hb8 => ?_)
      ·replace hr := inv_posB hb8 hr
       refine T.move (.dPure (i := 32) rfl (by kernel_rfl) (fun d _ _ _ _ h => by cases d <;> exact h)) rfl (wants1 rfl rfl rfl hb8) rfl rfl ?_
       refine T.move (.dPure (i := 34) rfl (by kernel_rfl) (fun d _ _ _ _ h => by cases d <;> exact h)) rfl (wants1 rfl rfl rfl hb8) rfl rfl ?_
       obtain ⟨r15, hg15, hr⟩ := inv_bind hr
       refine T.dOnly (i := 33) (by kernel_rfl) ?_
       refine T.call (.dOne rfl (by kernel_rfl)) (wants1 rfl rfl rfl hb8) rfl (run_callF (vs := [_]) rfl Tryd.func16 rfl (by decide) rfl) (fun w hS => schema_Name.c hB hS  hg15) (fun x18 => ?_)
       refine T.dNext (phi_cons (.inr (Cl.stays 2 rfl)) phi_nil) ?_
       obtain ⟨r16, hg16, hr⟩ := inv_bind hr
       refine T.dOnly (i := 35) (by kernel_rfl) ?_
       refine T.call (.dOne rfl (by kernel_rfl)) (wants1 rfl rfl rfl hb8) rfl (run_callF (vs := [_]) rfl Tryd.func17 rfl (by decide) rfl) (fun w hS => ref14_Name.c hB hS  hg16) (fun x19 => ?_)
       refine T.dNext (phi_cons (.inr (Cl.stays 2 rfl)) phi_nil) ?_
       refine T.boolEq (.dPure (i := 36) rfl (by kernel_rfl) (fun d _ _ _ _ h => by cases d <;> exact h)) rfl (wants1 rfl rfl rfl hb8) rfl rfl rfl (by kernel_rfl) ?_
       refine T.pickT (.dPure (i := 37) rfl (by kernel_rfl) (fun d _ _ _ _ h => by cases d <;> exact h)) rfl (wants0 rfl) rfl rfl hb8 rfl ?_
       refine T.assign (.dPure (i := 38) rfl (by kernel_rfl) (fun d _ _ _ _ h => by cases d <;> exact h)) rfl (wants0 rfl) rfl rfl ?_
       refine T.dDone (by kernel_rfl) ?_
       refine T.then_normal ?_
       exact T.le (EnvLe.cons rfl (EnvLe.cons rfl (EnvLe.cons rfl (EnvLe.cons rfl (EnvLe.cons rfl (EnvLe.cons rfl EnvLe.nil)))))) (T.pick [7, 6, 9, 8, 2, 4, 5, 3, 1] 10 rfl rfl (Nat.le_add_left _ _) rfl (J1 (decide (r15 = r16)) () hr))
      ·replace hr := inv_negB hb8 hr
       refine T.leave (.dPure (i := 32) rfl (by kernel_rfl) (fun d _ _ _ _ h => by cases d <;> exact h)) (wantsNot rfl rfl rfl hb8) rfl ?_
       refine T.leave (.dPure (i := 33) rfl (by kernel_rfl) (fun d _ _ _ _ h => by cases d <;> exact h)) (wantsNot rfl rfl rfl hb8) rfl ?_
       refine T.leave (.dPure (i := 34) rfl (by kernel_rfl) (fun d _ _ _ _ h => by cases d <;> exact h)) (wantsNot rfl rfl rfl hb8) rfl ?_
       refine T.leave (.dPure (i := 35) rfl (by kernel_rfl) (fun d _ _ _ _ h => by cases d <;> exact h)) (wantsNot rfl rfl rfl hb8) rfl ?_
       refine T.leave (.dPure (i := 36) rfl (by kernel_rfl) (fun d _ _ _ _ h => by cases d <;> exact h)) (wantsNot rfl rfl rfl hb8) rfl ?_
       refine T.pickF (.dPure (i := 37) rfl (by kernel_rfl) (fun d _ _ _ _ h => by cases d <;> exact h)) rfl (wants0 rfl) rfl rfl hb8 rfl ?_
       refine T.assign (.dPure (i := 38) rfl (by kernel_rfl) (fun d _ _ _ _ h => by cases d <;> exact h)) rfl (wants0 rfl) rfl rfl ?_
       refine T.dDone (by kernel_rfl) ?_
       refine T.then_normal ?_
       exact T.le (EnvLe.cons rfl (EnvLe.cons rfl (EnvLe.cons rfl (EnvLe.cons rfl (EnvLe.cons rfl (EnvLe.cons rfl EnvLe.nil)))))) (T.pick [7, 6, 9, 8, 2, 4, 5, 3, 1] 10 rfl rfl (Nat.le_add_left _ _) rfl (J1 false () hr))
     ·replace hr := inv_negB hb7 hr
      refine T.leave (.dPure (i := 26) rfl (by kernel_rfl) (fun d _ _ _ _ h => by cases d <;> exact h)) (wantsNot rfl rfl rfl hb7) rfl ?_
      refine T.leave (.dPure (i := 27) rfl (by kernel_rfl) (fun d _ _ _ _ h => by cases d <;> exact h)) (wantsNot rfl rfl rfl hb7) rfl ?_
      refine T.leave (.dPure (i := 28) rfl (by kernel_rfl) (fun d _ _ _ _ h => by cases d <;> exact h)) (wantsNot rfl rfl rfl hb7) rfl ?_
      refine T.leave (.dPure (i := 29) rfl (by kernel_rfl) (fun d _ _ _ _ h => by cases d <;> exact h)) (wantsNot rfl rfl rfl hb7) rfl ?_
      refine T.pickF (.dPure (i := 30) rfl (by kernel_rfl) (fun d _ _ _ _ h => by cases d <;> exact h)) rfl (wants0 rfl) rfl rfl hb7 rfl ?_
      refine T.move (.dPure (i := 31) rfl (by kernel_rfl) (fun d _ _ _ _ h => by cases d <;> exact h)) rfl (wants0 rfl) rfl rfl ?_
      refine T.leave (.dPure (i := 32) rfl (by kernel_rfl) (fun d _ _ _ _ h => by cases d <;> exact h)) (wantsNot rfl rfl rfl rfl) rfl ?_
      refine T.leave (.dPure (i := 33) rfl (by kernel_rfl) (fun d _ _ _ _ h => by cases d <;> exact h)) (wantsNot rfl rfl rfl rfl) rfl ?_
      refine T.leave (.dPure (i := 34) rfl (by kernel_rfl) (fun d _ _ _ _ h => by cases d <;> exact h)) (wantsNot rfl rfl rfl rfl) rfl ?_
      refine T.leave (.dPure (i := 35) rfl (by kernel_rfl) (fun d _ _ _ _ h => by cases d <;> exact h)) (wantsNot rfl rfl rfl rfl) rfl ?_
      refine T.leave (.dPure (i := 36) rfl (by kernel_rfl) (fun d _ _ _ _ h => by cases d <;> exact h)) (wantsNot rfl rfl rfl rfl) rfl ?_
      refine T.pickF (.dPure (i := 37) rfl (by kernel_rfl) (fun d _ _ _ _ h => by cases d <;> exact h)) rfl (wants0 rfl) rfl rfl rfl rfl ?_
      refine T.assign (.dPure (i := 38) rfl (by kernel_rfl) (fun d _ _ _ _ h => by cases d <;> exact h)) rfl (wants0 rfl) rfl rfl ?_
      refine T.dDone (by kernel_rfl) ?_
      refine T.then_normal ?_
      exact T.le (EnvLe.cons rfl (EnvLe.cons rfl (EnvLe.cons rfl (EnvLe.cons rfl (EnvLe.cons rfl (EnvLe.cons rfl EnvLe.nil)))))) (T.pick [6, 5, 8, 7, 1, 3, 4, 2, 0] 9 rfl rfl (Nat.le_add_left _ _) rfl (J1 false () hr))
    ·replace hr := inv_negB hb6 hr
     refine T.move (.dPure (i := 12) rfl (by kernel_rfl) (fun d _ _ _ _ h => by cases d <;> exact h)) rfl (wants1 rfl rfl rfl hb6) rfl rfl ?_
     refine T.bin (.dPure (i := 13) rfl (by kernel_rfl) (fun d _ _ _ _ h => by cases d <;> exact h)) rfl (wants1 rfl rfl rfl hb6) rfl rfl rfl rfl ?_
     refine T.pickF (.dPure (i := 14) rfl (by kernel_rfl) (fun d _ _ _ _ h => by cases d <;> exact h)) rfl (wants1 rfl rfl rfl hb5) rfl rfl hb6 rfl ?_
     refine T.pickT (.dPure (i := 15) rfl (by kernel_rfl) (fun d _ _ _ _ h => by cases d <;> exact h)) rfl (wants0 rfl) rfl rfl hb5 rfl ?_
     refine T.move (.dPure (i := 16) rfl (by kernel_rfl) (fun d _ _ _ _ h => by cases d <;> exact h)) rfl (wants0 rfl) rfl rfl ?_
     refine T.bool (b := (decide (r3 = 61))) (fun hb9 => ?_) (fun hb9 => ?_)
     ·replace hr := inv_posB hb9 hr
      refine T.move (.dPure (i := 18) rfl (by kernel_rfl) (fun d _ _ _ _ h => by cases d <;> exact h)) rfl (wants1 rfl rfl rfl hb9) rfl rfl ?_
      refine T.move (.dPure (i := 21) rfl (by kernel_rfl) (fun d _ _ _ _ h => by cases d <;> exact h)) rfl (wants1 rfl rfl rfl hb9) rfl rfl ?_
      refine T.valS 0 (i := 17) (.agg #[str r1.1, .slice x1.1.1 r1.2.1.length x1.1.2, .slice x1.2.1 r1.2.2.length x1.2.2]) rfl rfl (by kernel_rfl) (by kernel_rfl) (fun d _ _ _ _ h => by cases d <;> exact h) (wants1 rfl rfl rfl hb9) rfl (run_ldClN rfl rfl (vs := [str r1.1, .slice x1.1.1 r1.2.1.length x1.1.2, .slice x1.2.1 r1.2.2.length x1.2.2]) rfl rfl) ?_
      refine T.valS 0 (i := 20) (.agg #[str r1.1, .slice x1.1.1 r1.2.1.length x1.1.2, .slice x1.2.1 r1.2.2.length x1.2.2]) rfl rfl (by kernel_rfl) (by kernel_rfl) (fun d _ _ _ _ h => by cases d <;> exact h) (wants1 rfl rfl rfl hb9) rfl (run_ldClN rfl rfl (vs := [str r1.1, .slice x1.1.1 r1.2.1.length x1.1.2, .slice x1.2.1 r1.2.2.length x1.2.2]) rfl rfl) ?_
      obtain ⟨r17, hg17, hr⟩ := inv_bind hr
      refine T.dOnly (i := 19) (by kernel_rfl) ?_
      refine T.call (.dOne rfl (by kernel_rfl)) (wants1 rfl rfl rfl hb9) rfl (run_callF (vs := [_, _]) rfl Tryd.func12 rfl (by decide) rfl) (fun w hS => (schema_Fits.c (hB.up hS) (St.borrow (ros := [Ro (Elt.pair EStr (Elt.pair E64 E64)) x1.1.1 x1.1.2 r1.2.1, Ro (Elt.pair E64 EBool) x1.2.1 x1.2.2 r1.2.2, Ro (Elt.pair E64 (Elt.pair E64 EStr)) x2.1 x2.2 r2]) (Ros.cons (hS.roRo 3 rfl) (Ros.cons (hS.roRo 4 rfl) (Ros.cons (hS.roBf 2 rfl rfl) Ros.nil)))) (i0a := 0) (i0b := 1) (i1 := 2) (a0 := (r1.1, r1.2.1, r1.2.2)) rfl rfl rfl hg17).mono fun e w' ⟨x, he, h1⟩ => ⟨x, he, hS.unborrow (post := []) h1 Frees.nil⟩) (fun x20 => ?_)
      refine T.dNext (phi_cons (.inr (Cl.stays 1 rfl)) phi_nil) ?_
      obtain ⟨r18, hg18, hr⟩ := inv_bind hr
      refine T.dOnly (i := 22) (by kernel_rfl) ?_
      refine T.call (.dOne rfl (by kernel_rfl)) (wants1 rfl rfl rfl hb9) rfl (run_callF (vs := [_, _]) rfl Tryd.func13 rfl (by decide) rfl) (fun w hS => (ref14_Fits.c (hB.up hS) (St.borrow (ros := [Ro (Elt.pair EStr (Elt.pair E64 E64)) x1.1.1 x1.1.2 r1.2.1, Ro (Elt.pair E64 EBool) x1.2.1 x1.2.2 r1.2.2, Ro (Elt.pair E64 (Elt.pair E64 EStr)) x2.1 x2.2 r2]) (Ros.cons (hS.roRo 3 rfl) (Ros.cons (hS.roRo 4 rfl) (Ros.cons (hS.roBf 2 rfl rfl) Ros.nil)))) (i0a := 0) (i0b := 1) (i1 := 2) (a0 := (r1.1, r1.2.1, r1.2.2)) rfl rfl rfl hg18).mono fun e w' ⟨x, he, h1⟩ => ⟨x, he, hS.unborrow (post := []) h1 Frees.nil⟩) (fun x21 => ?_)
      refine T.dNext (phi_cons (.inr (Cl.stays 1 rfl)) phi_nil) ?_
      refine T.bin (.dPure (i := 23) rfl (by kernel_rfl) (fun d _ _ _ _ h => by cases d <;> exact h)) rfl (wants1 rfl rfl rfl hb9) rfl rfl rfl rfl ?_
      refine T.pickT (.dPure (i := 24) rfl (by kernel_rfl) (fun d _ _ _ _ h => by cases d <;> exact h)) rfl (wants0 rfl) rfl rfl hb9 rfl ?_
      refine T.move (.dPure (i := 25) rfl (by kernel_rfl) (fun d _ _ _ _ h => by cases d <;> exact h)) rfl (wants0 rfl) rfl rfl ?_
      refine T.bool (b := (decide (r17 = r18))) (fun hb10 => ?_) (fun hb10 => ?_)
      ·replace hr := inv_posB hb10 hr
       refine T.move (.dPure (i := 26) rfl (by kernel_rfl) (fun d _ _ _ _ h => by cases d <;> exact h)) rfl (wants1 rfl rfl rfl hb10) rfl rfl ?_
       refine T.move (.dPure (i := 27) rfl (by kernel_rfl) (fun d _ _ _ _ h => by cases d <;> exact h)) rfl (wants1 rfl rfl rfl hb10) rfl rfl ?_
       obtain ⟨r19, hg19, hr⟩ := inv_bind hr
       refine T.dOnly (i := 28) (by kernel_rfl) ?_
       refine T.call (.dOne rfl (by kernel_rfl)) (wants1 rfl rfl rfl hb10) rfl (run_callF (vs := [_]) rfl Tryd.func15 rfl (by decide) rfl) (fun w hS => (ref14_Fold.c (hB.up hS) (St.borrow (ros := [Ro (Elt.pair E64 (Elt.pair E64 EStr)) x2.1 x2.2 r2]) (Ros.cons (hS.roBf 2 rfl rfl) Ros.nil)) (i0 := 0) rfl hg19).mono fun e w' ⟨x, he, h1⟩ => ⟨x, he, hS.unborrow (post := [Bf (Elt.pair E64 (Elt.pair E64 EStr)) 39 x.1 x.2 r19]) h1 (Frees.cons (Bf.free (.pair .sc (.pair .sc .sc))) Frees.nil)⟩) (fun x22 => ?_)
       refine T.dNext (phi_cons (.inr (Cl.stays 2 rfl)) phi_nil) ?_
       obtain ⟨r20, hg20, hr⟩ := inv_bind hr
       refine T.dOnly (i := 29) (by kernel_rfl) ?_
       refine T.call (.dOne rfl (by kernel_rfl)) (wants1 rfl rfl rfl hb10) rfl (run_callF (vs := [_, _]) rfl Tryd.func14 rfl (by decide) rfl) (fun w hS => (ref2_Same.c (hB.up hS) (St.borrow (ros := [Ro (Elt.pair E64 (Elt.pair E64 EStr)) x4.1 x4.2 r4, Ro (Elt.pair E64 (Elt.pair E64 EStr)) x22.1 x22.2 r19]) (Ros.cons (hS.roBf 1 rfl rfl) (Ros.cons (hS.roBf 0 rfl rfl) Ros.nil))) (i0 := 0) (i1 := 1) rfl rfl hg20).mono fun e w' ⟨x, he, h1⟩ => ⟨x, he, hS.unborrow (post := []) h1 Frees.nil⟩) (fun x23 => ?_)
       refine T.dNext (phi_cons (.inr (Cl.stays 2 rfl)) phi_nil) ?_
       refine T.pickT (.dPure (i := 30) rfl (by kernel_rfl) (fun d _ _ _ _ h => by cases d <;> exact h)) rfl (wants0 rfl) rfl rfl hb10 rfl ?_
       refine T.move (.dPure (i := 31) rfl (by kernel_rfl) (fun d _ _ _ _ h => by cases d <;> exact h)) rfl (wants0 rfl) rfl rfl ?_
       refine T.bool (b := r20) (fun hb11 => ?_) (fun hb11 => ?_)
       ·replace hr := inv_posB hb11 hr
        refine T.move (.dPure (i := 32) rfl (by kernel_rfl) (fun d _ _ _ _ h => by cases d <;> exact h)) rfl (wants1 rfl rfl rfl hb11) rfl rfl ?_
        refine T.move (.dPure (i := 34) rfl (by kernel_rfl) (fun d _ _ _ _ h => by cases d <;> exact h)) rfl (wants1 rfl rfl rfl hb11) rfl rfl ?_
        obtain ⟨r21, hg21, hr⟩ := inv_bind hr
        refine T.dOnly (i := 33) (by kernel_rfl) ?_
        refine T.call (.dOne rfl (by kernel_rfl)) (wants1 rfl rfl rfl hb11) rfl (run_callF (vs := [_]) rfl Tryd.func16 rfl (by decide) rfl) (fun w hS => schema_Name.c hB hS  hg21) (fun x24 => ?_)
        refine T.dNext (phi_cons (.inr (Cl.stays 2 rfl)) phi_nil) ?_
        obtain ⟨r22, hg22, hr⟩ := inv_bind hr
        refine T.dOnly (i := 35) (by kernel_rfl) ?_
        refine T.call (.dOne rfl (by kernel_rfl)) (wants1 rfl rfl rfl hb11) rfl (run_callF (vs := [_]) rfl Tryd.func17 rfl (by decide) rfl) (fun w hS => ref14_Name.c hB hS  hg22) (fun x25 => ?_)
        refine T.dNext (phi_cons (.inr (Cl.stays 2 rfl)) phi_nil) ?_
        refine T.boolEq (.dPure (i := 36) rfl (by kernel_rfl) (fun d _ _ _ _ h => by cases d <;> exact h)) rfl (wants1 rfl rfl rfl hb11) rfl rfl rfl (by kernel_rfl) ?_
        refine T.pickT (.dPure (i := 37) rfl (by kernel_rfl) (fun d _ _ _ _ h => by cases d <;> exact h)) rfl (wants0 rfl) rfl rfl hb11 rfl ?_
        refine T.assign (.dPure (i := 38) rfl (by kernel_rfl) (fun d _ _ _ _ h => by cases d <;> exact h)) rfl (wants0 rfl) rfl rfl ?_
        refine T.dDone (by kernel_rfl) ?_
        refine T.then_normal ?_
        exact T.le (EnvLe.cons rfl (EnvLe.cons rfl (EnvLe.cons rfl (EnvLe.cons rfl (EnvLe.cons rfl (EnvLe.cons rfl EnvLe.nil)))))) (T.pick [7, 6, 9, 8, 2, 4, 5, 3, 1] 10 rfl rfl (Nat.le_add_left _ _) rfl (J1 (decide (r21 = r22)) () hr))
       ·replace hr := inv_negB hb11 hr
        refine T.leave (.dPure (i := 32) rfl (by kernel_rfl) (fun d _ _ _ _ h => by cases d <;> exact h)) (wantsNot rfl rfl rfl hb11) rfl ?_
        refine T.leave (.dPure (i := 33) rfl (by kernel_rfl) (fun d _ _ _ _ h => by cases d <;> exact h)) (wantsNot rfl rfl rfl hb11) rfl ?_
        refine T.leave (.dPure (i := 34) rfl (by kernel_rfl) (fun d _ _ _ _ h => by cases d <;> exact h)) (wantsNot rfl rfl rfl hb11) rfl ?_
        refine T.leave (.dPure (i := 35) rfl (by kernel_rfl) (fun d _ _ _ _ h => by cases d <;> exact h)) (wantsNot rfl rfl rfl hb11) rfl ?_
        refine T.leave (.dPure (i := 36) rfl (by kernel_rfl) (fun d _ _ _ _ h => by cases d <;> exact h)) (wantsNot rfl rfl rfl hb11) rfl ?_
        refine T.pickF (.dPure (i := 37) rfl (by kernel_rfl) (fun d _ _ _ _ h => by cases d <;> exact h)) rfl (wants0 rfl) rfl rfl hb11 rfl ?_
        refine T.assign (.dPure (i := 38) rfl (by kernel_rfl) (fun d _ _ _ _ h => by cases d <;> exact h)) rfl (wants0 rfl) rfl rfl ?_
        refine T.dDone (by kernel_rfl) ?_
        refine T.then_normal ?_
        exact T.le (EnvLe.cons rfl (EnvLe.cons rfl (EnvLe.cons rfl (EnvLe.cons rfl (EnvLe.cons rfl (EnvLe.cons rfl EnvLe.nil)))))) (T.pick [7, 6, 9, 8, 2, 4, 5, 3, 1] 10 rfl rfl (Nat.le_add_left _ _) rfl (J1 false () hr))
      ·replace hr := inv_negB hb10 hr
       refine T.leave (.dPure (i := 26) rfl (by kernel_rfl) (fun d _ _ _ _ h => by cases d <;> exact h)) (wantsNot rfl rfl rfl hb10) rfl ?_
       refine T.leave (.dPure (i := 27) rfl (by kernel_rfl) (fun d _ _ _ _ h => by cases d <;> exact h)) (wantsNot rfl rfl rfl hb10) rfl ?_
       refine T.leave (.dPure (i := 28) rfl (by kernel_rfl) (fun d _ _ _ _ h => by cases d <;> exact h)) (wantsNot rfl rfl rfl hb10) rfl ?_
       refine T.leave (.dPure (i := 29) rfl (by kernel_rfl) (fun d _ _ _ _ h => by cases d <;> exact h)) (wantsNot rfl rfl rfl hb10) rfl ?_
       refine T.pickF (.dPure (i := 30) rfl (by kernel_rfl) (fun d _ _ _ _ h => by cases d <;> exact h)) rfl (wants0 rfl) rfl rfl hb10 rfl ?_
       refine T.move (.dPure (i := 31) rfl (by kernel_rfl) (fun d _ _ _ _ h => by cases d <;> exact h)) rfl (wants0 rfl) rfl rfl ?_
       refine T.leave (.dPure (i := 32) rfl (by kernel_rfl) (fun d _ _ _ _ h => by cases d <;> exact h)) (wantsNot rfl rfl rfl rfl) rfl ?_
       refine T.leave (.dPure (i := 33) rfl (by kernel_rfl) (fun d _ _ _ _ h => by cases d <;> exact h)) (wantsNot rfl rfl rfl rfl) rfl ?_
       refine T.leave (.dPure (i := 34) rfl (by kernel_rfl) (fun d _ _ _ _ h => by cases d <;> exact h)) (wantsNot rfl rfl rfl rfl) rfl ?_
       refine T.leave (.dPure (i := 35) rfl (by kernel_rfl) (fun d _ _ _ _ h => by cases d <;> exact h)) (wantsNot rfl rfl rfl rfl) rfl ?_
       refine T.leave (.dPure (i := 36) rfl (by kernel_rfl) (fun d _ _ _ _ h => by cases d <;> exact h)) (wantsNot rfl rfl rfl rfl) rfl ?_
       refine T.pickF (.dPure (i := 37) rfl (by kernel_rfl) (fun d _ _ _ _ h => by cases d <;> exact h)) rfl (wants0 rfl) rfl rfl rfl rfl ?_
       refine T.assign (.dPure (i := 38) rfl (by kernel_rfl) (fun d _ _ _ _ h => by cases d <;> exact h)) rfl (wants0 rfl) rfl rfl ?_
       refine T.dDone (by kernel_rfl) ?_
       refine T.then_normal ?_
       exact T.le (EnvLe.cons rfl (EnvLe.cons rfl (EnvLe.cons rfl (EnvLe.cons rfl (EnvLe.cons rfl (EnvLe.cons rfl EnvLe.nil)))))) (T.pick [6, 5, 8, 7, 1, 3, 4, 2, 0] 9 rfl rfl (Nat.le_add_left _ _) rfl (J1 false () hr))
     ·replace hr := inv_negB hb9 hr
      refine T.leave (.dPure (i := 17) rfl (by kernel_rfl) (fun d _ _ _ _ h => by cases d <;> exact h)) (wantsNot rfl rfl rfl hb9) rfl ?_
      refine T.leave (.dPure (i := 18) rfl (by kernel_rfl) (fun d _ _ _ _ h => by cases d <;> exact h)) (wantsNot rfl rfl rfl hb9) rfl ?_
      refine T.leave (.dPure (i := 19) rfl (by kernel_rfl) (fun d _ _ _ _ h => by cases d <;> exact h)) (wantsNot rfl rfl rfl hb9) rfl ?_
      refine T.leave (.dPure (i := 20) rfl (by kernel_rfl) (fun d _ _ _ _ h => by cases d <;> exact h)) (wantsNot rfl rfl rfl hb9) rfl ?_
      refine T.leave (.dPure (i := 21) rfl (by kernel_rfl) (fun d _ _ _ _ h => by cases d <;> exact h)) (wantsNot rfl rfl rfl hb9) rfl ?_
      refine T.leave (.dPure (i := 22) rfl (by kernel_rfl) (fun d _ _ _ _ h => by cases d <;> exact h)) (wantsNot rfl rfl rfl hb9) rfl ?_
      refine T.leave (.dPure (i := 23) rfl (by kernel_rfl) (fun d _ _ _ _ h => by cases d <;> exact h)) (wantsNot rfl rfl rfl hb9) rfl ?_
      refine T.pickF (.dPure (i := 24) rfl (by kernel_rfl) (fun d _ _ _ _ h => by cases d <;> exact h)) rfl (wants0 rfl) rfl rfl hb9 rfl ?_
      refine T.move (.dPure (i := 25) rfl (by kernel_rfl) (fun d _ _ _ _ h => by cases d <;> exact h)) rfl (wants0 rfl) rfl rfl ?_
      refine T.leave (.dPure (i := 26) rfl (by kernel_rfl) (fun d _ _ _ _ h => by cases d <;> exact h)) (wantsNot rfl rfl rfl rfl) rfl ?_
      refine T.leave (.dPure (i := 27) rfl (by kernel_rfl) (fun d _ _ _ _ h => by cases d <;> exact h)) (wantsNot rfl rfl rfl rfl) rfl ?_
      refine T.leave (.dPure (i := 28) rfl (by kernel_rfl) (fun d _ _ _ _ h => by cases d <;> exact h)) (wantsNot rfl rfl rfl rfl) rfl ?_
      refine T.leave (.dPure (i := 29) rfl (by kernel_rfl) (fun d _ _ _ _ h => by cases d <;> exact h)) (wantsNot rfl rfl rfl rfl) rfl ?_
      refine T.pickF (.dPure (i := 30) rfl (by kernel_rfl) (fun d _ _ _ _ h => by cases d <;> exact h)) rfl (wants0 rfl) rfl rfl rfl rfl ?_
      refine T.move (.dPure (i := 31) rfl (by kernel_rfl) (fun d _ _ _ _ h => by cases d <;> exact h)) rfl (wants0 rfl) rfl rfl ?_
      refine T.leave (.dPure (i := 32) rfl (by kernel_rfl) (fun d _ _ _ _ h => by cases d <;> exact h)) (wantsNot rfl rfl rfl rfl) rfl ?_
      refine T.leave (.dPure (i := 33) rfl (by kernel_rfl) (fun d _ _ _ _ h => by cases d <;> exact h)) (wantsNot rfl rfl rfl rfl) rfl ?_
      refine T.leave (.dPure (i := 34) rfl (by kernel_rfl) (fun d _ _ _ _ h => by cases d <;> exact h)) (wantsNot rfl rfl rfl rfl) rfl ?_
      refine T.leave (.dPure (i := 35) rfl (by kernel_rfl) (fun d _ _ _ _ h => by cases d <;> exact h)) (wantsNot rfl rfl rfl rfl) rfl ?_
      refine T.leave (.dPure (i := 36) rfl (by kernel_rfl) (fun d _ _ _ _ h => by cases d <;> exact h)) (wantsNot rfl rfl rfl rfl) rfl ?_
      refine T.pickF (.dPure (i := 37) rfl (by kernel_rfl) (fun d _ _ _ _ h => by cases d <;> exact h)) rfl (wants0 rfl) rfl rfl rfl rfl ?_
      refine T.assign (.dPure (i := 38) rfl (by kernel_rfl) (fun d _ _ _ _ h => by cases d <;> exact h)) rfl (wants0 rfl) rfl rfl ?_
      refine T.dDone (by kernel_rfl) ?_
      refine T.then_normal ?_
      exact T.le (EnvLe.cons rfl (EnvLe.cons rfl (EnvLe.cons rfl (EnvLe.cons rfl (EnvLe.cons rfl (EnvLe.cons rfl EnvLe.nil)))))) (T.pick [6, 5, 8, 7, 1, 3, 4, 2, 0] 9 rfl rfl (Nat.le_add_left _ _) rfl (J1 false () hr))
   ·replace hr := inv_negB hb5 hr
    refine T.leave (.dPure (i := 9) rfl (by kernel_rfl) (fun d _ _ _ _ h => by cases d <;> exact h)) (wantsNot rfl rfl rfl hb5) rfl ?_
    refine T.leave (.dPure (i := 10) rfl (by kernel_rfl) (fun d _ _ _ _ h => by cases d <;> exact h)) (wantsNot rfl rfl rfl hb5) rfl ?_
    refine T.leave (.dPure (i := 11) rfl (by kernel_rfl) (fun d _ _ _ _ h => by cases d <;> exact h)) (wantsNot rfl rfl rfl hb5) rfl ?_
    refine T.leave (.dPure (i := 12) rfl (by kernel_rfl) (fun d _ _ _ _ h => by cases d <;> exact h)) (wantsUndef rfl rfl rfl) rfl ?_
    refine T.leave (.dPure (i := 13) rfl (by kernel_rfl) (fun d _ _ _ _ h => by cases d <;> exact h)) (wantsUndef rfl rfl rfl) rfl ?_
    refine T.leave (.dPure (i := 14) rfl (by kernel_rfl) (fun d _ _ _ _ h => by cases d <;> exact h)) (wantsNot rfl rfl rfl hb5) rfl ?_
    refine T.pickF (.dPure (i := 15) rfl (by kernel_rfl) (fun d _ _ _ _ h => by cases d <;> exact h)) rfl (wants0 rfl) rfl rfl hb5 rfl ?_
    refine T.move (.dPure (i := 16) rfl (by kernel_rfl) (fun d _ _ _ _ h => by cases d <;> exact h)) rfl (wants0 rfl) rfl rfl ?_
    refine T.leave (.dPure (i := 17) rfl (by kernel_rfl) (fun d _ _ _ _ h => by cases d <;> exact h)) (wantsNot rfl rfl rfl rfl) rfl ?_
    refine T.leave (.dPure (i := 18) rfl (by kernel_rfl) (fun d _ _ _ _ h => by cases d <;> exact h)) (wantsNot rfl rfl rfl rfl) rfl ?_
    refine T.leave (.dPure (i := 19) rfl (by kernel_rfl) (fun d _ _ _ _ h => by cases d <;> exact h)) (wantsNot rfl rfl rfl rfl) rfl ?_
    refine T.leave (.dPure (i := 20) rfl (by kernel_rfl) (fun d _ _ _ _ h => by cases d <;> exact h)) (wantsNot rfl rfl rfl rfl) rfl ?_
    refine T.leave (.dPure (i := 21) rfl (by kernel_rfl) (fun d _ _ _ _ h => by cases d <;> exact h)) (wantsNot rfl rfl rfl rfl) rfl ?_
    refine T.leave (.dPure (i := 22) rfl (by kernel_rfl) (fun d _ _ _ _ h => by cases d <;> exact h)) (wantsNot rfl rfl rfl rfl) rfl ?_
    refine T.leave (.dPure (i := 23) rfl (by kernel_rfl) (fun d _ _ _ _ h => by cases d <;> exact h)) (wantsNot rfl rfl rfl rfl) rfl ?_
    refine T.pickF (.dPure (i := 24) rfl (by kernel_rfl) (fun d _ _ _ _ h => by cases d <;> exact h)) rfl (wants0 rfl) rfl rfl rfl rfl ?_
    refine T.move (.dPure (i := 25) rfl (by kernel_rfl) (fun d _ _ _ _ h => by cases d <;> exact h)) rfl (wants0 rfl) rfl rfl ?_
    refine T.leave (.dPure (i := 26) rfl (by kernel_rfl) (fun d _ _ _ _ h => by cases d <;> exact h)) (wantsNot rfl rfl rfl rfl) rfl ?_
    refine T.leave (.dPure (i := 27) rfl (by kernel_rfl) (fun d _ _ _ _ h => by cases d <;> exact h)) (wantsNot rfl rfl rfl rfl) rfl ?_
    refine T.leave (.dPure (i := 28) rfl (by kernel_rfl) (fun d _ _ _ _ h => by cases d <;> exact h)) (wantsNot rfl rfl rfl rfl) rfl ?_
    refine T.leave (.dPure (i := 29) rfl (by kernel_rfl) (fun d _ _ _ _ h => by cases d <;> exact h)) (wantsNot rfl rfl rfl rfl) rfl ?_
    refine T.pickF (.dPure (i := 30) rfl (by kernel_rfl) (fun d _ _ _ _ h => by cases d <;> exact h)) rfl (wants0 rfl) rfl rfl rfl rfl ?_
    refine T.move (.dPure (i := 31) rfl (by kernel_rfl) (fun d _ _ _ _ h => by cases d <;> exact h)) rfl (wants0 rfl) rfl rfl ?_
    refine T.leave (.dPure (i := 32) rfl (by kernel_rfl) (fun d _ _ _ _ h => by cases d <;> exact h)) (wantsNot rfl rfl rfl rfl) rfl ?_
    refine T.leave (.dPure (i := 33) rfl (by kernel_rfl) (fun d _ _ _ _ h => by cases d <;> exact h)) (wantsNot rfl rfl rfl rfl) rfl ?_
    refine T.leave (.dPure (i := 34) rfl (by kernel_rfl) (fun d _ _ _ _ h => by cases d <;> exact h)) (wantsNot rfl rfl rfl rfl) rfl ?_
    refine T.leave (.dPure (i := 35) rfl (by kernel_rfl) (fun d _ _ _ _ h => by cases d <;> exact h)) (wantsNot rfl rfl rfl rfl) rfl ?_
    refine T.leave (.dPure (i := 36) rfl (by kernel_rfl) (fun d _ _ _ _ h => by cases d <;> exact h)) (wantsNot rfl rfl rfl rfl) rfl ?_
    refine T.pickF (.dPure (i := 37) rfl (by kernel_rfl) (fun d _ _ _ _ h => by cases d <;> exact h)) rfl (wants0 rfl) rfl rfl rfl rfl ?_
    refine T.assign (.dPure (i := 38) rfl (by kernel_rfl) (fun d _ _ _ _ h => by cases d <;> exact h)) rfl (wants0 rfl) rfl rfl ?_
    refine T.dDone (by kernel_rfl) ?_
    refine T.then_normal ?_
    exact T.le (EnvLe.cons rfl (EnvLe.cons rfl (EnvLe.cons rfl (EnvLe.cons rfl (EnvLe.cons rfl (EnvLe.cons rfl EnvLe.nil)))))) (T.pick [6, 5, 8, 7, 1, 3, 4, 2, 0] 9 rfl rfl (Nat.le_add_left _ _) rfl (J1 false () hr))
  ·replace hr := inv_negB hb4 hr
   refine T.leave (.dPure (i := 2) rfl (by kernel_rfl) (fun d _ _ _ _ h => by cases d <;> exact h)) (wantsNot rfl rfl rfl hb4) rfl ?_
   refine T.leave (.dPure (i := 3) rfl (by kernel_rfl) (fun d _ _ _ _ h => by cases d <;> exact h)) (wantsNot rfl rfl rfl hb4) rfl ?_
   refine T.leave (.dPure (i := 4) rfl (by kernel_rfl) (fun d _ _ _ _ h => by cases d <;> exact h)) (wantsNot rfl rfl rfl hb4) rfl ?_
   refine T.leave (.dPure (i := 5) rfl (by kernel_rfl) (fun d _ _ _ _ h => by cases d <;> exact h)) (wantsNot rfl rfl rfl hb4) rfl ?_
   refine T.leave (.dPure (i := 6) rfl (by kernel_rfl) (fun d _ _ _ _ h => by cases d <;> exact h)) (wantsNot rfl rfl rfl hb4) rfl ?_
   refine T.pickF (.dPure (i := 7) rfl (by kernel_rfl) (fun d _ _ _ _ h => by cases d <;> exact h)) rfl (wants0 rfl) rfl rfl hb4 rfl ?_
   refine T.move (.dPure (i := 8) rfl (by kernel_rfl) (fun d _ _ _ _ h => by cases d <;> exact h)) rfl (wants0 rfl) rfl rfl ?_
   refine T.leave (.dPure (i := 9) rfl (by kernel_rfl) (fun d _ _ _ _ h => by cases d <;> exact h)) (wantsNot rfl rfl rfl rfl) rfl ?_
   refine T.leave (.dPure (i := 10) rfl (by kernel_rfl) (fun d _ _ _ _ h => by cases d <;> exact h)) (wantsNot rfl rfl rfl rfl) rfl ?_
   refine T.leave (.dPure (i := 11) rfl (by kernel_rfl) (fun d _ _ _ _ h => by cases d <;> exact h)) (wantsNot rfl rfl rfl rfl) rfl ?_
   refine T.leave (.dPure (i := 12) rfl (by kernel_rfl) (fun d _ _ _ _ h => by cases d <;> exact h)) (wantsUndef rfl rfl rfl) rfl ?_
   refine T.leave (.dPure (i := 13) rfl (by kernel_rfl) (fun d _ _ _ _ h => by cases d <;> exact h)) (wantsUndef rfl rfl rfl) rfl ?_
   refine T.leave (.dPure (i := 14) rfl (by kernel_rfl) (fun d _ _ _ _ h => by cases d <;> exact h)) (wantsNot rfl rfl rfl rfl) rfl ?_
   refine T.pickF (.dPure (i := 15) rfl (by kernel_rfl) (fun d _ _ _ _ h => by cases d <;> exact h)) rfl (wants0 rfl) rfl rfl rfl rfl ?_
   refine T.move (.dPure (i := 16) rfl (by kernel_rfl) (fun d _ _ _ _ h => by cases d <;> exact h)) rfl (wants0 rfl) rfl rfl ?_
   refine T.leave (.dPure (i := 17) rfl (by kernel_rfl) (fun d _ _ _ _ h => by cases d <;> exact h)) (wantsNot rfl rfl rfl rfl) rfl ?_
   refine T.leave (.dPure (i := 18) rfl (by kernel_rfl) (fun d _ _ _ _ h => by cases d <;> exact h)) (wantsNot rfl rfl rfl rfl) rfl ?_
   refine T.leave (.dPure (i := 19) rfl (by kernel_rfl) (fun d _ _ _ _ h => by cases d <;> exact h)) (wantsNot rfl rfl rfl rfl) rfl ?_
   refine T.leave (.dPure (i := 20) rfl (by kernel_rfl) (fun d _ _ _ _ h => by cases d <;> exact h)) (wantsNot rfl rfl rfl rfl) rfl ?_
   refine T.leave (.dPure (i := 21) rfl (by kernel_rfl) (fun d _ _ _ _ h => by cases d <;> exact h)) (wantsNot rfl rfl rfl rfl) rfl ?_
   refine T.leave (.dPure (i := 22) rfl (by kernel_rfl) (fun d _ _ _ _ h => by cases d <;> exact h)) (wantsNot rfl rfl rfl rfl) rfl ?_
   refine T.leave (.dPure (i := 23) rfl (by kernel_rfl) (fun d _ _ _ _ h => by cases d <;> exact h)) (wantsNot rfl rfl rfl rfl) rfl ?_
   refine T.pickF (.dPure (i := 24) rfl (by kernel_rfl) (fun d _ _ _ _ h => by cases d <;> exact h)) rfl (wants0 rfl) rfl rfl rfl rfl ?_
   refine T.move (.dPure (i := 25) rfl (by kernel_rfl) (fun d _ _ _ _ h => by cases d <;> exact h)) rfl (wants0 rfl) rfl rfl ?_
   refine T.leave (.dPure (i := 26) rfl (by kernel_rfl) (fun d _ _ _ _ h => by cases d <;> exact h)) (wantsNot rfl rfl rfl rfl) rfl ?_
   refine T.leave (.dPure (i := 27) rfl (by kernel_rfl) (fun d _ _ _ _ h => by cases d <;> exact h)) (wantsNot rfl rfl rfl rfl) rfl ?_
   refine T.leave (.dPure (i := 28) rfl (by kernel_rfl) (fun d _ _ _ _ h => by cases d <;> exact h)) (wantsNot rfl rfl rfl rfl) rfl ?_
   refine T.leave (.dPure (i := 29) rfl (by kernel_rfl) (fun d _ _ _ _ h => by cases d <;> exact h)) (wantsNot rfl rfl rfl rfl) rfl ?_
   refine T.pickF (.dPure (i := 30) rfl (by kernel_rfl) (fun d _ _ _ _ h => by cases d <;> exact h)) rfl (wants0 rfl) rfl rfl rfl rfl ?_
   refine T.move (.dPure (i := 31) rfl (by kernel_rfl) (fun d _ _ _ _ h => by cases d <;> exact h)) rfl (wants0 rfl) rfl rfl ?_
   refine T.leave (.dPure (i := 32) rfl (by kernel_rfl) (fun d _ _ _ _ h => by cases d <;> exact h)) (wantsNot rfl rfl rfl rfl) rfl ?_
   refine T.leave (.dPure (i := 33) rfl (by kernel_rfl) (fun d _ _ _ _ h => by cases d <;> exact h)) (wantsNot rfl rfl rfl rfl) rfl ?_
   refine T.leave (.dPure (i := 34) rfl (by kernel_rfl) (fun d _ _ _ _ h => by cases d <;> exact h)) (wantsNot rfl rfl rfl rfl) rfl ?_
   refine T.leave (.dPure (i := 35) rfl (by kernel_rfl) (fun d _ _ _ _ h => by cases d <;> exact h)) (wantsNot rfl rfl rfl rfl) rfl ?_
   refine T.leave (.dPure (i := 36) rfl (by kernel_rfl) (fun d _ _ _ _ h => by cases d <;> exact h)) (wantsNot rfl rfl rfl rfl) rfl ?_
   refine T.pickF (.dPure (i := 37) rfl (by kernel_rfl) (fun d _ _ _ _ h => by cases d <;> exact h)) rfl (wants0 rfl) rfl rfl rfl rfl ?_
   refine T.assign (.dPure (i := 38) rfl (by kernel_rfl) (fun d _ _ _ _ h => by cases d <;> exact h)) rfl (wants0 rfl) rfl rfl ?_
   refine T.dDone (by kernel_rfl) ?_
   refine T.then_normal ?_
   exact T.le (EnvLe.cons rfl (EnvLe.cons rfl (EnvLe.cons rfl (EnvLe.cons rfl (EnvLe.cons rfl (EnvLe.cons rfl EnvLe.nil)))))) (T.pick [6, 5, 8, 7, 1, 3, 4, 2, 0] 9 rfl rfl (Nat.le_add_left _ _) rfl (J1 false () hr))
end Go.Proofs.YtdfbknkgmhddcaaDoor
