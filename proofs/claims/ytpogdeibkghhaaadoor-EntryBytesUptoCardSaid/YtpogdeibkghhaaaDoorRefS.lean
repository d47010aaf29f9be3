/- RefS: what the functions compute, and that the program computes it; printed by a program of ours. -/
import Derived.Test.YtpogdeibkghhaaaDoorSchema
import Derived.Test.YtpogdeibkghhaaaDoorNam
set_option linter.unusedVariables false
set_option linter.unusedSimpArgs false
namespace Go.Proofs.YtpogdeibkghhaaaDoor
open Go.RowKit
set_option maxRecDepth 100000
set_option maxHeartbeats 4000000
variable {B : World} {hs : List MP} {w : World}
noncomputable def ref14_Name.k2 (s2 : Unit) : Option Bool :=
  some true
noncomputable def ref14_Name.k3 (s3 : Int) (s4 : Bool) : Option (Int ⊕ (Bool ⊕ Unit)) :=
  (if s4 = true then some (.inr (.inl false)) else some (.inl (IntKind.i64.wrap (s3 + 1))))
noncomputable def ref14_Name.st1 (l0 : List UInt8) (s3 : Int) : Option (Int ⊕ (Bool ⊕ Unit)) :=
  (if ((decide (s3 < ((l0.length : Int))))) = true then chk (0 ≤ s3 ∧ s3 < (l0.length : Int)) ((if ((decide (((((l0.getD (s3 : Int).toNat default).toNat : Int))) < 97))) = true then ref14_Name.k3 s3 true else chk (0 ≤ s3 ∧ s3 < (l0.length : Int)) (ref14_Name.k3 s3 (decide ((122 : Int) < (((l0.getD (s3 : Int).toNat default).toNat : Int))))))) else some (.inr (.inr ())))
noncomputable def ref14_Name.k1 (l0 : List UInt8) (s1 : Bool) : Option Bool :=
  (if s1 = true then some false else (loop (ref14_Name.st1 l0) 0).bind (fun e1 => match e1 with | .inl v => some v | .inr v => ref14_Name.k2 v))
noncomputable def ref14_Name.impl (l0 : List UInt8) : Option Bool :=
  (if ((decide ((((l0.length : Int))) < 1))) = true then ref14_Name.k1 l0 true else ref14_Name.k1 l0 (decide ((8 : Int) < ((l0.length : Int)))))
theorem ref14_Name.c {l0 : List UInt8} (hB : Base B) (hS : St B (hs) w) {r : Bool} (hr : ref14_Name.impl l0 = some r) :
    Calls Tryd.prog 76 #[str l0] w fun e w' => ∃ x : Unit, e = .returned (.bool r) ∧ St B (hs) w' := by
 unfold ref14_Name.impl at hr
 refine calls_T Tryd.func76 rfl rfl rfl hS ?_
 refine T.seq ?_
 refine st ?_
 refine T.seq ?_
 refine T.seqJ (fun (s1 : Bool) (x1 : Unit) => [(0, str l0), (11, .bool s1)]) (fun s1 x1 => hs) (fun s1 => ref14_Name.k1 l0 s1 = some r) (fun s1 x1 hk1 => ?_) (fun J1 => ?_)
 ·unfold ref14_Name.k1 at hk1
  refine A.cd hk1 rfl (fun hb1 hk1 => ?_) (fun hb1 hk1 => ?_)
  ·refine sq ?_
   obtain rfl := inv_some hk1
   refine pk [] 0 ?_
   refine T.ret1 rfl rfl (fun w hS => ⟨(), rfl, hS⟩)
  ·refine st ?_
   refine T.seqJ (fun (s2 : Unit) (x2 : Unit) => []) (fun s2 x2 => hs) (fun s2 => ref14_Name.k2 s2 = some r) (fun s2 x2 hk2 => ?_) (fun J2 => ?_)
   ·unfold ref14_Name.k2 at hk2
    refine sq ?_
    obtain rfl := inv_some hk2
    refine pk [] 0 ?_
    refine T.ret1 rfl rfl (fun w hS => ⟨(), rfl, hS⟩)
   ·refine sq ?_
    obtain ⟨e1, hl1, hk1⟩ := inv_bind hk1
    refine jn [] 0 (T.loop (s0 := 0) (env := fun s3 x3 => [(0, str l0), (3, .int .i64 s3)]) (hs := fun (s3 : Int) (x3 : Unit) => hs) hl1 () (fun K1 s3 x3 o1 he1 hm1 hx1 => ?_))
    unfold ref14_Name.st1 at he1
    refine sq ?_
    refine T.lenStr .list rfl (wants0 rfl) rfl (l := l0) rfl ?_
    refine st ?_
    refine A.cd he1 rfl (fun hb2 he1 => ?_) (fun hb2 he1 => ?_)
    ·refine st ?_
     refine T.seq ?_
     refine st ?_
     refine T.seqJ (fun (s4 : Bool) (x4 : Unit) => [(0, str l0), (3, .int .i64 s3), (27, .bool s4)]) (fun s4 x4 => hs) (fun s4 => ref14_Name.k3 s3 s4 = some o1) (fun s4 x4 hk3 => ?_) (fun J3 => ?_)
     ·unfold ref14_Name.k3 at hk3
      refine A.cd hk3 rfl (fun hb3 hk3 => ?_) (fun hb3 hk3 => ?_)
      ·refine sq ?_
       obtain rfl := inv_some hk3
       obtain rfl := hx1 _ rfl
       refine st ?_
       obtain rfl := inv_some hk1
       refine pk [] 0 ?_
       refine T.ret1 rfl rfl (fun w hS => ⟨(), rfl, hS⟩)
      ·refine T.skip ?_
       refine sx ?_
       refine T.region ?_
       refine sx ?_
       obtain rfl := inv_some hk3
       exact jn [] 0 (hm1 (IntKind.i64.wrap (s3 + 1)) rfl ())
     ·refine st ?_
      obtain ⟨hc1, he1⟩ := inv_chk he1
      refine T.byteAt .list rfl (wants0 rfl) rfl (l := l0) rfl rfl hc1.1 hc1.2 ?_
      refine st ?_
      refine br he1 (fun hb4 he1 => ?_) (fun hb4 he1 => ?_)
      ·refine sx ?_
       exact jn [] 0 (J3 true () he1)
      ·refine st ?_
       obtain ⟨hc2, he1⟩ := inv_chk he1
       refine T.byteAt .list rfl (wants1 rfl rfl rfl hb4) rfl (l := l0) rfl rfl hc2.1 hc2.2 ?_
       refine sx ?_
       exact jn [] 0 (J3 (decide ((122 : Int) < (((l0.getD (s3 : Int).toNat default).toNat : Int)))) () he1)
    ·refine T.exit ?_
     refine sx ?_
     obtain rfl := inv_some he1
     obtain rfl := hx1 _ rfl
     refine sx ?_
     exact T.le EnvLe.nil (T.pick [] 0 rfl rfl nla rfl (J2 () () hk1))
 ·refine st ?_
  refine T.lenStr .list rfl (wants0 rfl) rfl (l := l0) rfl ?_
  refine st ?_
  refine br hr (fun hb5 hr => ?_) (fun hb5 hr => ?_)
  ·refine sx ?_
   exact jn [] 0 (J1 true () hr)
  ·refine st ?_
   refine T.lenStr .list rfl (wants1 rfl rfl rfl hb5) rfl (l := l0) rfl ?_
   refine sx ?_
   exact jn [] 0 (J1 (decide ((8 : Int) < ((l0.length : Int)))) () hr)

noncomputable def ref14_Right.k3 (s3 : Unit) : Option Bool :=
  some true
noncomputable def ref14_Right.k4 (s4 : Int) (s5 : Unit) : Option (Int ⊕ (Bool ⊕ Unit)) :=
  some (.inl (IntKind.i64.wrap (s4 + 1)))
noncomputable def ref14_Right.st2 (s4 : Int) (a0 : ty6) (s7 : Int) : Option (Int ⊕ (Bool ⊕ Unit)) :=
  (if ((decide (s7 < s4))) = true then chk (0 ≤ s7 ∧ s7 < (a0.2.2.length : Int)) ((if ((decide ((((((a0.2.2.getD (s7 : Int).toNat default)).1))) = ((((a0.2.2.getD (s4 : Int).toNat default)).1))))) = true then some (.inr (.inl false)) else some (.inl (IntKind.i64.wrap (s7 + 1))))) else some (.inr (.inr ())))
noncomputable def ref14_Right.k5 (s4 : Int) (a0 : ty6) (s6 : Bool) : Option (Int ⊕ (Bool ⊕ Unit)) :=
  (if s6 = true then some (.inr (.inl false)) else (loop (ref14_Right.st2 s4 a0) 0).bind (fun e2 => match e2 with | .inl v => some (.inr (.inl v)) | .inr v => ref14_Right.k4 s4 v))
noncomputable def ref14_Right.st1 (a0 : ty6) (s4 : Int) : Option (Int ⊕ (Bool ⊕ Unit)) :=
  (if ((decide (s4 < ((a0.2.2.length : Int))))) = true then chk (0 ≤ s4 ∧ s4 < (a0.2.2.length : Int)) ((if ((decide ((((((a0.2.2.getD (s4 : Int).toNat default)).1))) < 1))) = true then ref14_Right.k5 s4 a0 true else ref14_Right.k5 s4 a0 (decide ((((a0.2.1.length : Int))) ≤ ((((a0.2.2.getD (s4 : Int).toNat default)).1)))))) else some (.inr (.inr ())))
noncomputable def ref14_Right.k2 (a0 : ty6) (s2 : Unit) : Option Bool :=
  (loop (ref14_Right.st1 a0) 0).bind (fun e1 => match e1 with | .inl v => some v | .inr v => ref14_Right.k3 v)
noncomputable def ref14_Right.k6 (s8 : Int) (s9 : Unit) : Option (Int ⊕ (Bool ⊕ Unit)) :=
  some (.inl (IntKind.i64.wrap (s8 + 1)))
noncomputable def ref14_Right.st4 (s8 : Int) (a0 : ty6) (s11 : Int) : Option (Int ⊕ (Bool ⊕ Unit)) :=
  (if ((decide (s11 < s8))) = true then chk (0 ≤ s11 ∧ s11 < (a0.2.1.length : Int)) ((if ((decide (((((a0.2.1.getD (s11 : Int).toNat default)).1)) = ((((a0.2.1.getD (s8 : Int).toNat default)).1))))) = true then some (.inr (.inl false)) else some (.inl (IntKind.i64.wrap (s11 + 1))))) else some (.inr (.inr ())))
noncomputable def ref14_Right.k7 (s8 : Int) (a0 : ty6) (s10 : Bool) : Option (Int ⊕ (Bool ⊕ Unit)) :=
  (if s10 = true then some (.inr (.inl false)) else (loop (ref14_Right.st4 s8 a0) 0).bind (fun e4 => match e4 with | .inl v => some (.inr (.inl v)) | .inr v => ref14_Right.k6 s8 v))
noncomputable def ref14_Right.st3 (a0 : ty6) (s8 : Int) : Option (Int ⊕ (Bool ⊕ Unit)) :=
  (if ((decide (s8 < ((a0.2.1.length : Int))))) = true then chk (0 ≤ s8 ∧ s8 < (a0.2.1.length : Int)) ((ref14_Name.impl ((((a0.2.1.getD (s8 : Int).toNat default)).1))).bind fun r1 => (if r1 = true then (if ((decide ((((((a0.2.1.getD (s8 : Int).toNat default)).2.1))) < 1))) = true then ref14_Right.k7 s8 a0 true else (if ((decide ((3 : Int) < ((((a0.2.1.getD (s8 : Int).toNat default)).2.1))))) = true then ref14_Right.k7 s8 a0 true else (if ((decide ((((((a0.2.1.getD (s8 : Int).toNat default)).2.1))) = 2))) = true then (if ((decide ((((((a0.2.1.getD (s8 : Int).toNat default)).2.2))) < 1))) = true then ref14_Right.k7 s8 a0 true else (if ((decide ((8 : Int) < ((((a0.2.1.getD (s8 : Int).toNat default)).2.2))))) = true then ref14_Right.k7 s8 a0 true else ref14_Right.k7 s8 a0 false)) else ref14_Right.k7 s8 a0 (!(decide ((((((a0.2.1.getD (s8 : Int).toNat default)).2.2))) = 0)))))) else ref14_Right.k7 s8 a0 true)) else some (.inr (.inr ())))
noncomputable def ref14_Right.k1 (a0 : ty6) (s1 : Bool) : Option Bool :=
  (if s1 = true then some false else (loop (ref14_Right.st3 a0) 0).bind (fun e3 => match e3 with | .inl v => some v | .inr v => ref14_Right.k2 a0 v))
noncomputable def ref14_Right.impl (a0 : ty6) : Option Bool :=
  (ref14_Name.impl a0.1).bind fun r2 => (if r2 = true then (if ((decide ((((a0.2.1.length : Int))) < 1))) = true then ref14_Right.k1 a0 true else (if ((decide ((3 : Int) < ((a0.2.1.length : Int))))) = true then ref14_Right.k1 a0 true else ref14_Right.k1 a0 (decide ((3 : Int) < ((a0.2.2.length : Int)))))) else ref14_Right.k1 a0 true)
theorem ref14_Right.c {a0 : ty6} {i0a c0a : Nat} {A0a : Option Addr} {i0b c0b : Nat} {A0b : Option Addr} (hB : Base B) (hS : St B (hs) w) (h0a : (hs)[i0a]? = some (Ro el9 A0a c0a a0.2.1)) (h0b : (hs)[i0b]? = some (Ro el11 A0b c0b a0.2.2)) {r : Bool} (hr : ref14_Right.impl a0 = some r) :
    Calls Tryd.prog 75 #[.agg #[str a0.1, .slice A0a a0.2.1.length c0a, .slice A0b a0.2.2.length c0b]] w fun e w' => ∃ x : Unit, e = .returned (.bool r) ∧ St B (hs) w' := by
 unfold ref14_Right.impl at hr
 refine calls_T Tryd.func75 rfl rfl rfl hS ?_
 refine T.front i0a h0a ?_
 refine T.front (i0b + 1) h0b ?_
 refine sq ?_
 refine A.bx rfl rfl (fun b1 => ?_)
 refine st ?_
 refine T.seq ?_
 refine T.seqJ (fun (s1 : Bool) (x1 : Unit) => [(1, .pointer (some ⟨b1, 0, none⟩)), (30, .bool s1)]) (fun s1 x1 => Cl b1 62 [str a0.1, .slice A0a a0.2.1.length c0a, .slice A0b a0.2.2.length c0b] :: Ro el9 A0a c0a a0.2.1 :: Ro el11 A0b c0b a0.2.2 :: hs) (fun s1 => ref14_Right.k1 a0 s1 = some r) (fun s1 x1 hk1 => ?_) (fun J1 => ?_)
 ·unfold ref14_Right.k1 at hk1
  refine A.cd hk1 rfl (fun hb1 hk1 => ?_) (fun hb1 hk1 => ?_)
  ·refine sq ?_
   obtain rfl := inv_some hk1
   refine pk [] 3 ?_
   refine T.ret1 rfl rfl (fun w hS => ⟨(), rfl, hS⟩)
  ·refine st ?_
   refine T.seqJ (fun (s2 : Unit) (x2 : Unit) => [(1, .pointer (some ⟨b1, 0, none⟩))]) (fun s2 x2 => Cl b1 62 [str a0.1, .slice A0a a0.2.1.length c0a, .slice A0b a0.2.2.length c0b] :: Ro el9 A0a c0a a0.2.1 :: Ro el11 A0b c0b a0.2.2 :: hs) (fun s2 => ref14_Right.k2 a0 s2 = some r) (fun s2 x2 hk2 => ?_) (fun J2 => ?_)
   ·unfold ref14_Right.k2 at hk2
    refine T.seqJ (fun (s3 : Unit) (x3 : Unit) => []) (fun s3 x3 => hs) (fun s3 => ref14_Right.k3 s3 = some r) (fun s3 x3 hk3 => ?_) (fun J3 => ?_)
    ·unfold ref14_Right.k3 at hk3
     refine sq ?_
     obtain rfl := inv_some hk3
     refine pk [] 0 ?_
     refine T.ret1 rfl rfl (fun w hS => ⟨(), rfl, hS⟩)
    ·refine sq ?_
     obtain ⟨e1, hl1, hk2⟩ := inv_bind hk2
     refine jn [0, 1, 2] 3 (T.loop (s0 := 0) (env := fun s4 x4 => [(1, .pointer (some ⟨b1, 0, none⟩)), (6, .int .i64 s4)]) (hs := fun (s4 : Int) (x4 : Unit) => Cl b1 62 [str a0.1, .slice A0a a0.2.1.length c0a, .slice A0b a0.2.2.length c0b] :: Ro el9 A0a c0a a0.2.1 :: Ro el11 A0b c0b a0.2.2 :: hs) hl1 () (fun K1 s4 x4 o1 he1 hm1 hx1 => ?_))
     unfold ref14_Right.st1 at he1
     refine sq ?_
     refine A.cd he1 rfl (fun hb2 he1 => ?_) (fun hb2 he1 => ?_)
     ·refine st ?_
      refine T.seqJ (fun (s5 : Unit) (x5 : Unit) => [(1, .pointer (some ⟨b1, 0, none⟩)), (6, .int .i64 s4)]) (fun s5 x5 => Cl b1 62 [str a0.1, .slice A0a a0.2.1.length c0a, .slice A0b a0.2.2.length c0b] :: Ro el9 A0a c0a a0.2.1 :: Ro el11 A0b c0b a0.2.2 :: hs) (fun s5 => ref14_Right.k4 s4 s5 = some o1) (fun s5 x5 hk4 => ?_) (fun J4 => ?_)
      ·unfold ref14_Right.k4 at hk4
       refine T.region ?_
       refine sx ?_
       obtain rfl := inv_some hk4
       exact jn [0, 1, 2] 3 (hm1 (IntKind.i64.wrap (s4 + 1)) rfl ())
      ·refine sq ?_
       obtain ⟨hc1, he1⟩ := inv_chk he1
       refine T.idxRo .list 2 rfl rfl (wants0 rfl) rfl rfl rfl hc1.1 hc1.2 (Nat.le_refl _) ?_
       refine T.ldFRo 2 .list Fd.self (Sh.pair Sh.sc Sh.sc) rfl (.inl rfl) rfl rfl hc1.1 hc1.2 rfl (wants0 rfl) rfl rfl rfl (v := fun x6 => .agg #[.int .i64 ((((a0.2.2.getD (s4 : Int).toNat default)).1)), .bool ((((a0.2.2.getD (s4 : Int).toNat default)).2))]) (hs' := fun x6 => Cl b1 62 [str a0.1, .slice A0a a0.2.1.length c0a, .slice A0b a0.2.2.length c0b] :: Ro el9 A0a c0a a0.2.1 :: Ro el11 A0b c0b a0.2.2 :: hs) (fun _ => rfl) (fun _ => rfl) (fun x6 => ?_)
       refine A.al rfl (fun b2 => ?_)
       refine st ?_
       refine T.seq ?_
       refine T.seqJ (fun (s6 : Bool) (x7 : Unit) => [(1, .pointer (some ⟨b1, 0, none⟩)), (6, .int .i64 s4), (7, .pointer (some ⟨b2, 0, none⟩)), (118, .bool s6)]) (fun s6 x7 => Cl b1 62 [str a0.1, .slice A0a a0.2.1.length c0a, .slice A0b a0.2.2.length c0b] :: Ro el9 A0a c0a a0.2.1 :: Ro el11 A0b c0b a0.2.2 :: Cl b2 131 [.int .i64 ((((a0.2.2.getD (s4 : Int).toNat default)).1)), .bool ((((a0.2.2.getD (s4 : Int).toNat default)).2))] :: hs) (fun s6 => ref14_Right.k5 s4 a0 s6 = some o1) (fun s6 x7 hk5 => ?_) (fun J5 => ?_)
       ·unfold ref14_Right.k5 at hk5
        refine A.cd hk5 rfl (fun hb3 hk5 => ?_) (fun hb3 hk5 => ?_)
        ·refine sq ?_
         obtain rfl := inv_some hk5
         obtain rfl := hx1 _ rfl
         refine st ?_
         obtain rfl := inv_some hk2
         refine pk [] 4 ?_
         refine T.ret1 rfl rfl (fun w hS => ⟨(), rfl, hS⟩)
        ·refine sq ?_
         obtain ⟨e2, hl2, hk5⟩ := inv_bind hk5
         refine jn [0, 1, 2, 3] 4 (T.loop (s0 := 0) (env := fun s7 x8 => [(1, .pointer (some ⟨b1, 0, none⟩)), (6, .int .i64 s4), (7, .pointer (some ⟨b2, 0, none⟩)), (8, .int .i64 s7)]) (hs := fun (s7 : Int) (x8 : Unit) => Cl b1 62 [str a0.1, .slice A0a a0.2.1.length c0a, .slice A0b a0.2.2.length c0b] :: Ro el9 A0a c0a a0.2.1 :: Ro el11 A0b c0b a0.2.2 :: Cl b2 131 [.int .i64 ((((a0.2.2.getD (s4 : Int).toNat default)).1)), .bool ((((a0.2.2.getD (s4 : Int).toNat default)).2))] :: hs) hl2 () (fun K2 s7 x8 o2 he2 hm2 hx2 => ?_))
         unfold ref14_Right.st2 at he2
         refine sq ?_
         refine A.cd he2 rfl (fun hb4 he2 => ?_) (fun hb4 he2 => ?_)
         ·refine sq ?_
          refine T.plan [(0, 0), (2, 0), (6, 0), (1, 1), (3, 0), (4, 0), (5, 1), (7, 1), (8, 0)] mixed (by kernel_rfl) (by kernel_rfl) rfl (fun d _ _ _ _ h => by cases d <;> exact h) ?_
          refine T.field (.plan rfl) rfl (wants0 rfl) rfl rfl ?_
          refine T.move (.plan rfl) rfl (wants0 rfl) rfl rfl ?_
          refine T.field (.plan rfl) rfl (wants0 rfl) rfl rfl ?_
          refine T.load (.plan rfl) 0 rfl rfl (wants0 rfl) rfl rfl rfl ?_
          obtain ⟨hc2, he2⟩ := inv_chk he2
          refine T.idxRo (.plan rfl) 2 rfl rfl (wants0 rfl) rfl rfl rfl hc2.1 hc2.2 (Nat.le_refl _) ?_
          refine T.fieldRo (.plan rfl) 2 rfl hc2.1 hc2.2 rfl (wants0 rfl) rfl rfl ?_
          refine T.fldRo 2 (.plan rfl) (Fd.fst Fd.self) rfl rfl hc2.1 hc2.2 rfl (wants0 rfl) rfl rfl rfl ?_
          refine T.load (.plan rfl) 3 rfl rfl (wants0 rfl) rfl rfl rfl ?_
          refine T.bin (.plan rfl) rfl (wants0 rfl) rfl rfl rfl rfl ?_
          refine T.planEnd ?_
          refine st ?_
          refine A.cd he2 rfl (fun hb5 he2 => ?_) (fun hb5 he2 => ?_)
          ·refine sq ?_
           obtain rfl := inv_some he2
           obtain rfl := hx2 _ rfl
           refine st ?_
           obtain rfl := inv_some hk5
           obtain rfl := hx1 _ rfl
           refine st ?_
           obtain rfl := inv_some hk2
           refine pk [] 4 ?_
           refine T.ret1 rfl rfl (fun w hS => ⟨(), rfl, hS⟩)
          ·refine T.skip ?_
           refine sx ?_
           refine T.region ?_
           refine sx ?_
           obtain rfl := inv_some he2
           exact jn [0, 1, 2, 3] 4 (hm2 (IntKind.i64.wrap (s7 + 1)) rfl ())
         ·refine T.exit ?_
          refine sx ?_
          obtain rfl := inv_some he2
          obtain rfl := hx2 _ rfl
          refine sx ?_
          exact jn [0, 1, 2] 4 (J4 () () hk5)
       ·refine st ?_
        refine br he1 (fun hb6 he1 => ?_) (fun hb6 he1 => ?_)
        ·refine sx ?_
         exact jn [1, 2, 3, 0] 4 (J5 true () he1)
        ·refine sx ?_
         exact jn [1, 2, 3, 0] 4 (J5 (decide ((((a0.2.1.length : Int))) ≤ ((((a0.2.2.getD (s4 : Int).toNat default)).1)))) () he1)
     ·refine T.exit ?_
      refine sx ?_
      obtain rfl := inv_some he1
      obtain rfl := hx1 _ rfl
      refine sx ?_
      exact T.le EnvLe.nil (T.pick [] 3 rfl rfl nla rfl (J3 () () hk2))
   ·refine sq ?_
    obtain ⟨e3, hl3, hk1⟩ := inv_bind hk1
    refine jn [0, 1, 2] 3 (T.loop (s0 := 0) (env := fun s8 x9 => [(1, .pointer (some ⟨b1, 0, none⟩)), (3, .int .i64 s8)]) (hs := fun (s8 : Int) (x9 : Unit) => Cl b1 62 [str a0.1, .slice A0a a0.2.1.length c0a, .slice A0b a0.2.2.length c0b] :: Ro el9 A0a c0a a0.2.1 :: Ro el11 A0b c0b a0.2.2 :: hs) hl3 () (fun K3 s8 x9 o3 he3 hm3 hx3 => ?_))
    unfold ref14_Right.st3 at he3
    refine sq ?_
    refine A.cd he3 rfl (fun hb7 he3 => ?_) (fun hb7 he3 => ?_)
    ·refine st ?_
     refine T.seqJ (fun (s9 : Unit) (x10 : Unit) => [(1, .pointer (some ⟨b1, 0, none⟩)), (3, .int .i64 s8)]) (fun s9 x10 => Cl b1 62 [str a0.1, .slice A0a a0.2.1.length c0a, .slice A0b a0.2.2.length c0b] :: Ro el9 A0a c0a a0.2.1 :: Ro el11 A0b c0b a0.2.2 :: hs) (fun s9 => ref14_Right.k6 s8 s9 = some o3) (fun s9 x10 hk6 => ?_) (fun J6 => ?_)
     ·unfold ref14_Right.k6 at hk6
      refine T.region ?_
      refine sx ?_
      obtain rfl := inv_some hk6
      exact jn [0, 1, 2] 3 (hm3 (IntKind.i64.wrap (s8 + 1)) rfl ())
     ·refine sq ?_
      obtain ⟨hc3, he3⟩ := inv_chk he3
      refine T.idxRo .list 1 rfl rfl (wants0 rfl) rfl rfl rfl hc3.1 hc3.2 (Nat.le_refl _) ?_
      refine T.ldFRo 1 .list Fd.self (Sh.pair Sh.sc (Sh.pair Sh.sc Sh.sc)) rfl (.inl rfl) rfl rfl hc3.1 hc3.2 rfl (wants0 rfl) rfl rfl rfl (v := fun x11 => .agg #[str ((((a0.2.1.getD (s8 : Int).toNat default)).1)), .int .i64 ((((a0.2.1.getD (s8 : Int).toNat default)).2.1)), .int .i64 ((((a0.2.1.getD (s8 : Int).toNat default)).2.2))]) (hs' := fun x11 => Cl b1 62 [str a0.1, .slice A0a a0.2.1.length c0a, .slice A0b a0.2.2.length c0b] :: Ro el9 A0a c0a a0.2.1 :: Ro el11 A0b c0b a0.2.2 :: hs) (fun _ => rfl) (fun _ => rfl) (fun x11 => ?_)
      refine A.al rfl (fun b3 => ?_)
      refine st ?_
      refine T.seq ?_
      refine T.seqJ (fun (s10 : Bool) (x12 : Unit) => [(1, .pointer (some ⟨b1, 0, none⟩)), (3, .int .i64 s8), (4, .pointer (some ⟨b3, 0, none⟩)), (81, .bool s10)]) (fun s10 x12 => Cl b1 62 [str a0.1, .slice A0a a0.2.1.length c0a, .slice A0b a0.2.2.length c0b] :: Ro el9 A0a c0a a0.2.1 :: Ro el11 A0b c0b a0.2.2 :: Cl b3 129 [str ((((a0.2.1.getD (s8 : Int).toNat default)).1)), .int .i64 ((((a0.2.1.getD (s8 : Int).toNat default)).2.1)), .int .i64 ((((a0.2.1.getD (s8 : Int).toNat default)).2.2))] :: hs) (fun s10 => ref14_Right.k7 s8 a0 s10 = some o3) (fun s10 x12 hk7 => ?_) (fun J7 => ?_)
      ·unfold ref14_Right.k7 at hk7
       refine A.cd hk7 rfl (fun hb8 hk7 => ?_) (fun hb8 hk7 => ?_)
       ·refine sq ?_
        obtain rfl := inv_some hk7
        obtain rfl := hx3 _ rfl
        refine st ?_
        obtain rfl := inv_some hk1
        refine pk [] 4 ?_
        refine T.ret1 rfl rfl (fun w hS => ⟨(), rfl, hS⟩)
       ·refine sq ?_
        obtain ⟨e4, hl4, hk7⟩ := inv_bind hk7
        refine jn [0, 1, 2, 3] 4 (T.loop (s0 := 0) (env := fun s11 x13 => [(1, .pointer (some ⟨b1, 0, none⟩)), (3, .int .i64 s8), (4, .pointer (some ⟨b3, 0, none⟩)), (5, .int .i64 s11)]) (hs := fun (s11 : Int) (x13 : Unit) => Cl b1 62 [str a0.1, .slice A0a a0.2.1.length c0a, .slice A0b a0.2.2.length c0b] :: Ro el9 A0a c0a a0.2.1 :: Ro el11 A0b c0b a0.2.2 :: Cl b3 129 [str ((((a0.2.1.getD (s8 : Int).toNat default)).1)), .int .i64 ((((a0.2.1.getD (s8 : Int).toNat default)).2.1)), .int .i64 ((((a0.2.1.getD (s8 : Int).toNat default)).2.2))] :: hs) hl4 () (fun K4 s11 x13 o4 he4 hm4 hx4 => ?_))
        unfold ref14_Right.st4 at he4
        refine sq ?_
        refine A.cd he4 rfl (fun hb9 he4 => ?_) (fun hb9 he4 => ?_)
        ·refine sq ?_
         refine T.plan [(0, 0), (2, 0), (6, 0), (1, 1), (3, 0), (4, 0), (5, 1), (7, 1), (8, 0)] mixed (by kernel_rfl) (by kernel_rfl) rfl (fun d _ _ _ _ h => by cases d <;> exact h) ?_
         refine T.field (.plan rfl) rfl (wants0 rfl) rfl rfl ?_
         refine T.move (.plan rfl) rfl (wants0 rfl) rfl rfl ?_
         refine T.field (.plan rfl) rfl (wants0 rfl) rfl rfl ?_
         refine T.load (.plan rfl) 0 rfl rfl (wants0 rfl) rfl rfl rfl ?_
         obtain ⟨hc4, he4⟩ := inv_chk he4
         refine T.idxRo (.plan rfl) 1 rfl rfl (wants0 rfl) rfl rfl rfl hc4.1 hc4.2 (Nat.le_refl _) ?_
         refine T.fieldRo (.plan rfl) 1 rfl hc4.1 hc4.2 rfl (wants0 rfl) rfl rfl ?_
         refine T.fldRo 1 (.plan rfl) (Fd.fst Fd.self) rfl rfl hc4.1 hc4.2 rfl (wants0 rfl) rfl rfl rfl ?_
         refine T.load (.plan rfl) 3 rfl rfl (wants0 rfl) rfl rfl rfl ?_
         refine T.strEq (.plan rfl) rfl (wants0 rfl) rfl (l := ((((a0.2.1.getD (s11 : Int).toNat default)).1))) (l' := ((((a0.2.1.getD (s8 : Int).toNat default)).1))) rfl rfl ?_
         refine T.planEnd ?_
         refine st ?_
         refine A.cd he4 rfl (fun hb10 he4 => ?_) (fun hb10 he4 => ?_)
         ·refine sq ?_
          obtain rfl := inv_some he4
          obtain rfl := hx4 _ rfl
          refine st ?_
          obtain rfl := inv_some hk7
          obtain rfl := hx3 _ rfl
          refine st ?_
          obtain rfl := inv_some hk1
          refine pk [] 4 ?_
          refine T.ret1 rfl rfl (fun w hS => ⟨(), rfl, hS⟩)
         ·refine T.skip ?_
          refine sx ?_
          refine T.region ?_
          refine sx ?_
          obtain rfl := inv_some he4
          exact jn [0, 1, 2, 3] 4 (hm4 (IntKind.i64.wrap (s11 + 1)) rfl ())
        ·refine T.exit ?_
         refine sx ?_
         obtain rfl := inv_some he4
         obtain rfl := hx4 _ rfl
         refine sx ?_
         exact jn [0, 1, 2] 4 (J6 () () hk7)
      ·refine st ?_
       obtain ⟨r1, hg1, he3⟩ := inv_bind he3
       refine A.c1 rfl rfl Tryd.func76 rfl (fun w hS => ref14_Name.c hB hS  hg1) (fun x14 => ?_)
       refine T.not .list rfl (wants0 rfl) rfl rfl ?_
       refine st ?_
       refine br he3 (fun hb11 he3 => ?_) (fun hb11 he3 => ?_)
       ·refine st ?_
        refine br he3 (fun hb12 he3 => ?_) (fun hb12 he3 => ?_)
        ·refine sx ?_
         exact jn [1, 2, 3, 0] 4 (J7 true () he3)
        ·refine st ?_
         refine br he3 (fun hb13 he3 => ?_) (fun hb13 he3 => ?_)
         ·refine sx ?_
          exact jn [1, 2, 3, 0] 4 (J7 true () he3)
         ·refine st ?_
          refine br he3 (fun hb14 he3 => ?_) (fun hb14 he3 => ?_)
          ·refine st ?_
           refine br he3 (fun hb15 he3 => ?_) (fun hb15 he3 => ?_)
           ·refine sx ?_
            exact jn [1, 2, 3, 0] 4 (J7 true () he3)
           ·refine st ?_
            refine br he3 (fun hb16 he3 => ?_) (fun hb16 he3 => ?_)
            ·refine sx ?_
             exact jn [1, 2, 3, 0] 4 (J7 true () he3)
            ·refine sx ?_
             exact jn [1, 2, 3, 0] 4 (J7 false () he3)
          ·refine sx ?_
           exact jn [1, 2, 3, 0] 4 (J7 (!(decide ((((((a0.2.1.getD (s8 : Int).toNat default)).2.2))) = 0))) () he3)
       ·refine sx ?_
        exact jn [1, 2, 3, 0] 4 (J7 true () he3)
    ·refine T.exit ?_
     refine sx ?_
     obtain rfl := inv_some he3
     obtain rfl := hx3 _ rfl
     refine sx ?_
     exact jn [0, 1, 2] 3 (J2 () () hk1)
 ·refine st ?_
  obtain ⟨r2, hg2, hr⟩ := inv_bind hr
  refine A.c1 rfl rfl Tryd.func76 rfl (fun w hS => ref14_Name.c hB hS  hg2) (fun x15 => ?_)
  refine T.not .list rfl (wants0 rfl) rfl rfl ?_
  refine st ?_
  refine br hr (fun hb17 hr => ?_) (fun hb17 hr => ?_)
  ·refine st ?_
   refine br hr (fun hb18 hr => ?_) (fun hb18 hr => ?_)
   ·refine sx ?_
    exact jn [0, 2, 1] 3 (J1 true () hr)
   ·refine st ?_
    refine br hr (fun hb19 hr => ?_) (fun hb19 hr => ?_)
    ·refine sx ?_
     exact jn [0, 2, 1] 3 (J1 true () hr)
    ·refine sx ?_
     exact jn [0, 2, 1] 3 (J1 (decide ((3 : Int) < ((a0.2.2.length : Int)))) () hr)
  ·refine sx ?_
   exact jn [0, 2, 1] 3 (J1 true () hr)

noncomputable def ref14_Small.impl (a0 : ty4) : Option Bool :=
  (ref2_Right.impl a0).bind fun r1 => (if ((decide (r1 = 0))) = true then (if ((decide (a0.1 = 2))) = true then (ref2_Runes.impl a0.2.2).bind fun r2 => some (decide (r2 ≤ 8)) else some true) else some false)
theorem ref14_Small.c {a0 : ty4} (hB : Base B) (hS : St B (hs) w) {r : Bool} (hr : ref14_Small.impl a0 = some r) :
    Calls Tryd.prog 44 #[.agg #[.int .i64 a0.1, .int .i64 a0.2.1, str a0.2.2]] w fun e w' => ∃ x : Unit, e = .returned (.bool r) ∧ St B (hs) w' := by
 unfold ref14_Small.impl at hr
 refine calls_T Tryd.func44 rfl rfl rfl hS ?_
 refine sq ?_
 refine A.bx rfl rfl (fun b1 => ?_)
 refine sq ?_
 obtain ⟨r1, hg1, hr⟩ := inv_bind hr
 refine A.c1 rfl rfl Tryd.func65 rfl (fun w hS => ref2_Right.c hB hS (a0 := a0)  hg1) (fun x1 => ?_)
 refine st ?_
 refine br hr (fun hb1 hr => ?_) (fun hb1 hr => ?_)
 ·refine st ?_
  refine br hr (fun hb2 hr => ?_) (fun hb2 hr => ?_)
  ·refine st ?_
   obtain ⟨r2, hg2, hr⟩ := inv_bind hr
   refine A.c1g rfl rfl (not_t hb2) rfl rfl Tryd.func66 rfl (fun w hS => ref2_Runes.c hB hS  hg2) (fun x2 => ?_)
   refine st ?_
   obtain rfl := inv_some hr
   refine pk [] 1 ?_
   refine T.ret1 rfl rfl (fun w hS => ⟨(), rfl, hS⟩)
  ·refine st ?_
   obtain rfl := inv_some hr
   refine pk [] 1 ?_
   refine T.ret1 rfl rfl (fun w hS => ⟨(), rfl, hS⟩)
 ·refine st ?_
  obtain rfl := inv_some hr
  refine pk [] 1 ?_
  refine T.ret1 rfl rfl (fun w hS => ⟨(), rfl, hS⟩)

noncomputable def ref14_RowRight.k1 (s1 : Unit) : Option Int :=
  some 0
noncomputable def ref14_RowRight.st1 (l0 : List ty4) (s2 : Int) : Option (Int ⊕ (Int ⊕ Unit)) :=
  (if ((decide (s2 < ((l0.length : Int))))) = true then chk (0 ≤ s2 ∧ s2 < (l0.length : Int)) ((ref14_Small.impl ((l0.getD (s2 : Int).toNat default))).bind fun r1 => (if ((!r1)) = true then some (.inr (.inl 62)) else some (.inl (IntKind.i64.wrap (s2 + 1))))) else some (.inr (.inr ())))
noncomputable def ref14_RowRight.impl (l0 : List ty4) : Option Int :=
  (if ((decide ((3 : Int) < ((l0.length : Int))))) = true then some 2 else (loop (ref14_RowRight.st1 l0) 0).bind (fun e1 => match e1 with | .inl v => some v | .inr v => ref14_RowRight.k1 v))
theorem ref14_RowRight.c {i0 c0 : Nat} {A0 : Option Addr} {l0 : List ty4} (hB : Base B) (hS : St B (hs) w) (h0 : (hs)[i0]? = some (Ro el2 A0 c0 l0)) {r : Int} (hr : ref14_RowRight.impl l0 = some r) :
    Calls Tryd.prog 21 #[.slice A0 l0.length c0] w fun e w' => ∃ x : Unit, e = .returned (.int .i64 r) ∧ St B (hs) w' := by
 unfold ref14_RowRight.impl at hr
 refine calls_T Tryd.func21 rfl rfl rfl hS ?_
 refine T.front i0 h0 ?_
 refine sq ?_
 refine A.cd hr rfl (fun hb1 hr => ?_) (fun hb1 hr => ?_)
 ·refine sq ?_
  obtain rfl := inv_some hr
  refine pk [] 1 ?_
  refine T.ret1 rfl rfl (fun w hS => ⟨(), rfl, hS⟩)
 ·refine st ?_
  refine T.seqJ (fun (s1 : Unit) (x1 : Unit) => []) (fun s1 x1 => hs) (fun s1 => ref14_RowRight.k1 s1 = some r) (fun s1 x1 hk1 => ?_) (fun J1 => ?_)
  ·unfold ref14_RowRight.k1 at hk1
   refine sq ?_
   obtain rfl := inv_some hk1
   refine pk [] 0 ?_
   refine T.ret1 rfl rfl (fun w hS => ⟨(), rfl, hS⟩)
  ·refine sq ?_
   obtain ⟨e1, hl1, hr⟩ := inv_bind hr
   refine jn [0] 1 (T.loop (s0 := 0) (env := fun s2 x2 => [(0, .slice A0 l0.length c0), (3, .int .i64 s2)]) (hs := fun (s2 : Int) (x2 : Unit) => Ro el2 A0 c0 l0 :: hs) hl1 () (fun K1 s2 x2 o1 he1 hm1 hx1 => ?_))
   unfold ref14_RowRight.st1 at he1
   refine sq ?_
   refine A.cd he1 rfl (fun hb2 he1 => ?_) (fun hb2 he1 => ?_)
   ·refine sq ?_
    obtain ⟨hc1, he1⟩ := inv_chk he1
    refine T.idxRo .list 0 rfl rfl (wants0 rfl) rfl rfl rfl hc1.1 hc1.2 (Nat.le_refl _) ?_
    refine T.ldFRo 0 .list Fd.self (Sh.pair Sh.sc (Sh.pair Sh.sc Sh.sc)) rfl (.inl rfl) rfl rfl hc1.1 hc1.2 rfl (wants0 rfl) rfl rfl rfl (v := fun x3 => .agg #[.int .i64 ((((l0.getD (s2 : Int).toNat default)).1)), .int .i64 ((((l0.getD (s2 : Int).toNat default)).2.1)), str ((((l0.getD (s2 : Int).toNat default)).2.2))]) (hs' := fun x3 => Ro el2 A0 c0 l0 :: hs) (fun _ => rfl) (fun _ => rfl) (fun x3 => ?_)
    obtain ⟨r1, hg1, he1⟩ := inv_bind he1
    refine A.c1 rfl rfl Tryd.func44 rfl (fun w hS => ref14_Small.c hB hS (a0 := (l0.getD (s2 : Int).toNat default))  hg1) (fun x4 => ?_)
    refine T.not .list rfl (wants0 rfl) rfl rfl ?_
    refine st ?_
    refine A.cd he1 rfl (fun hb3 he1 => ?_) (fun hb3 he1 => ?_)
    ·refine sq ?_
     obtain rfl := inv_some he1
     obtain rfl := hx1 _ rfl
     refine st ?_
     obtain rfl := inv_some hr
     refine pk [] 1 ?_
     refine T.ret1 rfl rfl (fun w hS => ⟨(), rfl, hS⟩)
    ·refine T.skip ?_
     refine sx ?_
     refine T.region ?_
     refine sx ?_
     obtain rfl := inv_some he1
     exact jn [0] 1 (hm1 (IntKind.i64.wrap (s2 + 1)) rfl ())
   ·refine T.exit ?_
    refine sx ?_
    obtain rfl := inv_some he1
    obtain rfl := hx1 _ rfl
    refine sx ?_
    exact T.le EnvLe.nil (T.pick [] 1 rfl rfl nla rfl (J1 () () hr))

noncomputable def ref14_Same.k3 (s3 : Unit) : Option Bool :=
  some true
noncomputable def ref14_Same.st1 (a0 : ty6) (a1 : ty6) (s4 : Int) : Option (Int ⊕ (Bool ⊕ Unit)) :=
  (if ((decide (s4 < ((a0.2.2.length : Int))))) = true then chk (0 ≤ s4 ∧ s4 < (a0.2.2.length : Int)) (chk (0 ≤ s4 ∧ s4 < (a1.2.2.length : Int)) ((if ((!(decide ((a0.2.2.getD (s4 : Int).toNat default) = (a1.2.2.getD (s4 : Int).toNat default))))) = true then some (.inr (.inl false)) else some (.inl (IntKind.i64.wrap (s4 + 1)))))) else some (.inr (.inr ())))
noncomputable def ref14_Same.k2 (a0 : ty6) (a1 : ty6) (s2 : Unit) : Option Bool :=
  (loop (ref14_Same.st1 a0 a1) 0).bind (fun e1 => match e1 with | .inl v => some v | .inr v => ref14_Same.k3 v)
noncomputable def ref14_Same.st2 (a0 : ty6) (a1 : ty6) (s5 : Int) : Option (Int ⊕ (Bool ⊕ Unit)) :=
  (if ((decide (s5 < ((a0.2.1.length : Int))))) = true then chk (0 ≤ s5 ∧ s5 < (a0.2.1.length : Int)) (chk (0 ≤ s5 ∧ s5 < (a1.2.1.length : Int)) ((if ((!(decide ((a0.2.1.getD (s5 : Int).toNat default) = (a1.2.1.getD (s5 : Int).toNat default))))) = true then some (.inr (.inl false)) else some (.inl (IntKind.i64.wrap (s5 + 1)))))) else some (.inr (.inr ())))
noncomputable def ref14_Same.k1 (a0 : ty6) (a1 : ty6) (s1 : Bool) : Option Bool :=
  (if s1 = true then some false else (loop (ref14_Same.st2 a0 a1) 0).bind (fun e2 => match e2 with | .inl v => some v | .inr v => ref14_Same.k2 a0 a1 v))
noncomputable def ref14_Same.impl (a0 : ty6) (a1 : ty6) : Option Bool :=
  (if ((decide (a0.1 = a1.1))) = true then (if ((decide ((((a0.2.1.length : Int))) = ((a1.2.1.length : Int))))) = true then ref14_Same.k1 a0 a1 (!(decide ((((a0.2.2.length : Int))) = ((a1.2.2.length : Int))))) else ref14_Same.k1 a0 a1 true) else ref14_Same.k1 a0 a1 true)
theorem ref14_Same.c {a0 : ty6} {i0a c0a : Nat} {A0a : Option Addr} {i0b c0b : Nat} {A0b : Option Addr} {a1 : ty6} {i1a c1a : Nat} {A1a : Option Addr} {i1b c1b : Nat} {A1b : Option Addr} (hB : Base B) (hS : St B (hs) w) (h0a : (hs)[i0a]? = some (Ro el9 A0a c0a a0.2.1)) (h0b : (hs)[i0b]? = some (Ro el11 A0b c0b a0.2.2)) (h1a : (hs)[i1a]? = some (Ro el9 A1a c1a a1.2.1)) (h1b : (hs)[i1b]? = some (Ro el11 A1b c1b a1.2.2)) {r : Bool} (hr : ref14_Same.impl a0 a1 = some r) :
    Calls Tryd.prog 59 #[.agg #[str a0.1, .slice A0a a0.2.1.length c0a, .slice A0b a0.2.2.length c0b], .agg #[str a1.1, .slice A1a a1.2.1.length c1a, .slice A1b a1.2.2.length c1b]] w fun e w' => ∃ x : Unit, e = .returned (.bool r) ∧ St B (hs) w' := by
 unfold ref14_Same.impl at hr
 refine calls_T Tryd.func59 rfl rfl rfl hS ?_
 refine T.front i0a h0a ?_
 refine T.front (i0b + 1) h0b ?_
 refine T.front (i1a + 2) h1a ?_
 refine T.front (i1b + 3) h1b ?_
 refine sq ?_
 refine A.bx rfl rfl (fun b1 => ?_)
 refine A.bx rfl rfl (fun b2 => ?_)
 refine st ?_
 refine T.seq ?_
 refine T.seqJ (fun (s1 : Bool) (x1 : Unit) => [(2, .pointer (some ⟨b1, 0, none⟩)), (3, .pointer (some ⟨b2, 0, none⟩)), (29, .bool s1)]) (fun s1 x1 => Cl b1 62 [str a0.1, .slice A0a a0.2.1.length c0a, .slice A0b a0.2.2.length c0b] :: Ro el9 A0a c0a a0.2.1 :: Ro el11 A0b c0b a0.2.2 :: Cl b2 62 [str a1.1, .slice A1a a1.2.1.length c1a, .slice A1b a1.2.2.length c1b] :: Ro el9 A1a c1a a1.2.1 :: Ro el11 A1b c1b a1.2.2 :: hs) (fun s1 => ref14_Same.k1 a0 a1 s1 = some r) (fun s1 x1 hk1 => ?_) (fun J1 => ?_)
 ·unfold ref14_Same.k1 at hk1
  refine A.cd hk1 rfl (fun hb1 hk1 => ?_) (fun hb1 hk1 => ?_)
  ·refine sq ?_
   obtain rfl := inv_some hk1
   refine pk [] 6 ?_
   refine T.ret1 rfl rfl (fun w hS => ⟨(), rfl, hS⟩)
  ·refine st ?_
   refine T.seqJ (fun (s2 : Unit) (x2 : Unit) => [(2, .pointer (some ⟨b1, 0, none⟩)), (3, .pointer (some ⟨b2, 0, none⟩))]) (fun s2 x2 => Cl b1 62 [str a0.1, .slice A0a a0.2.1.length c0a, .slice A0b a0.2.2.length c0b] :: Ro el9 A0a c0a a0.2.1 :: Ro el11 A0b c0b a0.2.2 :: Cl b2 62 [str a1.1, .slice A1a a1.2.1.length c1a, .slice A1b a1.2.2.length c1b] :: Ro el9 A1a c1a a1.2.1 :: Ro el11 A1b c1b a1.2.2 :: hs) (fun s2 => ref14_Same.k2 a0 a1 s2 = some r) (fun s2 x2 hk2 => ?_) (fun J2 => ?_)
   ·unfold ref14_Same.k2 at hk2
    refine T.seqJ (fun (s3 : Unit) (x3 : Unit) => []) (fun s3 x3 => hs) (fun s3 => ref14_Same.k3 s3 = some r) (fun s3 x3 hk3 => ?_) (fun J3 => ?_)
    ·unfold ref14_Same.k3 at hk3
     refine sq ?_
     obtain rfl := inv_some hk3
     refine pk [] 0 ?_
     refine T.ret1 rfl rfl (fun w hS => ⟨(), rfl, hS⟩)
    ·refine sq ?_
     obtain ⟨e1, hl1, hk2⟩ := inv_bind hk2
     refine jn [0, 1, 2, 3, 4, 5] 6 (T.loop (s0 := 0) (env := fun s4 x4 => [(2, .pointer (some ⟨b1, 0, none⟩)), (3, .pointer (some ⟨b2, 0, none⟩)), (6, .int .i64 s4)]) (hs := fun (s4 : Int) (x4 : Unit) => Cl b1 62 [str a0.1, .slice A0a a0.2.1.length c0a, .slice A0b a0.2.2.length c0b] :: Ro el9 A0a c0a a0.2.1 :: Ro el11 A0b c0b a0.2.2 :: Cl b2 62 [str a1.1, .slice A1a a1.2.1.length c1a, .slice A1b a1.2.2.length c1b] :: Ro el9 A1a c1a a1.2.1 :: Ro el11 A1b c1b a1.2.2 :: hs) hl1 () (fun K1 s4 x4 o1 he1 hm1 hx1 => ?_))
     unfold ref14_Same.st1 at he1
     refine sq ?_
     refine A.cd he1 rfl (fun hb2 he1 => ?_) (fun hb2 he1 => ?_)
     ·refine sq ?_
      refine T.plan [(0, 0), (2, 0), (5, 0), (7, 0), (1, 1), (3, 0), (4, 1), (6, 1), (8, 0), (9, 1), (10, 0)] mixed (by kernel_rfl) (by kernel_rfl) rfl (fun d _ _ _ _ h => by cases d <;> exact h) ?_
      refine T.field (.plan rfl) rfl (wants0 rfl) rfl rfl ?_
      refine T.move (.plan rfl) rfl (wants0 rfl) rfl rfl ?_
      refine T.field (.plan rfl) rfl (wants0 rfl) rfl rfl ?_
      refine T.move (.plan rfl) rfl (wants0 rfl) rfl rfl ?_
      refine T.load (.plan rfl) 0 rfl rfl (wants0 rfl) rfl rfl rfl ?_
      obtain ⟨hc1, he1⟩ := inv_chk he1
      refine T.idxRo (.plan rfl) 2 rfl rfl (wants0 rfl) rfl rfl rfl hc1.1 hc1.2 (Nat.le_refl _) ?_
      refine T.ldFRo 2 (.plan rfl) Fd.self (Sh.pair Sh.sc Sh.sc) rfl (.inl rfl) rfl rfl hc1.1 hc1.2 rfl (wants0 rfl) rfl rfl rfl (v := fun x5 => .agg #[.int .i64 ((((a0.2.2.getD (s4 : Int).toNat default)).1)), .bool ((((a0.2.2.getD (s4 : Int).toNat default)).2))]) (hs' := fun x5 => Cl b1 62 [str a0.1, .slice A0a a0.2.1.length c0a, .slice A0b a0.2.2.length c0b] :: Ro el9 A0a c0a a0.2.1 :: Ro el11 A0b c0b a0.2.2 :: Cl b2 62 [str a1.1, .slice A1a a1.2.1.length c1a, .slice A1b a1.2.2.length c1b] :: Ro el9 A1a c1a a1.2.1 :: Ro el11 A1b c1b a1.2.2 :: hs) (fun _ => rfl) (fun _ => rfl) (fun x5 => ?_)
      refine T.load (.plan rfl) 3 rfl rfl (wants0 rfl) rfl rfl rfl ?_
      obtain ⟨hc2, he1⟩ := inv_chk he1
      refine T.idxRo (.plan rfl) 5 rfl rfl (wants0 rfl) rfl rfl rfl hc2.1 hc2.2 (Nat.le_refl _) ?_
      refine T.ldFRo 5 (.plan rfl) Fd.self (Sh.pair Sh.sc Sh.sc) rfl (.inl rfl) rfl rfl hc2.1 hc2.2 rfl (wants0 rfl) rfl rfl rfl (v := fun x6 => .agg #[.int .i64 ((((a1.2.2.getD (s4 : Int).toNat default)).1)), .bool ((((a1.2.2.getD (s4 : Int).toNat default)).2))]) (hs' := fun x6 => Cl b1 62 [str a0.1, .slice A0a a0.2.1.length c0a, .slice A0b a0.2.2.length c0b] :: Ro el9 A0a c0a a0.2.1 :: Ro el11 A0b c0b a0.2.2 :: Cl b2 62 [str a1.1, .slice A1a a1.2.1.length c1a, .slice A1b a1.2.2.length c1b] :: Ro el9 A1a c1a a1.2.1 :: Ro el11 A1b c1b a1.2.2 :: hs) (fun _ => rfl) (fun _ => rfl) (fun x6 => ?_)
      refine T.neS (.plan rfl) rfl (wants0 rfl) rfl rfl rfl (by kernel_rfl) (by kernel_rfl) (by kernel_rfl) (l := [(3, 0), (4, 1)]) (by kernel_rfl) (.int rfl rfl (.bool (by kernel_rfl) rfl rfl .nil)) (b' := (decide ((a0.2.2.getD (s4 : Int).toNat default) = (a1.2.2.getD (s4 : Int).toNat default)))) (by rw [Bool.eq_iff_iff]; simp [Prod.ext_iff]) ?_
      refine T.planEnd ?_
      refine st ?_
      refine A.cd he1 rfl (fun hb3 he1 => ?_) (fun hb3 he1 => ?_)
      ·refine sq ?_
       obtain rfl := inv_some he1
       obtain rfl := hx1 _ rfl
       refine st ?_
       obtain rfl := inv_some hk2
       refine pk [] 6 ?_
       refine T.ret1 rfl rfl (fun w hS => ⟨(), rfl, hS⟩)
      ·refine T.skip ?_
       refine sx ?_
       refine T.region ?_
       refine sx ?_
       obtain rfl := inv_some he1
       exact jn [0, 1, 2, 3, 4, 5] 6 (hm1 (IntKind.i64.wrap (s4 + 1)) rfl ())
     ·refine T.exit ?_
      refine sx ?_
      obtain rfl := inv_some he1
      obtain rfl := hx1 _ rfl
      refine sx ?_
      exact T.le EnvLe.nil (T.pick [] 6 rfl rfl nla rfl (J3 () () hk2))
   ·refine sq ?_
    obtain ⟨e2, hl2, hk1⟩ := inv_bind hk1
    refine jn [0, 1, 2, 3, 4, 5] 6 (T.loop (s0 := 0) (env := fun s5 x7 => [(2, .pointer (some ⟨b1, 0, none⟩)), (3, .pointer (some ⟨b2, 0, none⟩)), (5, .int .i64 s5)]) (hs := fun (s5 : Int) (x7 : Unit) => Cl b1 62 [str a0.1, .slice A0a a0.2.1.length c0a, .slice A0b a0.2.2.length c0b] :: Ro el9 A0a c0a a0.2.1 :: Ro el11 A0b c0b a0.2.2 :: Cl b2 62 [str a1.1, .slice A1a a1.2.1.length c1a, .slice A1b a1.2.2.length c1b] :: Ro el9 A1a c1a a1.2.1 :: Ro el11 A1b c1b a1.2.2 :: hs) hl2 () (fun K2 s5 x7 o2 he2 hm2 hx2 => ?_))
    unfold ref14_Same.st2 at he2
    refine sq ?_
    refine A.cd he2 rfl (fun hb4 he2 => ?_) (fun hb4 he2 => ?_)
    ·refine sq ?_
     refine T.plan [(0, 0), (2, 0), (5, 0), (7, 0), (1, 1), (3, 0), (4, 1), (6, 1), (8, 0), (9, 1), (10, 0)] mixed (by kernel_rfl) (by kernel_rfl) rfl (fun d _ _ _ _ h => by cases d <;> exact h) ?_
     refine T.field (.plan rfl) rfl (wants0 rfl) rfl rfl ?_
     refine T.move (.plan rfl) rfl (wants0 rfl) rfl rfl ?_
     refine T.field (.plan rfl) rfl (wants0 rfl) rfl rfl ?_
     refine T.move (.plan rfl) rfl (wants0 rfl) rfl rfl ?_
     refine T.load (.plan rfl) 0 rfl rfl (wants0 rfl) rfl rfl rfl ?_
     obtain ⟨hc3, he2⟩ := inv_chk he2
     refine T.idxRo (.plan rfl) 1 rfl rfl (wants0 rfl) rfl rfl rfl hc3.1 hc3.2 (Nat.le_refl _) ?_
     refine T.ldFRo 1 (.plan rfl) Fd.self (Sh.pair Sh.sc (Sh.pair Sh.sc Sh.sc)) rfl (.inl rfl) rfl rfl hc3.1 hc3.2 rfl (wants0 rfl) rfl rfl rfl (v := fun x8 => .agg #[str ((((a0.2.1.getD (s5 : Int).toNat default)).1)), .int .i64 ((((a0.2.1.getD (s5 : Int).toNat default)).2.1)), .int .i64 ((((a0.2.1.getD (s5 : Int).toNat default)).2.2))]) (hs' := fun x8 => Cl b1 62 [str a0.1, .slice A0a a0.2.1.length c0a, .slice A0b a0.2.2.length c0b] :: Ro el9 A0a c0a a0.2.1 :: Ro el11 A0b c0b a0.2.2 :: Cl b2 62 [str a1.1, .slice A1a a1.2.1.length c1a, .slice A1b a1.2.2.length c1b] :: Ro el9 A1a c1a a1.2.1 :: Ro el11 A1b c1b a1.2.2 :: hs) (fun _ => rfl) (fun _ => rfl) (fun x8 => ?_)
     refine T.load (.plan rfl) 3 rfl rfl (wants0 rfl) rfl rfl rfl ?_
     obtain ⟨hc4, he2⟩ := inv_chk he2
     refine T.idxRo (.plan rfl) 4 rfl rfl (wants0 rfl) rfl rfl rfl hc4.1 hc4.2 (Nat.le_refl _) ?_
     refine T.ldFRo 4 (.plan rfl) Fd.self (Sh.pair Sh.sc (Sh.pair Sh.sc Sh.sc)) rfl (.inl rfl) rfl rfl hc4.1 hc4.2 rfl (wants0 rfl) rfl rfl rfl (v := fun x9 => .agg #[str ((((a1.2.1.getD (s5 : Int).toNat default)).1)), .int .i64 ((((a1.2.1.getD (s5 : Int).toNat default)).2.1)), .int .i64 ((((a1.2.1.getD (s5 : Int).toNat default)).2.2))]) (hs' := fun x9 => Cl b1 62 [str a0.1, .slice A0a a0.2.1.length c0a, .slice A0b a0.2.2.length c0b] :: Ro el9 A0a c0a a0.2.1 :: Ro el11 A0b c0b a0.2.2 :: Cl b2 62 [str a1.1, .slice A1a a1.2.1.length c1a, .slice A1b a1.2.2.length c1b] :: Ro el9 A1a c1a a1.2.1 :: Ro el11 A1b c1b a1.2.2 :: hs) (fun _ => rfl) (fun _ => rfl) (fun x9 => ?_)
     refine T.neS (.plan rfl) rfl (wants0 rfl) rfl rfl rfl (by kernel_rfl) (by kernel_rfl) (by kernel_rfl) (l := [(9, 0), (3, 1), (3, 2)]) (by kernel_rfl) (.str rfl rfl (.int rfl rfl (.int rfl rfl .nil))) (b' := (decide ((a0.2.1.getD (s5 : Int).toNat default) = (a1.2.1.getD (s5 : Int).toNat default)))) (by rw [Bool.eq_iff_iff]; simp [Prod.ext_iff]) ?_
     refine T.planEnd ?_
     refine st ?_
     refine A.cd he2 rfl (fun hb5 he2 => ?_) (fun hb5 he2 => ?_)
     ·refine sq ?_
      obtain rfl := inv_some he2
      obtain rfl := hx2 _ rfl
      refine st ?_
      obtain rfl := inv_some hk1
      refine pk [] 6 ?_
      refine T.ret1 rfl rfl (fun w hS => ⟨(), rfl, hS⟩)
     ·refine T.skip ?_
      refine sx ?_
      refine T.region ?_
      refine sx ?_
      obtain rfl := inv_some he2
      exact jn [0, 1, 2, 3, 4, 5] 6 (hm2 (IntKind.i64.wrap (s5 + 1)) rfl ())
    ·refine T.exit ?_
     refine sx ?_
     obtain rfl := inv_some he2
     obtain rfl := hx2 _ rfl
     refine sx ?_
     exact jn [0, 1, 2, 3, 4, 5] 6 (J2 () () hk1)
 ·refine st ?_
  refine T.strNe .list rfl (wants0 rfl) rfl (l := a0.1) (l' := a1.1) rfl rfl ?_
  refine st ?_
  refine br hr (fun hb6 hr => ?_) (fun hb6 hr => ?_)
  ·refine st ?_
   refine br hr (fun hb7 hr => ?_) (fun hb7 hr => ?_)
   ·refine sx ?_
    exact jn [1, 5, 4, 0, 3, 2] 6 (J1 (!(decide ((((a0.2.2.length : Int))) = ((a1.2.2.length : Int))))) () hr)
   ·refine sx ?_
    exact jn [1, 5, 4, 0, 3, 2] 6 (J1 true () hr)
  ·refine sx ?_
   exact jn [1, 5, 4, 0, 3, 2] 6 (J1 true () hr)

noncomputable def ref17_ReplyRight.k2 (s2 : Unit) : Option Bool :=
  some true
noncomputable def ref17_ReplyRight.st1 (a0 : Int × Int × (List (List ty4))) (s3 : Int) : Option (Int ⊕ (Bool ⊕ Unit)) :=
  (if ((decide (s3 < ((a0.2.2.length : Int))))) = true then chk (0 ≤ s3 ∧ s3 < (a0.2.2.length : Int)) ((ref14_RowRight.impl ((a0.2.2.getD (s3 : Int).toNat default))).bind fun r1 => (if ((!(decide (r1 = 0)))) = true then some (.inr (.inl false)) else some (.inl (IntKind.i64.wrap (s3 + 1))))) else some (.inr (.inr ())))
noncomputable def ref17_ReplyRight.k1 (a0 : Int × Int × (List (List ty4))) (s1 : Bool) : Option Bool :=
  (if s1 = true then some false else (loop (ref17_ReplyRight.st1 a0) 0).bind (fun e1 => match e1 with | .inl v => some v | .inr v => ref17_ReplyRight.k2 v))
noncomputable def ref17_ReplyRight.impl (a0 : Int × Int × (List (List ty4))) : Option Bool :=
  (if ((decide (a0.1 < 0))) = true then ref17_ReplyRight.k1 a0 true else (if ((decide ((65536 : Int) < a0.1))) = true then ref17_ReplyRight.k1 a0 true else (if ((decide (a0.2.1 < 0))) = true then ref17_ReplyRight.k1 a0 true else (if ((decide ((2 : Int) < a0.2.1))) = true then ref17_ReplyRight.k1 a0 true else ref17_ReplyRight.k1 a0 (decide ((12 : Int) < ((a0.2.2.length : Int))))))))
theorem ref17_ReplyRight.c {a0 : Int × Int × (List (List ty4))} {i0a c0a : Nat} {A0a : Option Addr} (hB : Base B) (hS : St B (hs) w) (h0a : (hs)[i0a]? = some (Ro el3 A0a c0a a0.2.2)) {r : Bool} (hr : ref17_ReplyRight.impl a0 = some r) :
    Calls Tryd.prog 7 #[.agg #[.int .i64 a0.1, .int .i64 a0.2.1, .slice A0a a0.2.2.length c0a]] w fun e w' => ∃ x : Unit, e = .returned (.bool r) ∧ St B (hs) w' := by
 unfold ref17_ReplyRight.impl at hr
 refine calls_T Tryd.func7 rfl rfl rfl hS ?_
 refine T.front i0a h0a ?_
 refine sq ?_
 refine A.bx rfl rfl (fun b1 => ?_)
 refine st ?_
 refine T.seq ?_
 refine T.seqJ (fun (s1 : Bool) (x1 : Unit) => [(1, .pointer (some ⟨b1, 0, none⟩)), (27, .bool s1)]) (fun s1 x1 => Cl b1 25 [.int .i64 a0.1, .int .i64 a0.2.1, .slice A0a a0.2.2.length c0a] :: Ro el3 A0a c0a a0.2.2 :: hs) (fun s1 => ref17_ReplyRight.k1 a0 s1 = some r) (fun s1 x1 hk1 => ?_) (fun J1 => ?_)
 ·unfold ref17_ReplyRight.k1 at hk1
  refine A.cd hk1 rfl (fun hb1 hk1 => ?_) (fun hb1 hk1 => ?_)
  ·refine sq ?_
   obtain rfl := inv_some hk1
   refine pk [] 2 ?_
   refine T.ret1 rfl rfl (fun w hS => ⟨(), rfl, hS⟩)
  ·refine st ?_
   refine T.seqJ (fun (s2 : Unit) (x2 : Unit) => []) (fun s2 x2 => hs) (fun s2 => ref17_ReplyRight.k2 s2 = some r) (fun s2 x2 hk2 => ?_) (fun J2 => ?_)
   ·unfold ref17_ReplyRight.k2 at hk2
    refine sq ?_
    obtain rfl := inv_some hk2
    refine pk [] 0 ?_
    refine T.ret1 rfl rfl (fun w hS => ⟨(), rfl, hS⟩)
   ·refine sq ?_
    obtain ⟨e1, hl1, hk1⟩ := inv_bind hk1
    refine jn [0, 1] 2 (T.loop (s0 := 0) (env := fun s3 x3 => [(1, .pointer (some ⟨b1, 0, none⟩)), (3, .int .i64 s3)]) (hs := fun (s3 : Int) (x3 : Unit) => Cl b1 25 [.int .i64 a0.1, .int .i64 a0.2.1, .slice A0a a0.2.2.length c0a] :: Ro el3 A0a c0a a0.2.2 :: hs) hl1 () (fun K1 s3 x3 o1 he1 hm1 hx1 => ?_))
    unfold ref17_ReplyRight.st1 at he1
    refine sq ?_
    refine A.cd he1 rfl (fun hb2 he1 => ?_) (fun hb2 he1 => ?_)
    ·refine sq ?_
     obtain ⟨hc1, he1⟩ := inv_chk he1
     refine T.idxRo .list 1 rfl rfl (wants0 rfl) rfl rfl rfl hc1.1 hc1.2 (Nat.le_refl _) ?_
     refine T.ldSlice .list 1 rfl rfl (wants0 rfl) rfl rfl hc1.1 hc1.2 (fun x4 => ?_)
     obtain ⟨r1, hg1, he1⟩ := inv_bind he1
     refine A.c1 rfl rfl Tryd.func21 rfl (fun w hS => ref14_RowRight.c hB hS (i0 := 0) rfl hg1) (fun x5 => ?_)
     refine st ?_
     refine A.cd he1 rfl (fun hb3 he1 => ?_) (fun hb3 he1 => ?_)
     ·refine sq ?_
      obtain rfl := inv_some he1
      obtain rfl := hx1 _ rfl
      refine st ?_
      obtain rfl := inv_some hk1
      refine pk [] 3 ?_
      refine T.ret1 rfl rfl (fun w hS => ⟨(), rfl, hS⟩)
     ·refine T.skip ?_
      refine sx ?_
      refine T.region ?_
      refine sx ?_
      obtain rfl := inv_some he1
      exact jn [1, 2] 3 (hm1 (IntKind.i64.wrap (s3 + 1)) rfl ())
    ·refine T.exit ?_
     refine sx ?_
     obtain rfl := inv_some he1
     obtain rfl := hx1 _ rfl
     refine sx ?_
     exact T.le EnvLe.nil (T.pick [] 2 rfl rfl nla rfl (J2 () () hk1))
 ·refine st ?_
  refine br hr (fun hb4 hr => ?_) (fun hb4 hr => ?_)
  ·refine sx ?_
   exact jn [0, 1] 2 (J1 true () hr)
  ·refine st ?_
   refine br hr (fun hb5 hr => ?_) (fun hb5 hr => ?_)
   ·refine sx ?_
    exact jn [0, 1] 2 (J1 true () hr)
   ·refine st ?_
    refine br hr (fun hb6 hr => ?_) (fun hb6 hr => ?_)
    ·refine sx ?_
     exact jn [0, 1] 2 (J1 true () hr)
    ·refine st ?_
     refine br hr (fun hb7 hr => ?_) (fun hb7 hr => ?_)
     ·refine sx ?_
      exact jn [0, 1] 2 (J1 true () hr)
     ·refine sx ?_
      exact jn [0, 1] 2 (J1 (decide ((12 : Int) < ((a0.2.2.length : Int)))) () hr)

noncomputable def ref16_Same.impl (a0 : Int × Int × (List (List ty4))) (a1 : Int × Int × (List (List ty4))) : Option Bool :=
  (if ((decide (a0.1 = a1.1))) = true then (if ((decide (a0.2.1 = a1.2.1))) = true then (ref2_SameRows.impl a0.2.2 a1.2.2).bind fun r1 => some r1 else some false) else some false)
theorem ref16_Same.c {a0 : Int × Int × (List (List ty4))} {i0a c0a : Nat} {A0a : Option Addr} {a1 : Int × Int × (List (List ty4))} {i1a c1a : Nat} {A1a : Option Addr} (hB : Base B) (hS : St B (hs) w) (h0a : (hs)[i0a]? = some (Ro el3 A0a c0a a0.2.2)) (h1a : (hs)[i1a]? = some (Ro el3 A1a c1a a1.2.2)) {r : Bool} (hr : ref16_Same.impl a0 a1 = some r) :
    Calls Tryd.prog 10 #[.agg #[.int .i64 a0.1, .int .i64 a0.2.1, .slice A0a a0.2.2.length c0a], .agg #[.int .i64 a1.1, .int .i64 a1.2.1, .slice A1a a1.2.2.length c1a]] w fun e w' => ∃ x : Unit, e = .returned (.bool r) ∧ St B (hs) w' := by
 unfold ref16_Same.impl at hr
 refine calls_T Tryd.func10 rfl rfl rfl hS ?_
 refine T.front i0a h0a ?_
 refine T.front (i1a + 1) h1a ?_
 refine sq ?_
 refine A.bx rfl rfl (fun b1 => ?_)
 refine A.bx rfl rfl (fun b2 => ?_)
 refine sq ?_
 refine br hr (fun hb1 hr => ?_) (fun hb1 hr => ?_)
 ·refine st ?_
  refine br hr (fun hb2 hr => ?_) (fun hb2 hr => ?_)
  ·refine st ?_
   obtain ⟨r1, hg1, hr⟩ := inv_bind hr
   refine A.c2g rfl rfl hb2 rfl rfl rfl Tryd.func26 rfl (fun w hS => ref2_SameRows.c hB hS (i0 := 3) (i1 := 2) rfl rfl hg1) (fun x1 => ?_)
   refine st ?_
   obtain rfl := inv_some hr
   refine pk [] 4 ?_
   refine T.ret1 rfl rfl (fun w hS => ⟨(), rfl, hS⟩)
  ·refine st ?_
   obtain rfl := inv_some hr
   refine pk [] 4 ?_
   refine T.ret1 rfl rfl (fun w hS => ⟨(), rfl, hS⟩)
 ·refine st ?_
  obtain rfl := inv_some hr
  refine pk [] 4 ?_
  refine T.ret1 rfl rfl (fun w hS => ⟨(), rfl, hS⟩)
end Go.Proofs.YtpogdeibkghhaaaDoor
