/- RefE: what the functions compute, and that the program computes it; printed by a program of ours. -/
import Derived.Test.YtpogdeibkghhaaaDoorEntryD
import Derived.Test.YtpogdeibkghhaaaDoorNam
import Derived.Test.YtpogdeibkghhaaaDoorOpenEl
set_option linter.unusedVariables false
set_option linter.unusedSimpArgs false
namespace Go.Proofs.YtpogdeibkghhaaaDoor
open Go.RowKit
set_option maxRecDepth 100000
set_option maxHeartbeats 4000000
variable {B : World} {hs : List MP} {w : World}
noncomputable def ref16_empty.impl (a0 : ty6) : Option Bool :=
  (if ((decide (a0.1 = (([] : List UInt8))))) = true then (if ((decide ((((a0.2.1.length : Int))) = 0))) = true then some (decide ((((a0.2.2.length : Int))) = 0)) else some false) else some false)
theorem ref16_empty.c {a0 : ty6} {i0a c0a : Nat} {A0a : Option Addr} {i0b c0b : Nat} {A0b : Option Addr} (hB : Base B) (hS : St B (hs) w) (h0a : (hs)[i0a]? = some (Ro el9 A0a c0a a0.2.1)) (h0b : (hs)[i0b]? = some (Ro el11 A0b c0b a0.2.2)) {r : Bool} (hr : ref16_empty.impl a0 = some r) :
    Calls Tryd.prog 77 #[.agg #[str a0.1, .slice A0a a0.2.1.length c0a, .slice A0b a0.2.2.length c0b]] w fun e w' => ∃ x : Unit, e = .returned (.bool r) ∧ St B (hs) w' := by
 unfold ref16_empty.impl at hr
 refine calls_T Tryd.func77 rfl rfl rfl hS ?_
 refine T.front i0a h0a ?_
 refine T.front (i0b + 1) h0b ?_
 refine sq ?_
 refine A.bx rfl rfl (fun b1 => ?_)
 refine sq ?_
 refine T.strEq .list rfl (wants0 rfl) rfl (l := a0.1) (l' := (([] : List UInt8))) rfl rfl ?_
 refine st ?_
 refine br hr (fun hb1 hr => ?_) (fun hb1 hr => ?_)
 ·refine st ?_
  refine br hr (fun hb2 hr => ?_) (fun hb2 hr => ?_)
  ·refine st ?_
   obtain rfl := inv_some hr
   refine pk [] 3 ?_
   refine T.ret1 rfl rfl (fun w hS => ⟨(), rfl, hS⟩)
  ·refine st ?_
   obtain rfl := inv_some hr
   refine pk [] 3 ?_
   refine T.ret1 rfl rfl (fun w hS => ⟨(), rfl, hS⟩)
 ·refine st ?_
  obtain rfl := inv_some hr
  refine pk [] 3 ?_
  refine T.ret1 rfl rfl (fun w hS => ⟨(), rfl, hS⟩)

noncomputable def ref16_one.k4 (a0 : ty7) (s4 : Bool) : Option Bool :=
  (if s4 = true then some false else (if ((!(decide (a0.1 = 6)))) = true then (if ((decide (a0.2.2.2.2.2.1 = 0))) = true then (if ((decide (a0.2.2.2.2.2.2.1 = (0, 0, ([] : List UInt8))))) = true then (if ((decide (a0.2.2.2.2.2.2.2.1 = (0, 0, ([] : List UInt8))))) = true then some (decide (a0.2.2.2.2.2.2.2.2 = 0)) else some false) else some false) else some false) else (if ((decide ((0 : Int) ≤ a0.2.2.2.2.2.1))) = true then (if ((decide (a0.2.2.2.2.2.1 ≤ 2))) = true then (if ((decide ((1 : Int) ≤ a0.2.2.2.2.2.2.2.2))) = true then (if ((decide (a0.2.2.2.2.2.2.2.2 ≤ 4))) = true then (ref14_Small.impl a0.2.2.2.2.2.2.1).bind fun r2 => (if r2 = true then (ref14_Small.impl a0.2.2.2.2.2.2.2.1).bind fun r3 => some r3 else some false) else some false) else some false) else some false) else some false)))
noncomputable def ref16_one.k3 (a0 : ty7) (s3 : Bool) : Option Bool :=
  (if s3 = true then some false else (if ((decide (a0.1 = 4))) = true then (ref14_Small.impl a0.2.2.2.2.1).bind fun r4 => ref16_one.k4 a0 (!r4) else (if ((decide (a0.1 = 5))) = true then (ref14_Small.impl a0.2.2.2.2.1).bind fun r5 => ref16_one.k4 a0 (!r5) else (if ((decide (a0.2.2.2.2.1 = (0, 0, ([] : List UInt8))))) = true then (ref14_Small.impl a0.2.2.2.2.1).bind fun r6 => ref16_one.k4 a0 (!r6) else ref16_one.k4 a0 true))))
noncomputable def ref16_one.k2 (a0 : ty7) (s2 : Bool) : Option Bool :=
  (if s2 = true then some false else (if ((decide (a0.1 = 2))) = true then (ref14_RowRight.impl a0.2.2.2.1).bind fun r7 => ref16_one.k3 a0 (!(decide (r7 = 0))) else (if ((decide (a0.1 = 3))) = true then (ref14_RowRight.impl a0.2.2.2.1).bind fun r8 => ref16_one.k3 a0 (!(decide (r8 = 0))) else (if ((decide ((0 : Int) < ((a0.2.2.2.1.length : Int))))) = true then ref16_one.k3 a0 true else (ref14_RowRight.impl a0.2.2.2.1).bind fun r9 => ref16_one.k3 a0 (!(decide (r9 = 0)))))))
noncomputable def ref16_one.k1 (a0 : ty7) (s1 : Bool) : Option Bool :=
  (if s1 = true then some false else (if ((decide (a0.1 = 1))) = true then (ref14_Right.impl a0.2.2.1).bind fun r1 => (if r1 = true then (if ((decide (a0.2.1 = (([] : List UInt8))))) = true then (if ((decide ((((a0.2.2.2.1.length : Int))) = 0))) = true then (if ((decide (a0.2.2.2.2.1 = (0, 0, ([] : List UInt8))))) = true then (if ((decide (a0.2.2.2.2.2.1 = 0))) = true then (if ((decide (a0.2.2.2.2.2.2.1 = (0, 0, ([] : List UInt8))))) = true then (if ((decide (a0.2.2.2.2.2.2.2.1 = (0, 0, ([] : List UInt8))))) = true then some (decide (a0.2.2.2.2.2.2.2.2 = 0)) else some false) else some false) else some false) else some false) else some false) else some false) else some false) else (ref14_Name.impl a0.2.1).bind fun r10 => (if r10 = true then (ref16_empty.impl a0.2.2.1).bind fun r11 => ref16_one.k2 a0 (!r11) else ref16_one.k2 a0 true)))
noncomputable def ref16_one.impl (a0 : ty7) : Option Bool :=
  (if ((decide (a0.1 < 1))) = true then ref16_one.k1 a0 true else ref16_one.k1 a0 (decide ((6 : Int) < a0.1)))
theorem ref16_one.c {a0 : ty7} {i0a c0a : Nat} {A0a : Option Addr} {i0b c0b : Nat} {A0b : Option Addr} {i0c c0c : Nat} {A0c : Option Addr} (hB : Base B) (hS : St B (hs) w) (h0a : (hs)[i0a]? = some (Ro el9 A0a c0a a0.2.2.1.2.1)) (h0b : (hs)[i0b]? = some (Ro el11 A0b c0b a0.2.2.1.2.2)) (h0c : (hs)[i0c]? = some (Ro el2 A0c c0c a0.2.2.2.1)) {r : Bool} (hr : ref16_one.impl a0 = some r) :
    Calls Tryd.prog 56 #[.agg #[.int .i64 a0.1, str a0.2.1, str a0.2.2.1.1, .slice A0a a0.2.2.1.2.1.length c0a, .slice A0b a0.2.2.1.2.2.length c0b, .slice A0c a0.2.2.2.1.length c0c, .int .i64 a0.2.2.2.2.1.1, .int .i64 a0.2.2.2.2.1.2.1, str a0.2.2.2.2.1.2.2, .int .i64 a0.2.2.2.2.2.1, .int .i64 a0.2.2.2.2.2.2.1.1, .int .i64 a0.2.2.2.2.2.2.1.2.1, str a0.2.2.2.2.2.2.1.2.2, .int .i64 a0.2.2.2.2.2.2.2.1.1, .int .i64 a0.2.2.2.2.2.2.2.1.2.1, str a0.2.2.2.2.2.2.2.1.2.2, .int .i64 a0.2.2.2.2.2.2.2.2]] w fun e w' => ∃ x : Unit, e = .returned (.bool r) ∧ St B (hs) w' := by
 unfold ref16_one.impl at hr
 refine calls_T Tryd.func56 rfl rfl rfl hS ?_
 refine T.front i0a h0a ?_
 refine T.front (i0b + 1) h0b ?_
 refine T.front (i0c + 2) h0c ?_
 refine sq ?_
 refine A.bx rfl rfl (fun b1 => ?_)
 refine st ?_
 refine T.seq ?_
 refine T.seqJ (fun (s1 : Bool) (x1 : Unit) => [(1, .pointer (some ⟨b1, 0, none⟩)), (11, .bool s1)]) (fun s1 x1 => Cl b1 66 [.int .i64 a0.1, str a0.2.1, str a0.2.2.1.1, .slice A0a a0.2.2.1.2.1.length c0a, .slice A0b a0.2.2.1.2.2.length c0b, .slice A0c a0.2.2.2.1.length c0c, .int .i64 a0.2.2.2.2.1.1, .int .i64 a0.2.2.2.2.1.2.1, str a0.2.2.2.2.1.2.2, .int .i64 a0.2.2.2.2.2.1, .int .i64 a0.2.2.2.2.2.2.1.1, .int .i64 a0.2.2.2.2.2.2.1.2.1, str a0.2.2.2.2.2.2.1.2.2, .int .i64 a0.2.2.2.2.2.2.2.1.1, .int .i64 a0.2.2.2.2.2.2.2.1.2.1, str a0.2.2.2.2.2.2.2.1.2.2, .int .i64 a0.2.2.2.2.2.2.2.2] :: Ro el9 A0a c0a a0.2.2.1.2.1 :: Ro el11 A0b c0b a0.2.2.1.2.2 :: Ro el2 A0c c0c a0.2.2.2.1 :: hs) (fun s1 => ref16_one.k1 a0 s1 = some r) (fun s1 x1 hk1 => ?_) (fun J1 => ?_)
 ·unfold ref16_one.k1 at hk1
  refine A.cd hk1 rfl (fun hb1 hk1 => ?_) (fun hb1 hk1 => ?_)
  ·refine sq ?_
   obtain rfl := inv_some hk1
   refine pk [] 4 ?_
   refine T.ret1 rfl rfl (fun w hS => ⟨(), rfl, hS⟩)
  ·refine sq ?_
   refine T.build .list (vals := []) (cells := #[.int .i64 0, .int .i64 0, str (([] : List UInt8))]) rfl (wants0 rfl) rfl rfl (run_buildStruct (sizes := [1, 1, 1]) (by kernel_rfl) (by kernel_rfl)) ?_
   refine A.al rfl (fun b2 => ?_)
   refine sq ?_
   refine A.cd hk1 rfl (fun hb2 hk1 => ?_) (fun hb2 hk1 => ?_)
   ·refine sq ?_
    obtain ⟨r1, hg1, hk1⟩ := inv_bind hk1
    refine A.c1 rfl rfl Tryd.func75 rfl (fun w hS => ref14_Right.c hB hS (i0a := 2) (i0b := 3) (a0 := a0.2.2.1) rfl rfl hg1) (fun x2 => ?_)
    refine st ?_
    refine br hk1 (fun hb3 hk1 => ?_) (fun hb3 hk1 => ?_)
    ·refine st ?_
     refine T.strEq .list rfl (wants1 rfl rfl rfl hb3) rfl (l := a0.2.1) (l' := (([] : List UInt8))) rfl rfl ?_
     refine st ?_
     refine br hk1 (fun hb4 hk1 => ?_) (fun hb4 hk1 => ?_)
     ·refine st ?_
      refine br hk1 (fun hb5 hk1 => ?_) (fun hb5 hk1 => ?_)
      ·refine st ?_
       refine T.eqS .list rfl (wants1 rfl rfl rfl hb5) rfl rfl rfl (by kernel_rfl) (by kernel_rfl) (by kernel_rfl) (l := [(3, 0), (3, 1), (9, 2)]) (by kernel_rfl) (.int rfl rfl (.int rfl rfl (.str rfl rfl .nil))) (b' := (decide (a0.2.2.2.2.1 = (0, 0, ([] : List UInt8))))) (by rw [Bool.eq_iff_iff]; simp [Prod.ext_iff]) ?_
       refine st ?_
       refine br hk1 (fun hb6 hk1 => ?_) (fun hb6 hk1 => ?_)
       ·refine st ?_
        refine br hk1 (fun hb7 hk1 => ?_) (fun hb7 hk1 => ?_)
        ·refine st ?_
         refine T.eqS .list rfl (wants1 rfl rfl rfl hb7) rfl rfl rfl (by kernel_rfl) (by kernel_rfl) (by kernel_rfl) (l := [(3, 0), (3, 1), (9, 2)]) (by kernel_rfl) (.int rfl rfl (.int rfl rfl (.str rfl rfl .nil))) (b' := (decide (a0.2.2.2.2.2.2.1 = (0, 0, ([] : List UInt8))))) (by rw [Bool.eq_iff_iff]; simp [Prod.ext_iff]) ?_
         refine st ?_
         refine br hk1 (fun hb8 hk1 => ?_) (fun hb8 hk1 => ?_)
         ·refine st ?_
          refine T.eqS .list rfl (wants1 rfl rfl rfl hb8) rfl rfl rfl (by kernel_rfl) (by kernel_rfl) (by kernel_rfl) (l := [(3, 0), (3, 1), (9, 2)]) (by kernel_rfl) (.int rfl rfl (.int rfl rfl (.str rfl rfl .nil))) (b' := (decide (a0.2.2.2.2.2.2.2.1 = (0, 0, ([] : List UInt8))))) (by rw [Bool.eq_iff_iff]; simp [Prod.ext_iff]) ?_
          refine st ?_
          refine br hk1 (fun hb9 hk1 => ?_) (fun hb9 hk1 => ?_)
          ·refine st ?_
           obtain rfl := inv_some hk1
           refine pk [] 5 ?_
           refine T.ret1 rfl rfl (fun w hS => ⟨(), rfl, hS⟩)
          ·refine st ?_
           obtain rfl := inv_some hk1
           refine pk [] 5 ?_
           refine T.ret1 rfl rfl (fun w hS => ⟨(), rfl, hS⟩)
         ·refine st ?_
          obtain rfl := inv_some hk1
          refine pk [] 5 ?_
          refine T.ret1 rfl rfl (fun w hS => ⟨(), rfl, hS⟩)
        ·refine st ?_
         obtain rfl := inv_some hk1
         refine pk [] 5 ?_
         refine T.ret1 rfl rfl (fun w hS => ⟨(), rfl, hS⟩)
       ·refine st ?_
        obtain rfl := inv_some hk1
        refine pk [] 5 ?_
        refine T.ret1 rfl rfl (fun w hS => ⟨(), rfl, hS⟩)
      ·refine st ?_
       obtain rfl := inv_some hk1
       refine pk [] 5 ?_
       refine T.ret1 rfl rfl (fun w hS => ⟨(), rfl, hS⟩)
     ·refine st ?_
      obtain rfl := inv_some hk1
      refine pk [] 5 ?_
      refine T.ret1 rfl rfl (fun w hS => ⟨(), rfl, hS⟩)
    ·refine st ?_
     obtain rfl := inv_some hk1
     refine pk [] 5 ?_
     refine T.ret1 rfl rfl (fun w hS => ⟨(), rfl, hS⟩)
   ·refine st ?_
    refine T.seq ?_
    refine T.seqJ (fun (s2 : Bool) (x3 : Unit) => [(1, .pointer (some ⟨b1, 0, none⟩)), (3, .pointer (some ⟨b2, 0, none⟩)), (67, .bool s2)]) (fun s2 x3 => Cl b1 66 [.int .i64 a0.1, str a0.2.1, str a0.2.2.1.1, .slice A0a a0.2.2.1.2.1.length c0a, .slice A0b a0.2.2.1.2.2.length c0b, .slice A0c a0.2.2.2.1.length c0c, .int .i64 a0.2.2.2.2.1.1, .int .i64 a0.2.2.2.2.1.2.1, str a0.2.2.2.2.1.2.2, .int .i64 a0.2.2.2.2.2.1, .int .i64 a0.2.2.2.2.2.2.1.1, .int .i64 a0.2.2.2.2.2.2.1.2.1, str a0.2.2.2.2.2.2.1.2.2, .int .i64 a0.2.2.2.2.2.2.2.1.1, .int .i64 a0.2.2.2.2.2.2.2.1.2.1, str a0.2.2.2.2.2.2.2.1.2.2, .int .i64 a0.2.2.2.2.2.2.2.2] :: Ro el9 A0a c0a a0.2.2.1.2.1 :: Ro el11 A0b c0b a0.2.2.1.2.2 :: Ro el2 A0c c0c a0.2.2.2.1 :: Cl b2 64 [.int .i64 0, .int .i64 0, str (([] : List UInt8))] :: hs) (fun s2 => ref16_one.k2 a0 s2 = some r) (fun s2 x3 hk2 => ?_) (fun J2 => ?_)
    ·unfold ref16_one.k2 at hk2
     refine A.cd hk2 rfl (fun hb10 hk2 => ?_) (fun hb10 hk2 => ?_)
     ·refine sq ?_
      obtain rfl := inv_some hk2
      refine pk [] 5 ?_
      refine T.ret1 rfl rfl (fun w hS => ⟨(), rfl, hS⟩)
     ·refine st ?_
      refine T.seq ?_
      refine T.seqJ (fun (s3 : Bool) (x4 : Unit) => [(1, .pointer (some ⟨b1, 0, none⟩)), (3, .pointer (some ⟨b2, 0, none⟩)), (87, .bool s3)]) (fun s3 x4 => Cl b1 66 [.int .i64 a0.1, str a0.2.1, str a0.2.2.1.1, .slice A0a a0.2.2.1.2.1.length c0a, .slice A0b a0.2.2.1.2.2.length c0b, .slice A0c a0.2.2.2.1.length c0c, .int .i64 a0.2.2.2.2.1.1, .int .i64 a0.2.2.2.2.1.2.1, str a0.2.2.2.2.1.2.2, .int .i64 a0.2.2.2.2.2.1, .int .i64 a0.2.2.2.2.2.2.1.1, .int .i64 a0.2.2.2.2.2.2.1.2.1, str a0.2.2.2.2.2.2.1.2.2, .int .i64 a0.2.2.2.2.2.2.2.1.1, .int .i64 a0.2.2.2.2.2.2.2.1.2.1, str a0.2.2.2.2.2.2.2.1.2.2, .int .i64 a0.2.2.2.2.2.2.2.2] :: Ro el9 A0a c0a a0.2.2.1.2.1 :: Ro el11 A0b c0b a0.2.2.1.2.2 :: Ro el2 A0c c0c a0.2.2.2.1 :: Cl b2 64 [.int .i64 0, .int .i64 0, str (([] : List UInt8))] :: hs) (fun s3 => ref16_one.k3 a0 s3 = some r) (fun s3 x4 hk3 => ?_) (fun J3 => ?_)
      ·unfold ref16_one.k3 at hk3
       refine A.cd hk3 rfl (fun hb11 hk3 => ?_) (fun hb11 hk3 => ?_)
       ·refine sq ?_
        obtain rfl := inv_some hk3
        refine pk [] 5 ?_
        refine T.ret1 rfl rfl (fun w hS => ⟨(), rfl, hS⟩)
       ·refine st ?_
        refine T.seq ?_
        refine T.seqJ (fun (s4 : Bool) (x5 : Unit) => [(1, .pointer (some ⟨b1, 0, none⟩)), (3, .pointer (some ⟨b2, 0, none⟩)), (107, .bool s4)]) (fun s4 x5 => Cl b1 66 [.int .i64 a0.1, str a0.2.1, str a0.2.2.1.1, .slice A0a a0.2.2.1.2.1.length c0a, .slice A0b a0.2.2.1.2.2.length c0b, .slice A0c a0.2.2.2.1.length c0c, .int .i64 a0.2.2.2.2.1.1, .int .i64 a0.2.2.2.2.1.2.1, str a0.2.2.2.2.1.2.2, .int .i64 a0.2.2.2.2.2.1, .int .i64 a0.2.2.2.2.2.2.1.1, .int .i64 a0.2.2.2.2.2.2.1.2.1, str a0.2.2.2.2.2.2.1.2.2, .int .i64 a0.2.2.2.2.2.2.2.1.1, .int .i64 a0.2.2.2.2.2.2.2.1.2.1, str a0.2.2.2.2.2.2.2.1.2.2, .int .i64 a0.2.2.2.2.2.2.2.2] :: Ro el9 A0a c0a a0.2.2.1.2.1 :: Ro el11 A0b c0b a0.2.2.1.2.2 :: Ro el2 A0c c0c a0.2.2.2.1 :: Cl b2 64 [.int .i64 0, .int .i64 0, str (([] : List UInt8))] :: hs) (fun s4 => ref16_one.k4 a0 s4 = some r) (fun s4 x5 hk4 => ?_) (fun J4 => ?_)
        ·unfold ref16_one.k4 at hk4
         refine A.cd hk4 rfl (fun hb12 hk4 => ?_) (fun hb12 hk4 => ?_)
         ·refine sq ?_
          obtain rfl := inv_some hk4
          refine pk [] 5 ?_
          refine T.ret1 rfl rfl (fun w hS => ⟨(), rfl, hS⟩)
         ·refine sq ?_
          refine A.cd hk4 rfl (fun hb13 hk4 => ?_) (fun hb13 hk4 => ?_)
          ·refine sq ?_
           refine br hk4 (fun hb14 hk4 => ?_) (fun hb14 hk4 => ?_)
           ·refine st ?_
            refine T.eqS .list rfl (wants1 rfl rfl rfl hb14) rfl rfl rfl (by kernel_rfl) (by kernel_rfl) (by kernel_rfl) (l := [(3, 0), (3, 1), (9, 2)]) (by kernel_rfl) (.int rfl rfl (.int rfl rfl (.str rfl rfl .nil))) (b' := (decide (a0.2.2.2.2.2.2.1 = (0, 0, ([] : List UInt8))))) (by rw [Bool.eq_iff_iff]; simp [Prod.ext_iff]) ?_
            refine st ?_
            refine br hk4 (fun hb15 hk4 => ?_) (fun hb15 hk4 => ?_)
            ·refine st ?_
             refine T.eqS .list rfl (wants1 rfl rfl rfl hb15) rfl rfl rfl (by kernel_rfl) (by kernel_rfl) (by kernel_rfl) (l := [(3, 0), (3, 1), (9, 2)]) (by kernel_rfl) (.int rfl rfl (.int rfl rfl (.str rfl rfl .nil))) (b' := (decide (a0.2.2.2.2.2.2.2.1 = (0, 0, ([] : List UInt8))))) (by rw [Bool.eq_iff_iff]; simp [Prod.ext_iff]) ?_
             refine st ?_
             refine br hk4 (fun hb16 hk4 => ?_) (fun hb16 hk4 => ?_)
             ·refine st ?_
              obtain rfl := inv_some hk4
              refine pk [] 5 ?_
              refine T.ret1 rfl rfl (fun w hS => ⟨(), rfl, hS⟩)
             ·refine st ?_
              obtain rfl := inv_some hk4
              refine pk [] 5 ?_
              refine T.ret1 rfl rfl (fun w hS => ⟨(), rfl, hS⟩)
            ·refine st ?_
             obtain rfl := inv_some hk4
             refine pk [] 5 ?_
             refine T.ret1 rfl rfl (fun w hS => ⟨(), rfl, hS⟩)
           ·refine st ?_
            obtain rfl := inv_some hk4
            refine pk [] 5 ?_
            refine T.ret1 rfl rfl (fun w hS => ⟨(), rfl, hS⟩)
          ·refine sq ?_
           refine br hk4 (fun hb17 hk4 => ?_) (fun hb17 hk4 => ?_)
           ·refine st ?_
            refine br hk4 (fun hb18 hk4 => ?_) (fun hb18 hk4 => ?_)
            ·refine st ?_
             refine br hk4 (fun hb19 hk4 => ?_) (fun hb19 hk4 => ?_)
             ·refine st ?_
              refine br hk4 (fun hb20 hk4 => ?_) (fun hb20 hk4 => ?_)
              ·refine st ?_
               obtain ⟨r2, hg2, hk4⟩ := inv_bind hk4
               refine A.c1g rfl rfl hb20 rfl rfl Tryd.func44 rfl (fun w hS => ref14_Small.c hB hS (a0 := a0.2.2.2.2.2.2.1)  hg2) (fun x6 => ?_)
               refine st ?_
               refine br hk4 (fun hb21 hk4 => ?_) (fun hb21 hk4 => ?_)
               ·refine st ?_
                obtain ⟨r3, hg3, hk4⟩ := inv_bind hk4
                refine A.c1g rfl rfl hb21 rfl rfl Tryd.func44 rfl (fun w hS => ref14_Small.c hB hS (a0 := a0.2.2.2.2.2.2.2.1)  hg3) (fun x7 => ?_)
                refine st ?_
                obtain rfl := inv_some hk4
                refine pk [] 5 ?_
                refine T.ret1 rfl rfl (fun w hS => ⟨(), rfl, hS⟩)
               ·refine st ?_
                obtain rfl := inv_some hk4
                refine pk [] 5 ?_
                refine T.ret1 rfl rfl (fun w hS => ⟨(), rfl, hS⟩)
              ·refine st ?_
               obtain rfl := inv_some hk4
               refine pk [] 5 ?_
               refine T.ret1 rfl rfl (fun w hS => ⟨(), rfl, hS⟩)
             ·refine st ?_
              obtain rfl := inv_some hk4
              refine pk [] 5 ?_
              refine T.ret1 rfl rfl (fun w hS => ⟨(), rfl, hS⟩)
            ·refine st ?_
             obtain rfl := inv_some hk4
             refine pk [] 5 ?_
             refine T.ret1 rfl rfl (fun w hS => ⟨(), rfl, hS⟩)
           ·refine st ?_
            obtain rfl := inv_some hk4
            refine pk [] 5 ?_
            refine T.ret1 rfl rfl (fun w hS => ⟨(), rfl, hS⟩)
        ·refine st ?_
         refine br hk3 (fun hb22 hk3 => ?_) (fun hb22 hk3 => ?_)
         ·refine st ?_
          obtain ⟨r4, hg4, hk3⟩ := inv_bind hk3
          refine A.c1g rfl rfl rfl rfl rfl Tryd.func44 rfl (fun w hS => ref14_Small.c hB hS (a0 := a0.2.2.2.2.1)  hg4) (fun x8 => ?_)
          refine T.not .list rfl (wants1 rfl rfl rfl rfl) rfl rfl ?_
          refine sx ?_
          exact jn [0, 1, 2, 3, 4] 5 (J4 (!r4) () hk3)
         ·refine st ?_
          refine br hk3 (fun hb23 hk3 => ?_) (fun hb23 hk3 => ?_)
          ·refine st ?_
           obtain ⟨r5, hg5, hk3⟩ := inv_bind hk3
           refine A.c1g rfl rfl rfl rfl rfl Tryd.func44 rfl (fun w hS => ref14_Small.c hB hS (a0 := a0.2.2.2.2.1)  hg5) (fun x9 => ?_)
           refine T.not .list rfl (wants1 rfl rfl rfl rfl) rfl rfl ?_
           refine sx ?_
           exact jn [0, 1, 2, 3, 4] 5 (J4 (!r5) () hk3)
          ·refine st ?_
           refine T.neS .list rfl (wants1 rfl rfl rfl (not_f hb23)) rfl rfl rfl (by kernel_rfl) (by kernel_rfl) (by kernel_rfl) (l := [(3, 0), (3, 1), (9, 2)]) (by kernel_rfl) (.int rfl rfl (.int rfl rfl (.str rfl rfl .nil))) (b' := (decide (a0.2.2.2.2.1 = (0, 0, ([] : List UInt8))))) (by rw [Bool.eq_iff_iff]; simp [Prod.ext_iff]) ?_
           refine st ?_
           refine br hk3 (fun hb24 hk3 => ?_) (fun hb24 hk3 => ?_)
           ·refine st ?_
            obtain ⟨r6, hg6, hk3⟩ := inv_bind hk3
            refine A.c1g rfl rfl (not_t hb24) rfl rfl Tryd.func44 rfl (fun w hS => ref14_Small.c hB hS (a0 := a0.2.2.2.2.1)  hg6) (fun x10 => ?_)
            refine T.not .list rfl (wants1 rfl rfl rfl (not_t hb24)) rfl rfl ?_
            refine sx ?_
            exact jn [0, 1, 2, 3, 4] 5 (J4 (!r6) () hk3)
           ·refine sx ?_
            exact jn [0, 1, 2, 3, 4] 5 (J4 true () hk3)
      ·refine st ?_
       refine br hk2 (fun hb25 hk2 => ?_) (fun hb25 hk2 => ?_)
       ·refine st ?_
        obtain ⟨r7, hg7, hk2⟩ := inv_bind hk2
        refine A.c1g rfl rfl rfl rfl rfl Tryd.func21 rfl (fun w hS => ref14_RowRight.c hB hS (i0 := 3) rfl hg7) (fun x11 => ?_)
        refine sx ?_
        exact jn [0, 1, 2, 3, 4] 5 (J3 (!(decide (r7 = 0))) () hk2)
       ·refine st ?_
        refine br hk2 (fun hb26 hk2 => ?_) (fun hb26 hk2 => ?_)
        ·refine st ?_
         obtain ⟨r8, hg8, hk2⟩ := inv_bind hk2
         refine A.c1g rfl rfl rfl rfl rfl Tryd.func21 rfl (fun w hS => ref14_RowRight.c hB hS (i0 := 3) rfl hg8) (fun x12 => ?_)
         refine sx ?_
         exact jn [0, 1, 2, 3, 4] 5 (J3 (!(decide (r8 = 0))) () hk2)
        ·refine st ?_
         refine br hk2 (fun hb27 hk2 => ?_) (fun hb27 hk2 => ?_)
         ·refine sx ?_
          exact jn [0, 1, 2, 3, 4] 5 (J3 true () hk2)
         ·refine st ?_
          obtain ⟨r9, hg9, hk2⟩ := inv_bind hk2
          refine A.c1g rfl rfl hb27 rfl rfl Tryd.func21 rfl (fun w hS => ref14_RowRight.c hB hS (i0 := 3) rfl hg9) (fun x13 => ?_)
          refine sx ?_
          exact jn [0, 1, 2, 3, 4] 5 (J3 (!(decide (r9 = 0))) () hk2)
    ·refine st ?_
     obtain ⟨r10, hg10, hk1⟩ := inv_bind hk1
     refine A.c1 rfl rfl Tryd.func76 rfl (fun w hS => ref14_Name.c hB hS  hg10) (fun x14 => ?_)
     refine T.not .list rfl (wants0 rfl) rfl rfl ?_
     refine st ?_
     refine br hk1 (fun hb28 hk1 => ?_) (fun hb28 hk1 => ?_)
     ·refine st ?_
      obtain ⟨r11, hg11, hk1⟩ := inv_bind hk1
      refine A.c1g rfl rfl (not_t hb28) rfl rfl Tryd.func77 rfl (fun w hS => ref16_empty.c hB hS (i0a := 2) (i0b := 3) (a0 := a0.2.2.1) rfl rfl hg11) (fun x15 => ?_)
      refine T.not .list rfl (wants1 rfl rfl rfl (not_t hb28)) rfl rfl ?_
      refine sx ?_
      exact jn [1, 2, 3, 4, 0] 5 (J2 (!r11) () hk1)
     ·refine sx ?_
      exact jn [1, 2, 3, 4, 0] 5 (J2 true () hk1)
 ·refine st ?_
  refine br hr (fun hb29 hr => ?_) (fun hb29 hr => ?_)
  ·refine sx ?_
   exact jn [0, 3, 2, 1] 4 (J1 true () hr)
  ·refine sx ?_
   exact jn [0, 3, 2, 1] 4 (J1 (decide ((6 : Int) < a0.1)) () hr)

noncomputable def ref16_Right.k1 (l0 : List ty7) (s1 : Unit) : Option Bool :=
  some (decide ((((l0.length : Int))) ≤ 3))
noncomputable def ref16_Right.st1 (l0 : List ty7) (s2 : Int) : Option (Int ⊕ (Bool ⊕ Unit)) :=
  (if ((decide (s2 < ((l0.length : Int))))) = true then chk (0 ≤ s2 ∧ s2 < (l0.length : Int)) ((ref16_one.impl ((l0.getD (s2 : Int).toNat default))).bind fun r1 => (if ((!r1)) = true then some (.inr (.inl false)) else some (.inl (IntKind.i64.wrap (s2 + 1))))) else some (.inr (.inr ())))
noncomputable def ref16_Right.impl (l0 : List ty7) : Option Bool :=
  (loop (ref16_Right.st1 l0) 0).bind (fun e1 => match e1 with | .inl v => some v | .inr v => ref16_Right.k1 l0 v)
theorem ref16_Right.c {i0 c0 : Nat} {A0 : Option Addr} {l0 : List ty7} (hB : Base B) (hS : St B (hs) w) (h0 : (hs)[i0]? = some (Ro el17 A0 c0 l0)) {r : Bool} (hr : ref16_Right.impl l0 = some r) :
    Calls Tryd.prog 36 #[.slice A0 l0.length c0] w fun e w' => ∃ x : Unit, e = .returned (.bool r) ∧ St B (hs) w' := by
 unfold ref16_Right.impl at hr
 refine calls_T Tryd.func36 rfl rfl rfl hS ?_
 refine T.front i0 h0 ?_
 refine T.seq ?_
 refine st ?_
 refine T.seqJ (fun (s1 : Unit) (x1 : Unit) => [(0, .slice A0 l0.length c0)]) (fun s1 x1 => Ro el17 A0 c0 l0 :: hs) (fun s1 => ref16_Right.k1 l0 s1 = some r) (fun s1 x1 hk1 => ?_) (fun J1 => ?_)
 ·unfold ref16_Right.k1 at hk1
  refine sq ?_
  obtain rfl := inv_some hk1
  refine pk [] 1 ?_
  refine T.ret1 rfl rfl (fun w hS => ⟨(), rfl, hS⟩)
 ·refine sq ?_
  obtain ⟨e1, hl1, hr⟩ := inv_bind hr
  refine jn [0] 1 (T.loop (s0 := 0) (env := fun s2 x2 => [(0, .slice A0 l0.length c0), (3, .int .i64 s2)]) (hs := fun (s2 : Int) (x2 : Unit) => Ro el17 A0 c0 l0 :: hs) hl1 () (fun K1 s2 x2 o1 he1 hm1 hx1 => ?_))
  unfold ref16_Right.st1 at he1
  refine sq ?_
  refine A.cd he1 rfl (fun hb1 he1 => ?_) (fun hb1 he1 => ?_)
  ·refine sq ?_
   obtain ⟨hc1, he1⟩ := inv_chk he1
   refine T.idxRo .list 0 rfl rfl (wants0 rfl) rfl rfl rfl hc1.1 hc1.2 (Nat.le_refl _) ?_
   refine T.ldFRo 0 .list Fd.self (Sh.pair Sh.sc (Sh.pair Sh.sc (Sh.pair (Sh.pair Sh.sc (Sh.pair Sh.slice Sh.slice)) (Sh.pair Sh.slice (Sh.pair (Sh.pair Sh.sc (Sh.pair Sh.sc Sh.sc)) (Sh.pair Sh.sc (Sh.pair (Sh.pair Sh.sc (Sh.pair Sh.sc Sh.sc)) (Sh.pair (Sh.pair Sh.sc (Sh.pair Sh.sc Sh.sc)) Sh.sc)))))))) rfl (.inl rfl) rfl rfl hc1.1 hc1.2 rfl (wants0 rfl) rfl rfl rfl (v := fun x3 => .agg #[.int .i64 ((((l0.getD (s2 : Int).toNat default)).1)), str ((((l0.getD (s2 : Int).toNat default)).2.1)), str (((((l0.getD (s2 : Int).toNat default)).2.2.1).1)), .slice x3.2.2.1.2.1.1 ((((((l0.getD (s2 : Int).toNat default)).2.2.1).2.1)).length) x3.2.2.1.2.1.2, .slice x3.2.2.1.2.2.1 ((((((l0.getD (s2 : Int).toNat default)).2.2.1).2.2)).length) x3.2.2.1.2.2.2, .slice x3.2.2.2.1.1 (((((l0.getD (s2 : Int).toNat default)).2.2.2.1)).length) x3.2.2.2.1.2, .int .i64 (((((l0.getD (s2 : Int).toNat default)).2.2.2.2.1).1)), .int .i64 (((((l0.getD (s2 : Int).toNat default)).2.2.2.2.1).2.1)), str (((((l0.getD (s2 : Int).toNat default)).2.2.2.2.1).2.2)), .int .i64 ((((l0.getD (s2 : Int).toNat default)).2.2.2.2.2.1)), .int .i64 (((((l0.getD (s2 : Int).toNat default)).2.2.2.2.2.2.1).1)), .int .i64 (((((l0.getD (s2 : Int).toNat default)).2.2.2.2.2.2.1).2.1)), str (((((l0.getD (s2 : Int).toNat default)).2.2.2.2.2.2.1).2.2)), .int .i64 (((((l0.getD (s2 : Int).toNat default)).2.2.2.2.2.2.2.1).1)), .int .i64 (((((l0.getD (s2 : Int).toNat default)).2.2.2.2.2.2.2.1).2.1)), str (((((l0.getD (s2 : Int).toNat default)).2.2.2.2.2.2.2.1).2.2)), .int .i64 ((((l0.getD (s2 : Int).toNat default)).2.2.2.2.2.2.2.2))]) (hs' := fun x3 => Ro el9 x3.2.2.1.2.1.1 x3.2.2.1.2.1.2 (((((l0.getD (s2 : Int).toNat default)).2.2.1).2.1)) :: Ro el11 x3.2.2.1.2.2.1 x3.2.2.1.2.2.2 (((((l0.getD (s2 : Int).toNat default)).2.2.1).2.2)) :: Ro el2 x3.2.2.2.1.1 x3.2.2.2.1.2 ((((l0.getD (s2 : Int).toNat default)).2.2.2.1)) :: Ro el17 A0 c0 l0 :: hs) (fun _ => rfl) (fun _ => rfl) (fun x3 => ?_)
   obtain ⟨r1, hg1, he1⟩ := inv_bind he1
   refine A.c1 rfl rfl Tryd.func56 rfl (fun w hS => ref16_one.c hB hS (i0a := 0) (i0b := 1) (i0c := 2) (a0 := (l0.getD (s2 : Int).toNat default)) rfl rfl rfl hg1) (fun x4 => ?_)
   refine T.not .list rfl (wants0 rfl) rfl rfl ?_
   refine st ?_
   refine A.cd he1 rfl (fun hb2 he1 => ?_) (fun hb2 he1 => ?_)
   ·refine sq ?_
    obtain rfl := inv_some he1
    obtain rfl := hx1 _ rfl
    refine st ?_
    obtain rfl := inv_some hr
    refine pk [] 4 ?_
    refine T.ret1 rfl rfl (fun w hS => ⟨(), rfl, hS⟩)
   ·refine T.skip ?_
    refine sx ?_
    refine T.region ?_
    refine sx ?_
    obtain rfl := inv_some he1
    exact jn [3] 4 (hm1 (IntKind.i64.wrap (s2 + 1)) rfl ())
  ·refine T.exit ?_
   refine sx ?_
   obtain rfl := inv_some he1
   obtain rfl := hx1 _ rfl
   refine sx ?_
   exact jn [0] 1 (J1 () () hr)

noncomputable def ref16_SameOps.k1 (s1 : Unit) : Option Bool :=
  some true
noncomputable def ref16_SameOps.k3 (s2 : Int) (s4 : Bool) : Option (Int ⊕ (Bool ⊕ Unit)) :=
  (if s4 = true then some (.inr (.inl false)) else some (.inl (IntKind.i64.wrap (s2 + 1))))
noncomputable def ref16_SameOps.k2 (l0 : List ty7) (s2 : Int) (l1 : List ty7) (s3 : (List ty5) × (List ty0) × (List ty4) × (List ty5) × (List ty0) × (List ty4)) : Option (Int ⊕ (Bool ⊕ Unit)) :=
  (if ((decide ((((((l0.getD (s2 : Int).toNat default)).1))) = ((((l1.getD (s2 : Int).toNat default)).1))))) = true then (if ((decide (((((l0.getD (s2 : Int).toNat default)).2.1)) = ((((l1.getD (s2 : Int).toNat default)).2.1))))) = true then (if ((decide ((((((l0.getD (s2 : Int).toNat default)).2.2.2.2.1).1), ((((l0.getD (s2 : Int).toNat default)).2.2.2.2.1).2.1), ((((l0.getD (s2 : Int).toNat default)).2.2.2.2.1).2.2)) = (((((l1.getD (s2 : Int).toNat default)).2.2.2.2.1).1), ((((l1.getD (s2 : Int).toNat default)).2.2.2.2.1).2.1), ((((l1.getD (s2 : Int).toNat default)).2.2.2.2.1).2.2))))) = true then (if ((decide ((((((l0.getD (s2 : Int).toNat default)).2.2.2.2.2.1))) = ((((l1.getD (s2 : Int).toNat default)).2.2.2.2.2.1))))) = true then (if ((decide ((((((l0.getD (s2 : Int).toNat default)).2.2.2.2.2.2.1).1), ((((l0.getD (s2 : Int).toNat default)).2.2.2.2.2.2.1).2.1), ((((l0.getD (s2 : Int).toNat default)).2.2.2.2.2.2.1).2.2)) = (((((l1.getD (s2 : Int).toNat default)).2.2.2.2.2.2.1).1), ((((l1.getD (s2 : Int).toNat default)).2.2.2.2.2.2.1).2.1), ((((l1.getD (s2 : Int).toNat default)).2.2.2.2.2.2.1).2.2))))) = true then (if ((decide ((((((l0.getD (s2 : Int).toNat default)).2.2.2.2.2.2.2.1).1), ((((l0.getD (s2 : Int).toNat default)).2.2.2.2.2.2.2.1).2.1), ((((l0.getD (s2 : Int).toNat default)).2.2.2.2.2.2.2.1).2.2)) = (((((l1.getD (s2 : Int).toNat default)).2.2.2.2.2.2.2.1).1), ((((l1.getD (s2 : Int).toNat default)).2.2.2.2.2.2.2.1).2.1), ((((l1.getD (s2 : Int).toNat default)).2.2.2.2.2.2.2.1).2.2))))) = true then (if ((decide ((((((l0.getD (s2 : Int).toNat default)).2.2.2.2.2.2.2.2))) = ((((l1.getD (s2 : Int).toNat default)).2.2.2.2.2.2.2.2))))) = true then (ref14_Same.impl ((((((l0.getD (s2 : Int).toNat default)).2.2.1).1), s3.1, s3.2.1)) ((((((l1.getD (s2 : Int).toNat default)).2.2.1).1), s3.2.2.2.1, s3.2.2.2.2.1))).bind fun r1 => (if r1 = true then (ref2_Same.impl s3.2.2.1 s3.2.2.2.2.2).bind fun r2 => ref16_SameOps.k3 s2 (!r2) else ref16_SameOps.k3 s2 true) else ref16_SameOps.k3 s2 true) else ref16_SameOps.k3 s2 true) else ref16_SameOps.k3 s2 true) else ref16_SameOps.k3 s2 true) else ref16_SameOps.k3 s2 true) else ref16_SameOps.k3 s2 true) else ref16_SameOps.k3 s2 true)
noncomputable def ref16_SameOps.st1 (l0 : List ty7) (l1 : List ty7) (s2 : Int) : Option (Int ⊕ (Bool ⊕ Unit)) :=
  (if ((decide (s2 < ((l0.length : Int))))) = true then chk (0 ≤ s2 ∧ s2 < (l0.length : Int)) (chk (0 ≤ s2 ∧ s2 < (l1.length : Int)) (ref16_SameOps.k2 l0 s2 l1 (((((l0.getD (s2 : Int).toNat default)).2.2.1).2.1), ((((l0.getD (s2 : Int).toNat default)).2.2.1).2.2), (((l0.getD (s2 : Int).toNat default)).2.2.2.1), ((((l1.getD (s2 : Int).toNat default)).2.2.1).2.1), ((((l1.getD (s2 : Int).toNat default)).2.2.1).2.2), (((l1.getD (s2 : Int).toNat default)).2.2.2.1)))) else some (.inr (.inr ())))
noncomputable def ref16_SameOps.impl (l0 : List ty7) (l1 : List ty7) : Option Bool :=
  (if ((!(decide ((((l0.length : Int))) = ((l1.length : Int)))))) = true then some false else (loop (ref16_SameOps.st1 l0 l1) 0).bind (fun e1 => match e1 with | .inl v => some v | .inr v => ref16_SameOps.k1 v))
theorem ref16_SameOps.c {i0 c0 : Nat} {A0 : Option Addr} {l0 : List ty7} {i1 c1 : Nat} {A1 : Option Addr} {l1 : List ty7} (hB : Base B) (hS : St B (hs) w) (h0 : (hs)[i0]? = some (Ro el17 A0 c0 l0)) (h1 : (hs)[i1]? = some (Ro el17 A1 c1 l1)) {r : Bool} (hr : ref16_SameOps.impl l0 l1 = some r) :
    Calls Tryd.prog 41 #[.slice A0 l0.length c0, .slice A1 l1.length c1] w fun e w' => ∃ x : Unit, e = .returned (.bool r) ∧ St B (hs) w' := by
 unfold ref16_SameOps.impl at hr
 refine calls_T Tryd.func41 rfl rfl rfl hS ?_
 refine T.front i0 h0 ?_
 refine T.front (i1 + 1) h1 ?_
 refine sq ?_
 refine A.cd hr rfl (fun hb1 hr => ?_) (fun hb1 hr => ?_)
 ·refine sq ?_
  obtain rfl := inv_some hr
  refine pk [] 2 ?_
  refine T.ret1 rfl rfl (fun w hS => ⟨(), rfl, hS⟩)
 ·refine st ?_
  refine T.seqJ (fun (s1 : Unit) (x1 : Unit) => []) (fun s1 x1 => hs) (fun s1 => ref16_SameOps.k1 s1 = some r) (fun s1 x1 hk1 => ?_) (fun J1 => ?_)
  ·unfold ref16_SameOps.k1 at hk1
   refine sq ?_
   obtain rfl := inv_some hk1
   refine pk [] 0 ?_
   refine T.ret1 rfl rfl (fun w hS => ⟨(), rfl, hS⟩)
  ·refine sq ?_
   obtain ⟨e1, hl1, hr⟩ := inv_bind hr
   refine jn [1, 0] 2 (T.loop (s0 := 0) (env := fun s2 x2 => [(0, .slice A0 l0.length c0), (1, .slice A1 l1.length c1), (5, .int .i64 s2)]) (hs := fun (s2 : Int) (x2 : Unit) => Ro el17 A0 c0 l0 :: Ro el17 A1 c1 l1 :: hs) hl1 () (fun K1 s2 x2 o1 he1 hm1 hx1 => ?_))
   unfold ref16_SameOps.st1 at he1
   refine sq ?_
   refine A.cd he1 rfl (fun hb2 he1 => ?_) (fun hb2 he1 => ?_)
   ·refine st ?_
    refine T.seq ?_
    refine st ?_
    refine T.seqJ (fun (s3 : (List ty5) × (List ty0) × (List ty4) × (List ty5) × (List ty0) × (List ty4)) (x3 : (Nat) × ty3 × ty3 × ty3 × (Nat) × ty3 × ty3 × ty3) => [(0, .slice A0 l0.length c0), (1, .slice A1 l1.length c1), (5, .int .i64 s2), (6, .pointer (some ⟨x3.1, 0, none⟩)), (7, .pointer (some ⟨x3.2.2.2.2.1, 0, none⟩))]) (fun s3 x3 => Ro el17 A0 c0 l0 :: Ro el17 A1 c1 l1 :: Cl x3.1 66 [.int .i64 ((((l0.getD (s2 : Int).toNat default)).1)), str ((((l0.getD (s2 : Int).toNat default)).2.1)), str (((((l0.getD (s2 : Int).toNat default)).2.2.1).1)), .slice x3.2.1.1 s3.1.length x3.2.1.2, .slice x3.2.2.1.1 s3.2.1.length x3.2.2.1.2, .slice x3.2.2.2.1.1 s3.2.2.1.length x3.2.2.2.1.2, .int .i64 (((((l0.getD (s2 : Int).toNat default)).2.2.2.2.1).1)), .int .i64 (((((l0.getD (s2 : Int).toNat default)).2.2.2.2.1).2.1)), str (((((l0.getD (s2 : Int).toNat default)).2.2.2.2.1).2.2)), .int .i64 ((((l0.getD (s2 : Int).toNat default)).2.2.2.2.2.1)), .int .i64 (((((l0.getD (s2 : Int).toNat default)).2.2.2.2.2.2.1).1)), .int .i64 (((((l0.getD (s2 : Int).toNat default)).2.2.2.2.2.2.1).2.1)), str (((((l0.getD (s2 : Int).toNat default)).2.2.2.2.2.2.1).2.2)), .int .i64 (((((l0.getD (s2 : Int).toNat default)).2.2.2.2.2.2.2.1).1)), .int .i64 (((((l0.getD (s2 : Int).toNat default)).2.2.2.2.2.2.2.1).2.1)), str (((((l0.getD (s2 : Int).toNat default)).2.2.2.2.2.2.2.1).2.2)), .int .i64 ((((l0.getD (s2 : Int).toNat default)).2.2.2.2.2.2.2.2))] :: Ro el9 x3.2.1.1 x3.2.1.2 s3.1 :: Ro el11 x3.2.2.1.1 x3.2.2.1.2 s3.2.1 :: Ro el2 x3.2.2.2.1.1 x3.2.2.2.1.2 s3.2.2.1 :: Cl x3.2.2.2.2.1 66 [.int .i64 ((((l1.getD (s2 : Int).toNat default)).1)), str ((((l1.getD (s2 : Int).toNat default)).2.1)), str (((((l1.getD (s2 : Int).toNat default)).2.2.1).1)), .slice x3.2.2.2.2.2.1.1 s3.2.2.2.1.length x3.2.2.2.2.2.1.2, .slice x3.2.2.2.2.2.2.1.1 s3.2.2.2.2.1.length x3.2.2.2.2.2.2.1.2, .slice x3.2.2.2.2.2.2.2.1 s3.2.2.2.2.2.length x3.2.2.2.2.2.2.2.2, .int .i64 (((((l1.getD (s2 : Int).toNat default)).2.2.2.2.1).1)), .int .i64 (((((l1.getD (s2 : Int).toNat default)).2.2.2.2.1).2.1)), str (((((l1.getD (s2 : Int).toNat default)).2.2.2.2.1).2.2)), .int .i64 ((((l1.getD (s2 : Int).toNat default)).2.2.2.2.2.1)), .int .i64 (((((l1.getD (s2 : Int).toNat default)).2.2.2.2.2.2.1).1)), .int .i64 (((((l1.getD (s2 : Int).toNat default)).2.2.2.2.2.2.1).2.1)), str (((((l1.getD (s2 : Int).toNat default)).2.2.2.2.2.2.1).2.2)), .int .i64 (((((l1.getD (s2 : Int).toNat default)).2.2.2.2.2.2.2.1).1)), .int .i64 (((((l1.getD (s2 : Int).toNat default)).2.2.2.2.2.2.2.1).2.1)), str (((((l1.getD (s2 : Int).toNat default)).2.2.2.2.2.2.2.1).2.2)), .int .i64 ((((l1.getD (s2 : Int).toNat default)).2.2.2.2.2.2.2.2))] :: Ro el9 x3.2.2.2.2.2.1.1 x3.2.2.2.2.2.1.2 s3.2.2.2.1 :: Ro el11 x3.2.2.2.2.2.2.1.1 x3.2.2.2.2.2.2.1.2 s3.2.2.2.2.1 :: Ro el2 x3.2.2.2.2.2.2.2.1 x3.2.2.2.2.2.2.2.2 s3.2.2.2.2.2 :: hs) (fun s3 => ref16_SameOps.k2 l0 s2 l1 s3 = some o1) (fun s3 x3 hk2 => ?_) (fun J2 => ?_)
    ·unfold ref16_SameOps.k2 at hk2
     refine T.seqJ (fun (s4 : Bool) (x4 : Unit) => [(0, .slice A0 l0.length c0), (1, .slice A1 l1.length c1), (5, .int .i64 s2), (89, .bool s4)]) (fun s4 x4 => Ro el17 A0 c0 l0 :: Ro el17 A1 c1 l1 :: hs) (fun s4 => ref16_SameOps.k3 s2 s4 = some o1) (fun s4 x4 hk3 => ?_) (fun J3 => ?_)
     ·unfold ref16_SameOps.k3 at hk3
      refine A.cd hk3 rfl (fun hb3 hk3 => ?_) (fun hb3 hk3 => ?_)
      ·refine sq ?_
       obtain rfl := inv_some hk3
       obtain rfl := hx1 _ rfl
       refine st ?_
       obtain rfl := inv_some hr
       refine pk [] 2 ?_
       refine T.ret1 rfl rfl (fun w hS => ⟨(), rfl, hS⟩)
      ·refine T.skip ?_
       refine sx ?_
       refine T.region ?_
       refine sx ?_
       obtain rfl := inv_some hk3
       exact jn [0, 1] 2 (hm1 (IntKind.i64.wrap (s2 + 1)) rfl ())
     ·refine st ?_
      refine br hk2 (fun hb4 hk2 => ?_) (fun hb4 hk2 => ?_)
      ·refine st ?_
       refine T.strNe .list rfl (wants1 rfl rfl rfl (not_t hb4)) rfl (l := ((((l0.getD (s2 : Int).toNat default)).2.1))) (l' := ((((l1.getD (s2 : Int).toNat default)).2.1))) rfl rfl ?_
       refine st ?_
       refine br hk2 (fun hb5 hk2 => ?_) (fun hb5 hk2 => ?_)
       ·refine st ?_
        refine T.neS .list rfl (wants1 rfl rfl rfl (not_t hb5)) rfl rfl rfl (by kernel_rfl) (by kernel_rfl) (by kernel_rfl) (l := [(3, 0), (3, 1), (9, 2)]) (by kernel_rfl) (.int rfl rfl (.int rfl rfl (.str rfl rfl .nil))) (b' := (decide ((((((l0.getD (s2 : Int).toNat default)).2.2.2.2.1).1), ((((l0.getD (s2 : Int).toNat default)).2.2.2.2.1).2.1), ((((l0.getD (s2 : Int).toNat default)).2.2.2.2.1).2.2)) = (((((l1.getD (s2 : Int).toNat default)).2.2.2.2.1).1), ((((l1.getD (s2 : Int).toNat default)).2.2.2.2.1).2.1), ((((l1.getD (s2 : Int).toNat default)).2.2.2.2.1).2.2))))) (by rw [Bool.eq_iff_iff]; simp [Prod.ext_iff]) ?_
        refine st ?_
        refine br hk2 (fun hb6 hk2 => ?_) (fun hb6 hk2 => ?_)
        ·refine st ?_
         refine br hk2 (fun hb7 hk2 => ?_) (fun hb7 hk2 => ?_)
         ·refine st ?_
          refine T.neS .list rfl (wants1 rfl rfl rfl (not_t hb7)) rfl rfl rfl (by kernel_rfl) (by kernel_rfl) (by kernel_rfl) (l := [(3, 0), (3, 1), (9, 2)]) (by kernel_rfl) (.int rfl rfl (.int rfl rfl (.str rfl rfl .nil))) (b' := (decide ((((((l0.getD (s2 : Int).toNat default)).2.2.2.2.2.2.1).1), ((((l0.getD (s2 : Int).toNat default)).2.2.2.2.2.2.1).2.1), ((((l0.getD (s2 : Int).toNat default)).2.2.2.2.2.2.1).2.2)) = (((((l1.getD (s2 : Int).toNat default)).2.2.2.2.2.2.1).1), ((((l1.getD (s2 : Int).toNat default)).2.2.2.2.2.2.1).2.1), ((((l1.getD (s2 : Int).toNat default)).2.2.2.2.2.2.1).2.2))))) (by rw [Bool.eq_iff_iff]; simp [Prod.ext_iff]) ?_
          refine st ?_
          refine br hk2 (fun hb8 hk2 => ?_) (fun hb8 hk2 => ?_)
          ·refine st ?_
           refine T.neS .list rfl (wants1 rfl rfl rfl (not_t hb8)) rfl rfl rfl (by kernel_rfl) (by kernel_rfl) (by kernel_rfl) (l := [(3, 0), (3, 1), (9, 2)]) (by kernel_rfl) (.int rfl rfl (.int rfl rfl (.str rfl rfl .nil))) (b' := (decide ((((((l0.getD (s2 : Int).toNat default)).2.2.2.2.2.2.2.1).1), ((((l0.getD (s2 : Int).toNat default)).2.2.2.2.2.2.2.1).2.1), ((((l0.getD (s2 : Int).toNat default)).2.2.2.2.2.2.2.1).2.2)) = (((((l1.getD (s2 : Int).toNat default)).2.2.2.2.2.2.2.1).1), ((((l1.getD (s2 : Int).toNat default)).2.2.2.2.2.2.2.1).2.1), ((((l1.getD (s2 : Int).toNat default)).2.2.2.2.2.2.2.1).2.2))))) (by rw [Bool.eq_iff_iff]; simp [Prod.ext_iff]) ?_
           refine st ?_
           refine br hk2 (fun hb9 hk2 => ?_) (fun hb9 hk2 => ?_)
           ·refine st ?_
            refine br hk2 (fun hb10 hk2 => ?_) (fun hb10 hk2 => ?_)
            ·refine st ?_
             obtain ⟨r1, hg1, hk2⟩ := inv_bind hk2
             refine A.c2g rfl rfl (not_t hb10) rfl rfl rfl Tryd.func59 rfl (fun w hS => ref14_Same.c hB hS (i0a := 3) (i0b := 4) (i1a := 7) (i1b := 8) (a0 := (((((l0.getD (s2 : Int).toNat default)).2.2.1).1), s3.1, s3.2.1)) (a1 := (((((l1.getD (s2 : Int).toNat default)).2.2.1).1), s3.2.2.2.1, s3.2.2.2.2.1)) rfl rfl rfl rfl hg1) (fun x5 => ?_)
             refine T.not .list rfl (wants1 rfl rfl rfl (not_t hb10)) rfl rfl ?_
             refine st ?_
             refine br hk2 (fun hb11 hk2 => ?_) (fun hb11 hk2 => ?_)
             ·refine st ?_
              obtain ⟨r2, hg2, hk2⟩ := inv_bind hk2
              refine A.c2g rfl rfl (not_t hb11) rfl rfl rfl Tryd.func48 rfl (fun w hS => ref2_Same.c hB hS (i0 := 5) (i1 := 9) rfl rfl hg2) (fun x6 => ?_)
              refine T.not .list rfl (wants1 rfl rfl rfl (not_t hb11)) rfl rfl ?_
              refine sx ?_
              exact jn [0, 1] 10 (J3 (!r2) () hk2)
             ·refine sx ?_
              exact jn [0, 1] 10 (J3 true () hk2)
            ·refine sx ?_
             exact jn [0, 1] 10 (J3 true () hk2)
           ·refine sx ?_
            exact jn [0, 1] 10 (J3 true () hk2)
          ·refine sx ?_
           exact jn [0, 1] 10 (J3 true () hk2)
         ·refine sx ?_
          exact jn [0, 1] 10 (J3 true () hk2)
        ·refine sx ?_
         exact jn [0, 1] 10 (J3 true () hk2)
       ·refine sx ?_
        exact jn [0, 1] 10 (J3 true () hk2)
      ·refine sx ?_
       exact jn [0, 1] 10 (J3 true () hk2)
    ·refine T.dStart mixed ?_
     refine D.mv 0 ?_
     refine D.mv 1 ?_
     obtain ⟨hc1, he1⟩ := inv_chk he1
     refine T.idxRo (.dPure (i := 2) rfl (by kernel_rfl) (fun d _ _ _ _ h => by cases d <;> exact h)) 0 rfl rfl (wants0 rfl) rfl rfl rfl hc1.1 hc1.2 (Nat.le_refl _) ?_
     refine D.mv 4 ?_
     refine D.mv 5 ?_
     obtain ⟨hc2, he1⟩ := inv_chk he1
     refine T.idxRo (.dPure (i := 6) rfl (by kernel_rfl) (fun d _ _ _ _ h => by cases d <;> exact h)) 1 rfl rfl (wants0 rfl) rfl rfl rfl hc2.1 hc2.2 (Nat.le_refl _) ?_
     refine T.openEl 0 (j := s2) (Sh.pair Sh.sc (Sh.pair Sh.sc (Sh.pair (Sh.pair Sh.sc (Sh.pair Sh.slice Sh.slice)) (Sh.pair Sh.slice (Sh.pair (Sh.pair Sh.sc (Sh.pair Sh.sc Sh.sc)) (Sh.pair Sh.sc (Sh.pair (Sh.pair Sh.sc (Sh.pair Sh.sc Sh.sc)) (Sh.pair (Sh.pair Sh.sc (Sh.pair Sh.sc Sh.sc)) Sh.sc)))))))) rfl hc1.1 hc1.2 (v := fun x7 => [.int .i64 ((((l0.getD (s2 : Int).toNat default)).1)), str ((((l0.getD (s2 : Int).toNat default)).2.1)), str (((((l0.getD (s2 : Int).toNat default)).2.2.1).1)), .slice x7.2.2.1.2.1.1 ((((((l0.getD (s2 : Int).toNat default)).2.2.1).2.1)).length) x7.2.2.1.2.1.2, .slice x7.2.2.1.2.2.1 ((((((l0.getD (s2 : Int).toNat default)).2.2.1).2.2)).length) x7.2.2.1.2.2.2, .slice x7.2.2.2.1.1 (((((l0.getD (s2 : Int).toNat default)).2.2.2.1)).length) x7.2.2.2.1.2, .int .i64 (((((l0.getD (s2 : Int).toNat default)).2.2.2.2.1).1)), .int .i64 (((((l0.getD (s2 : Int).toNat default)).2.2.2.2.1).2.1)), str (((((l0.getD (s2 : Int).toNat default)).2.2.2.2.1).2.2)), .int .i64 ((((l0.getD (s2 : Int).toNat default)).2.2.2.2.2.1)), .int .i64 (((((l0.getD (s2 : Int).toNat default)).2.2.2.2.2.2.1).1)), .int .i64 (((((l0.getD (s2 : Int).toNat default)).2.2.2.2.2.2.1).2.1)), str (((((l0.getD (s2 : Int).toNat default)).2.2.2.2.2.2.1).2.2)), .int .i64 (((((l0.getD (s2 : Int).toNat default)).2.2.2.2.2.2.2.1).1)), .int .i64 (((((l0.getD (s2 : Int).toNat default)).2.2.2.2.2.2.2.1).2.1)), str (((((l0.getD (s2 : Int).toNat default)).2.2.2.2.2.2.2.1).2.2)), .int .i64 ((((l0.getD (s2 : Int).toNat default)).2.2.2.2.2.2.2.2))]) (hs' := fun x7 => Ro el9 x7.2.2.1.2.1.1 x7.2.2.1.2.1.2 (((((l0.getD (s2 : Int).toNat default)).2.2.1).2.1)) :: Ro el11 x7.2.2.1.2.2.1 x7.2.2.1.2.2.2 (((((l0.getD (s2 : Int).toNat default)).2.2.1).2.2)) :: Ro el2 x7.2.2.2.1.1 x7.2.2.2.1.2 ((((l0.getD (s2 : Int).toNat default)).2.2.2.1)) :: Ro el17 A0 c0 l0 :: Ro el17 A1 c1 l1 :: hs) (fun _ => rfl) (fun _ => rfl) (fun z1 x7 hk4 => ?_)
     refine T.dAdd 12 (fun w => PH.le z1 (PH.of w)) (Kp.le 0 rfl) ?_
     refine T.valS 0 (i := 3) (.agg #[.int .i64 ((((l0.getD (s2 : Int).toNat default)).1)), str ((((l0.getD (s2 : Int).toNat default)).2.1)), str (((((l0.getD (s2 : Int).toNat default)).2.2.1).1)), .slice x7.2.2.1.2.1.1 ((((((l0.getD (s2 : Int).toNat default)).2.2.1).2.1)).length) x7.2.2.1.2.1.2, .slice x7.2.2.1.2.2.1 ((((((l0.getD (s2 : Int).toNat default)).2.2.1).2.2)).length) x7.2.2.1.2.2.2, .slice x7.2.2.2.1.1 (((((l0.getD (s2 : Int).toNat default)).2.2.2.1)).length) x7.2.2.2.1.2, .int .i64 (((((l0.getD (s2 : Int).toNat default)).2.2.2.2.1).1)), .int .i64 (((((l0.getD (s2 : Int).toNat default)).2.2.2.2.1).2.1)), str (((((l0.getD (s2 : Int).toNat default)).2.2.2.2.1).2.2)), .int .i64 ((((l0.getD (s2 : Int).toNat default)).2.2.2.2.2.1)), .int .i64 (((((l0.getD (s2 : Int).toNat default)).2.2.2.2.2.2.1).1)), .int .i64 (((((l0.getD (s2 : Int).toNat default)).2.2.2.2.2.2.1).2.1)), str (((((l0.getD (s2 : Int).toNat default)).2.2.2.2.2.2.1).2.2)), .int .i64 (((((l0.getD (s2 : Int).toNat default)).2.2.2.2.2.2.2.1).1)), .int .i64 (((((l0.getD (s2 : Int).toNat default)).2.2.2.2.2.2.2.1).2.1)), str (((((l0.getD (s2 : Int).toNat default)).2.2.2.2.2.2.2.1).2.2)), .int .i64 ((((l0.getD (s2 : Int).toNat default)).2.2.2.2.2.2.2.2))]) rfl rfl (by kernel_rfl) (by kernel_rfl) (fun d _ _ _ _ h => by cases d <;> exact h) (wants0 rfl) rfl (run_ldSl hk4 rfl rfl) ?_
     refine T.openEl 5 (j := s2) (Sh.pair Sh.sc (Sh.pair Sh.sc (Sh.pair (Sh.pair Sh.sc (Sh.pair Sh.slice Sh.slice)) (Sh.pair Sh.slice (Sh.pair (Sh.pair Sh.sc (Sh.pair Sh.sc Sh.sc)) (Sh.pair Sh.sc (Sh.pair (Sh.pair Sh.sc (Sh.pair Sh.sc Sh.sc)) (Sh.pair (Sh.pair Sh.sc (Sh.pair Sh.sc Sh.sc)) Sh.sc)))))))) rfl hc2.1 hc2.2 (v := fun x8 => [.int .i64 ((((l1.getD (s2 : Int).toNat default)).1)), str ((((l1.getD (s2 : Int).toNat default)).2.1)), str (((((l1.getD (s2 : Int).toNat default)).2.2.1).1)), .slice x8.2.2.1.2.1.1 ((((((l1.getD (s2 : Int).toNat default)).2.2.1).2.1)).length) x8.2.2.1.2.1.2, .slice x8.2.2.1.2.2.1 ((((((l1.getD (s2 : Int).toNat default)).2.2.1).2.2)).length) x8.2.2.1.2.2.2, .slice x8.2.2.2.1.1 (((((l1.getD (s2 : Int).toNat default)).2.2.2.1)).length) x8.2.2.2.1.2, .int .i64 (((((l1.getD (s2 : Int).toNat default)).2.2.2.2.1).1)), .int .i64 (((((l1.getD (s2 : Int).toNat default)).2.2.2.2.1).2.1)), str (((((l1.getD (s2 : Int).toNat default)).2.2.2.2.1).2.2)), .int .i64 ((((l1.getD (s2 : Int).toNat default)).2.2.2.2.2.1)), .int .i64 (((((l1.getD (s2 : Int).toNat default)).2.2.2.2.2.2.1).1)), .int .i64 (((((l1.getD (s2 : Int).toNat default)).2.2.2.2.2.2.1).2.1)), str (((((l1.getD (s2 : Int).toNat default)).2.2.2.2.2.2.1).2.2)), .int .i64 (((((l1.getD (s2 : Int).toNat default)).2.2.2.2.2.2.2.1).1)), .int .i64 (((((l1.getD (s2 : Int).toNat default)).2.2.2.2.2.2.2.1).2.1)), str (((((l1.getD (s2 : Int).toNat default)).2.2.2.2.2.2.2.1).2.2)), .int .i64 ((((l1.getD (s2 : Int).toNat default)).2.2.2.2.2.2.2.2))]) (hs' := fun x8 => Ro el9 x8.2.2.1.2.1.1 x8.2.2.1.2.1.2 (((((l1.getD (s2 : Int).toNat default)).2.2.1).2.1)) :: Ro el11 x8.2.2.1.2.2.1 x8.2.2.1.2.2.2 (((((l1.getD (s2 : Int).toNat default)).2.2.1).2.2)) :: Ro el2 x8.2.2.2.1.1 x8.2.2.2.1.2 ((((l1.getD (s2 : Int).toNat default)).2.2.2.1)) :: Kp z1 :: Ro el9 x7.2.2.1.2.1.1 x7.2.2.1.2.1.2 (((((l0.getD (s2 : Int).toNat default)).2.2.1).2.1)) :: Ro el11 x7.2.2.1.2.2.1 x7.2.2.1.2.2.2 (((((l0.getD (s2 : Int).toNat default)).2.2.1).2.2)) :: Ro el2 x7.2.2.2.1.1 x7.2.2.2.1.2 ((((l0.getD (s2 : Int).toNat default)).2.2.2.1)) :: Ro el17 A0 c0 l0 :: Ro el17 A1 c1 l1 :: hs) (fun _ => rfl) (fun _ => rfl) (fun z2 x8 hk5 => ?_)
     refine T.dAdd 12 (fun w => PH.le z2 (PH.of w)) (Kp.le 0 rfl) ?_
     refine T.valS 0 (i := 7) (.agg #[.int .i64 ((((l1.getD (s2 : Int).toNat default)).1)), str ((((l1.getD (s2 : Int).toNat default)).2.1)), str (((((l1.getD (s2 : Int).toNat default)).2.2.1).1)), .slice x8.2.2.1.2.1.1 ((((((l1.getD (s2 : Int).toNat default)).2.2.1).2.1)).length) x8.2.2.1.2.1.2, .slice x8.2.2.1.2.2.1 ((((((l1.getD (s2 : Int).toNat default)).2.2.1).2.2)).length) x8.2.2.1.2.2.2, .slice x8.2.2.2.1.1 (((((l1.getD (s2 : Int).toNat default)).2.2.2.1)).length) x8.2.2.2.1.2, .int .i64 (((((l1.getD (s2 : Int).toNat default)).2.2.2.2.1).1)), .int .i64 (((((l1.getD (s2 : Int).toNat default)).2.2.2.2.1).2.1)), str (((((l1.getD (s2 : Int).toNat default)).2.2.2.2.1).2.2)), .int .i64 ((((l1.getD (s2 : Int).toNat default)).2.2.2.2.2.1)), .int .i64 (((((l1.getD (s2 : Int).toNat default)).2.2.2.2.2.2.1).1)), .int .i64 (((((l1.getD (s2 : Int).toNat default)).2.2.2.2.2.2.1).2.1)), str (((((l1.getD (s2 : Int).toNat default)).2.2.2.2.2.2.1).2.2)), .int .i64 (((((l1.getD (s2 : Int).toNat default)).2.2.2.2.2.2.2.1).1)), .int .i64 (((((l1.getD (s2 : Int).toNat default)).2.2.2.2.2.2.2.1).2.1)), str (((((l1.getD (s2 : Int).toNat default)).2.2.2.2.2.2.2.1).2.2)), .int .i64 ((((l1.getD (s2 : Int).toNat default)).2.2.2.2.2.2.2.2))]) rfl rfl (by kernel_rfl) (by kernel_rfl) (fun d _ _ _ _ h => by cases d <;> exact h) (wants0 rfl) rfl (run_ldSl hk5 rfl rfl) ?_
     refine T.d2 (i := 8) (j := 9) (by kernel_rfl) ?_ ?_ 
     ·refine T.allocS (.dOne rfl (by kernel_rfl)) rfl (wants0 rfl) rfl (cs := [.int .i64 0, str (([] : List UInt8)), str (([] : List UInt8)), .slice none 0 0, .slice none 0 0, .slice none 0 0, .int .i64 0, .int .i64 0, str (([] : List UInt8)), .int .i64 0, .int .i64 0, .int .i64 0, str (([] : List UInt8)), .int .i64 0, .int .i64 0, str (([] : List UInt8)), .int .i64 0]) rfl (fun b1 => ?_)
      refine T.dNext (phi_cons (.inr (Kp.le 1 rfl)) (phi_cons (.inr (Kp.le 5 rfl)) phi_nil)) ?_
      refine D.on 9 ?_
      refine T.allocS (.dOne rfl (by kernel_rfl)) rfl (wants0 rfl) rfl (cs := [.int .i64 0, str (([] : List UInt8)), str (([] : List UInt8)), .slice none 0 0, .slice none 0 0, .slice none 0 0, .int .i64 0, .int .i64 0, str (([] : List UInt8)), .int .i64 0, .int .i64 0, .int .i64 0, str (([] : List UInt8)), .int .i64 0, .int .i64 0, str (([] : List UInt8)), .int .i64 0]) rfl (fun b2 => ?_)
      refine T.dNext (phi_cons (.inr (Kp.le 2 rfl)) (phi_cons (.inr (Kp.le 6 rfl)) phi_nil)) ?_
      refine D.on 10 ?_
      refine T.store (.dOne rfl (by kernel_rfl)) 1 rfl rfl (wants0 rfl) rfl rfl rfl rfl (Nat.le_of_ble_eq_true rfl) rfl (cs' := [.int .i64 ((((l0.getD (s2 : Int).toNat default)).1)), str ((((l0.getD (s2 : Int).toNat default)).2.1)), str (((((l0.getD (s2 : Int).toNat default)).2.2.1).1)), .slice x7.2.2.1.2.1.1 ((((((l0.getD (s2 : Int).toNat default)).2.2.1).2.1)).length) x7.2.2.1.2.1.2, .slice x7.2.2.1.2.2.1 ((((((l0.getD (s2 : Int).toNat default)).2.2.1).2.2)).length) x7.2.2.1.2.2.2, .slice x7.2.2.2.1.1 (((((l0.getD (s2 : Int).toNat default)).2.2.2.1)).length) x7.2.2.2.1.2, .int .i64 (((((l0.getD (s2 : Int).toNat default)).2.2.2.2.1).1)), .int .i64 (((((l0.getD (s2 : Int).toNat default)).2.2.2.2.1).2.1)), str (((((l0.getD (s2 : Int).toNat default)).2.2.2.2.1).2.2)), .int .i64 ((((l0.getD (s2 : Int).toNat default)).2.2.2.2.2.1)), .int .i64 (((((l0.getD (s2 : Int).toNat default)).2.2.2.2.2.2.1).1)), .int .i64 (((((l0.getD (s2 : Int).toNat default)).2.2.2.2.2.2.1).2.1)), str (((((l0.getD (s2 : Int).toNat default)).2.2.2.2.2.2.1).2.2)), .int .i64 (((((l0.getD (s2 : Int).toNat default)).2.2.2.2.2.2.2.1).1)), .int .i64 (((((l0.getD (s2 : Int).toNat default)).2.2.2.2.2.2.2.1).2.1)), str (((((l0.getD (s2 : Int).toNat default)).2.2.2.2.2.2.2.1).2.2)), .int .i64 ((((l0.getD (s2 : Int).toNat default)).2.2.2.2.2.2.2.2))]) rfl rfl ?_
      refine T.dNext (phi_cons (.inr (Kp.le 2 rfl)) (phi_cons (.inr (Kp.le 6 rfl)) phi_nil)) ?_
      refine D.on 11 ?_
      refine T.store (.dOne rfl (by kernel_rfl)) 0 rfl rfl (wants0 rfl) rfl rfl rfl rfl (Nat.le_of_ble_eq_true rfl) rfl (cs' := [.int .i64 ((((l1.getD (s2 : Int).toNat default)).1)), str ((((l1.getD (s2 : Int).toNat default)).2.1)), str (((((l1.getD (s2 : Int).toNat default)).2.2.1).1)), .slice x8.2.2.1.2.1.1 ((((((l1.getD (s2 : Int).toNat default)).2.2.1).2.1)).length) x8.2.2.1.2.1.2, .slice x8.2.2.1.2.2.1 ((((((l1.getD (s2 : Int).toNat default)).2.2.1).2.2)).length) x8.2.2.1.2.2.2, .slice x8.2.2.2.1.1 (((((l1.getD (s2 : Int).toNat default)).2.2.2.1)).length) x8.2.2.2.1.2, .int .i64 (((((l1.getD (s2 : Int).toNat default)).2.2.2.2.1).1)), .int .i64 (((((l1.getD (s2 : Int).toNat default)).2.2.2.2.1).2.1)), str (((((l1.getD (s2 : Int).toNat default)).2.2.2.2.1).2.2)), .int .i64 ((((l1.getD (s2 : Int).toNat default)).2.2.2.2.2.1)), .int .i64 (((((l1.getD (s2 : Int).toNat default)).2.2.2.2.2.2.1).1)), .int .i64 (((((l1.getD (s2 : Int).toNat default)).2.2.2.2.2.2.1).2.1)), str (((((l1.getD (s2 : Int).toNat default)).2.2.2.2.2.2.1).2.2)), .int .i64 (((((l1.getD (s2 : Int).toNat default)).2.2.2.2.2.2.2.1).1)), .int .i64 (((((l1.getD (s2 : Int).toNat default)).2.2.2.2.2.2.2.1).2.1)), str (((((l1.getD (s2 : Int).toNat default)).2.2.2.2.2.2.2.1).2.2)), .int .i64 ((((l1.getD (s2 : Int).toNat default)).2.2.2.2.2.2.2.2))]) rfl rfl ?_
      refine T.dNext (phi_cons (.inr (Kp.le 2 rfl)) (phi_cons (.inr (Kp.le 6 rfl)) phi_nil)) ?_
      refine T.dDone (by kernel_rfl) ?_
      refine sx ?_
      exact jn [10, 11, 1, 7, 8, 9, 0, 3, 4, 5] 12 (J2 (((((l0.getD (s2 : Int).toNat default)).2.2.1).2.1), ((((l0.getD (s2 : Int).toNat default)).2.2.1).2.2), (((l0.getD (s2 : Int).toNat default)).2.2.2.1), ((((l1.getD (s2 : Int).toNat default)).2.2.1).2.1), ((((l1.getD (s2 : Int).toNat default)).2.2.1).2.2), (((l1.getD (s2 : Int).toNat default)).2.2.2.1)) (b1, (x7.2.2.1.2.1.1, x7.2.2.1.2.1.2), (x7.2.2.1.2.2.1, x7.2.2.1.2.2.2), (x7.2.2.2.1.1, x7.2.2.2.1.2), b2, (x8.2.2.1.2.1.1, x8.2.2.1.2.1.2), (x8.2.2.1.2.2.1, x8.2.2.1.2.2.2), (x8.2.2.2.1.1, x8.2.2.2.1.2)) he1)
     ·refine T.allocS (.dOne rfl (by kernel_rfl)) rfl (wants0 rfl) rfl (cs := [.int .i64 0, str (([] : List UInt8)), str (([] : List UInt8)), .slice none 0 0, .slice none 0 0, .slice none 0 0, .int .i64 0, .int .i64 0, str (([] : List UInt8)), .int .i64 0, .int .i64 0, .int .i64 0, str (([] : List UInt8)), .int .i64 0, .int .i64 0, str (([] : List UInt8)), .int .i64 0]) rfl (fun b2 => ?_)
      refine T.dNext (phi_cons (.inr (Kp.le 1 rfl)) (phi_cons (.inr (Kp.le 5 rfl)) phi_nil)) ?_
      refine D.on 8 ?_
      refine T.allocS (.dOne rfl (by kernel_rfl)) rfl (wants0 rfl) rfl (cs := [.int .i64 0, str (([] : List UInt8)), str (([] : List UInt8)), .slice none 0 0, .slice none 0 0, .slice none 0 0, .int .i64 0, .int .i64 0, str (([] : List UInt8)), .int .i64 0, .int .i64 0, .int .i64 0, str (([] : List UInt8)), .int .i64 0, .int .i64 0, str (([] : List UInt8)), .int .i64 0]) rfl (fun b1 => ?_)
      refine T.dNext (phi_cons (.inr (Kp.le 2 rfl)) (phi_cons (.inr (Kp.le 6 rfl)) phi_nil)) ?_
      refine D.on 10 ?_
      refine T.store (.dOne rfl (by kernel_rfl)) 0 rfl rfl (wants0 rfl) rfl rfl rfl rfl (Nat.le_of_ble_eq_true rfl) rfl (cs' := [.int .i64 ((((l0.getD (s2 : Int).toNat default)).1)), str ((((l0.getD (s2 : Int).toNat default)).2.1)), str (((((l0.getD (s2 : Int).toNat default)).2.2.1).1)), .slice x7.2.2.1.2.1.1 ((((((l0.getD (s2 : Int).toNat default)).2.2.1).2.1)).length) x7.2.2.1.2.1.2, .slice x7.2.2.1.2.2.1 ((((((l0.getD (s2 : Int).toNat default)).2.2.1).2.2)).length) x7.2.2.1.2.2.2, .slice x7.2.2.2.1.1 (((((l0.getD (s2 : Int).toNat default)).2.2.2.1)).length) x7.2.2.2.1.2, .int .i64 (((((l0.getD (s2 : Int).toNat default)).2.2.2.2.1).1)), .int .i64 (((((l0.getD (s2 : Int).toNat default)).2.2.2.2.1).2.1)), str (((((l0.getD (s2 : Int).toNat default)).2.2.2.2.1).2.2)), .int .i64 ((((l0.getD (s2 : Int).toNat default)).2.2.2.2.2.1)), .int .i64 (((((l0.getD (s2 : Int).toNat default)).2.2.2.2.2.2.1).1)), .int .i64 (((((l0.getD (s2 : Int).toNat default)).2.2.2.2.2.2.1).2.1)), str (((((l0.getD (s2 : Int).toNat default)).2.2.2.2.2.2.1).2.2)), .int .i64 (((((l0.getD (s2 : Int).toNat default)).2.2.2.2.2.2.2.1).1)), .int .i64 (((((l0.getD (s2 : Int).toNat default)).2.2.2.2.2.2.2.1).2.1)), str (((((l0.getD (s2 : Int).toNat default)).2.2.2.2.2.2.2.1).2.2)), .int .i64 ((((l0.getD (s2 : Int).toNat default)).2.2.2.2.2.2.2.2))]) rfl rfl ?_
      refine T.dNext (phi_cons (.inr (Kp.le 2 rfl)) (phi_cons (.inr (Kp.le 6 rfl)) phi_nil)) ?_
      refine D.on 11 ?_
      refine T.store (.dOne rfl (by kernel_rfl)) 1 rfl rfl (wants0 rfl) rfl rfl rfl rfl (Nat.le_of_ble_eq_true rfl) rfl (cs' := [.int .i64 ((((l1.getD (s2 : Int).toNat default)).1)), str ((((l1.getD (s2 : Int).toNat default)).2.1)), str (((((l1.getD (s2 : Int).toNat default)).2.2.1).1)), .slice x8.2.2.1.2.1.1 ((((((l1.getD (s2 : Int).toNat default)).2.2.1).2.1)).length) x8.2.2.1.2.1.2, .slice x8.2.2.1.2.2.1 ((((((l1.getD (s2 : Int).toNat default)).2.2.1).2.2)).length) x8.2.2.1.2.2.2, .slice x8.2.2.2.1.1 (((((l1.getD (s2 : Int).toNat default)).2.2.2.1)).length) x8.2.2.2.1.2, .int .i64 (((((l1.getD (s2 : Int).toNat default)).2.2.2.2.1).1)), .int .i64 (((((l1.getD (s2 : Int).toNat default)).2.2.2.2.1).2.1)), str (((((l1.getD (s2 : Int).toNat default)).2.2.2.2.1).2.2)), .int .i64 ((((l1.getD (s2 : Int).toNat default)).2.2.2.2.2.1)), .int .i64 (((((l1.getD (s2 : Int).toNat default)).2.2.2.2.2.2.1).1)), .int .i64 (((((l1.getD (s2 : Int).toNat default)).2.2.2.2.2.2.1).2.1)), str (((((l1.getD (s2 : Int).toNat default)).2.2.2.2.2.2.1).2.2)), .int .i64 (((((l1.getD (s2 : Int).toNat default)).2.2.2.2.2.2.2.1).1)), .int .i64 (((((l1.getD (s2 : Int).toNat default)).2.2.2.2.2.2.2.1).2.1)), str (((((l1.getD (s2 : Int).toNat default)).2.2.2.2.2.2.2.1).2.2)), .int .i64 ((((l1.getD (s2 : Int).toNat default)).2.2.2.2.2.2.2.2))]) rfl rfl ?_
      refine T.dNext (phi_cons (.inr (Kp.le 2 rfl)) (phi_cons (.inr (Kp.le 6 rfl)) phi_nil)) ?_
      refine T.dDone (by kernel_rfl) ?_
      refine sx ?_
      exact jn [10, 11, 0, 7, 8, 9, 1, 3, 4, 5] 12 (J2 (((((l0.getD (s2 : Int).toNat default)).2.2.1).2.1), ((((l0.getD (s2 : Int).toNat default)).2.2.1).2.2), (((l0.getD (s2 : Int).toNat default)).2.2.2.1), ((((l1.getD (s2 : Int).toNat default)).2.2.1).2.1), ((((l1.getD (s2 : Int).toNat default)).2.2.1).2.2), (((l1.getD (s2 : Int).toNat default)).2.2.2.1)) (b1, (x7.2.2.1.2.1.1, x7.2.2.1.2.1.2), (x7.2.2.1.2.2.1, x7.2.2.1.2.2.2), (x7.2.2.2.1.1, x7.2.2.2.1.2), b2, (x8.2.2.1.2.1.1, x8.2.2.1.2.1.2), (x8.2.2.1.2.2.1, x8.2.2.1.2.2.2), (x8.2.2.2.1.1, x8.2.2.2.1.2)) he1)
   ·refine T.exit ?_
    refine sx ?_
    obtain rfl := inv_some he1
    obtain rfl := hx1 _ rfl
    refine sx ?_
    exact T.le EnvLe.nil (T.pick [] 2 rfl rfl nla rfl (J1 () () hr))

noncomputable def ref16_CopiedOps.k1 (s1 : (List ty7)) : Option ((List ty7)) :=
  some s1
noncomputable def ref16_CopiedOps.st1 (l0 : List ty7) (s2 : (List ty7) × Int) : Option (((List ty7) × Int) ⊕ ((List ty7))) :=
  (if ((decide (s2.2 < ((l0.length : Int))))) = true then chk (0 ≤ s2.2 ∧ s2.2 < (l0.length : Int)) (chk (((([] : List ty4)).length + ((((l0.getD (s2.2 : Int).toNat default)).2.2.2.1)).length) * 32 ≤ 140737488355328) (chk (((([] : List ty5)).length + (((((l0.getD (s2.2 : Int).toNat default)).2.2.1).2.1)).length) * 32 ≤ 140737488355328) (chk (((([] : List ty0)).length + (((((l0.getD (s2.2 : Int).toNat default)).2.2.1).2.2)).length) * 16 ≤ 140737488355328) (chk ((s2.1.length + (([((((l0.getD (s2.2 : Int).toNat default)).1), (((l0.getD (s2.2 : Int).toNat default)).2.1), (((((l0.getD (s2.2 : Int).toNat default)).2.2.1).1), ((([] : List ty5)) ++ (((((l0.getD (s2.2 : Int).toNat default)).2.2.1).2.1))), ((([] : List ty0)) ++ (((((l0.getD (s2.2 : Int).toNat default)).2.2.1).2.2)))), ((([] : List ty4)) ++ ((((l0.getD (s2.2 : Int).toNat default)).2.2.2.1))), (((((l0.getD (s2.2 : Int).toNat default)).2.2.2.2.1).1), ((((l0.getD (s2.2 : Int).toNat default)).2.2.2.2.1).2.1), ((((l0.getD (s2.2 : Int).toNat default)).2.2.2.2.1).2.2)), (((l0.getD (s2.2 : Int).toNat default)).2.2.2.2.2.1), (((((l0.getD (s2.2 : Int).toNat default)).2.2.2.2.2.2.1).1), ((((l0.getD (s2.2 : Int).toNat default)).2.2.2.2.2.2.1).2.1), ((((l0.getD (s2.2 : Int).toNat default)).2.2.2.2.2.2.1).2.2)), (((((l0.getD (s2.2 : Int).toNat default)).2.2.2.2.2.2.2.1).1), ((((l0.getD (s2.2 : Int).toNat default)).2.2.2.2.2.2.2.1).2.1), ((((l0.getD (s2.2 : Int).toNat default)).2.2.2.2.2.2.2.1).2.2)), (((l0.getD (s2.2 : Int).toNat default)).2.2.2.2.2.2.2.2))] : List ty7)).length) * 224 ≤ 140737488355328) (some (.inl ((s2.1 ++ (([((((l0.getD (s2.2 : Int).toNat default)).1), (((l0.getD (s2.2 : Int).toNat default)).2.1), (((((l0.getD (s2.2 : Int).toNat default)).2.2.1).1), ((([] : List ty5)) ++ (((((l0.getD (s2.2 : Int).toNat default)).2.2.1).2.1))), ((([] : List ty0)) ++ (((((l0.getD (s2.2 : Int).toNat default)).2.2.1).2.2)))), ((([] : List ty4)) ++ ((((l0.getD (s2.2 : Int).toNat default)).2.2.2.1))), (((((l0.getD (s2.2 : Int).toNat default)).2.2.2.2.1).1), ((((l0.getD (s2.2 : Int).toNat default)).2.2.2.2.1).2.1), ((((l0.getD (s2.2 : Int).toNat default)).2.2.2.2.1).2.2)), (((l0.getD (s2.2 : Int).toNat default)).2.2.2.2.2.1), (((((l0.getD (s2.2 : Int).toNat default)).2.2.2.2.2.2.1).1), ((((l0.getD (s2.2 : Int).toNat default)).2.2.2.2.2.2.1).2.1), ((((l0.getD (s2.2 : Int).toNat default)).2.2.2.2.2.2.1).2.2)), (((((l0.getD (s2.2 : Int).toNat default)).2.2.2.2.2.2.2.1).1), ((((l0.getD (s2.2 : Int).toNat default)).2.2.2.2.2.2.2.1).2.1), ((((l0.getD (s2.2 : Int).toNat default)).2.2.2.2.2.2.2.1).2.2)), (((l0.getD (s2.2 : Int).toNat default)).2.2.2.2.2.2.2.2))] : List ty7))), IntKind.i64.wrap (s2.2 + 1)))))))) else some (.inr s2.1))
noncomputable def ref16_CopiedOps.impl (l0 : List ty7) : Option ((List ty7)) :=
  (loop (ref16_CopiedOps.st1 l0) (([] : List ty7), 0)).bind (fun e1 => ref16_CopiedOps.k1 e1)
theorem ref16_CopiedOps.c {i0 c0 : Nat} {A0 : Option Addr} {l0 : List ty7} (hB : Base B) (hS : St B (hs) w) (h0 : (hs)[i0]? = some (Ro el17 A0 c0 l0)) {r : (List ty7)} (hr : ref16_CopiedOps.impl l0 = some r) :
    Calls Tryd.prog 34 #[.slice A0 l0.length c0] w fun e w' => ∃ x : ty3, e = .returned (.slice x.1 r.length x.2) ∧ St B (Bf el17 66 x.1 x.2 r :: hs) w' := by
 unfold ref16_CopiedOps.impl at hr
 refine calls_T Tryd.func34 rfl rfl rfl hS ?_
 refine T.front i0 h0 ?_
 refine T.seq ?_
 refine st ?_
 refine T.seq ?_
 refine st ?_
 refine T.seqJ (fun (s1 : (List ty7)) (x1 : ty3) => [(3, .slice x1.1 s1.length x1.2)]) (fun s1 x1 => Bf el17 66 x1.1 x1.2 s1 :: hs) (fun s1 => ref16_CopiedOps.k1 s1 = some r) (fun s1 x1 hk1 => ?_) (fun J1 => ?_)
 ·unfold ref16_CopiedOps.k1 at hk1
  refine sq ?_
  obtain rfl := inv_some hk1
  refine pk [0] 1 ?_
  refine T.ret1 rfl rfl (fun w hS => ⟨(x1.1, x1.2), rfl, hS⟩)
 ·refine sq ?_
  obtain ⟨e1, hl1, hr⟩ := inv_bind hr
  refine T.nilBf el17 66 ?_
  refine jn [1, 0] 2 (T.loop (s0 := (([] : List ty7), 0)) (env := fun s2 x2 => [(0, .slice A0 l0.length c0), (3, .slice x2.1 s2.1.length x2.2), (4, .int .i64 s2.2)]) (hs := fun (s2 : (List ty7) × Int) (x2 : ty3) => Ro el17 A0 c0 l0 :: Bf el17 66 x2.1 x2.2 s2.1 :: hs) hl1 (none, 0) (fun K1 s2 x2 o1 he1 hm1 hx1 => ?_))
  unfold ref16_CopiedOps.st1 at he1
  refine sq ?_
  refine A.cd he1 rfl (fun hb1 he1 => ?_) (fun hb1 he1 => ?_)
  ·refine sq ?_
   obtain ⟨hc1, he1⟩ := inv_chk he1
   refine T.idxRo .list 0 rfl rfl (wants0 rfl) rfl rfl rfl hc1.1 hc1.2 (Nat.le_refl _) ?_
   refine T.ldFRo 0 .list Fd.self (Sh.pair Sh.sc (Sh.pair Sh.sc (Sh.pair (Sh.pair Sh.sc (Sh.pair Sh.slice Sh.slice)) (Sh.pair Sh.slice (Sh.pair (Sh.pair Sh.sc (Sh.pair Sh.sc Sh.sc)) (Sh.pair Sh.sc (Sh.pair (Sh.pair Sh.sc (Sh.pair Sh.sc Sh.sc)) (Sh.pair (Sh.pair Sh.sc (Sh.pair Sh.sc Sh.sc)) Sh.sc)))))))) rfl (.inl rfl) rfl rfl hc1.1 hc1.2 rfl (wants0 rfl) rfl rfl rfl (v := fun x3 => .agg #[.int .i64 ((((l0.getD (s2.2 : Int).toNat default)).1)), str ((((l0.getD (s2.2 : Int).toNat default)).2.1)), str (((((l0.getD (s2.2 : Int).toNat default)).2.2.1).1)), .slice x3.2.2.1.2.1.1 ((((((l0.getD (s2.2 : Int).toNat default)).2.2.1).2.1)).length) x3.2.2.1.2.1.2, .slice x3.2.2.1.2.2.1 ((((((l0.getD (s2.2 : Int).toNat default)).2.2.1).2.2)).length) x3.2.2.1.2.2.2, .slice x3.2.2.2.1.1 (((((l0.getD (s2.2 : Int).toNat default)).2.2.2.1)).length) x3.2.2.2.1.2, .int .i64 (((((l0.getD (s2.2 : Int).toNat default)).2.2.2.2.1).1)), .int .i64 (((((l0.getD (s2.2 : Int).toNat default)).2.2.2.2.1).2.1)), str (((((l0.getD (s2.2 : Int).toNat default)).2.2.2.2.1).2.2)), .int .i64 ((((l0.getD (s2.2 : Int).toNat default)).2.2.2.2.2.1)), .int .i64 (((((l0.getD (s2.2 : Int).toNat default)).2.2.2.2.2.2.1).1)), .int .i64 (((((l0.getD (s2.2 : Int).toNat default)).2.2.2.2.2.2.1).2.1)), str (((((l0.getD (s2.2 : Int).toNat default)).2.2.2.2.2.2.1).2.2)), .int .i64 (((((l0.getD (s2.2 : Int).toNat default)).2.2.2.2.2.2.2.1).1)), .int .i64 (((((l0.getD (s2.2 : Int).toNat default)).2.2.2.2.2.2.2.1).2.1)), str (((((l0.getD (s2.2 : Int).toNat default)).2.2.2.2.2.2.2.1).2.2)), .int .i64 ((((l0.getD (s2.2 : Int).toNat default)).2.2.2.2.2.2.2.2))]) (hs' := fun x3 => Ro el9 x3.2.2.1.2.1.1 x3.2.2.1.2.1.2 (((((l0.getD (s2.2 : Int).toNat default)).2.2.1).2.1)) :: Ro el11 x3.2.2.1.2.2.1 x3.2.2.1.2.2.2 (((((l0.getD (s2.2 : Int).toNat default)).2.2.1).2.2)) :: Ro el2 x3.2.2.2.1.1 x3.2.2.2.1.2 ((((l0.getD (s2.2 : Int).toNat default)).2.2.2.1)) :: Ro el17 A0 c0 l0 :: Bf el17 66 x2.1 x2.2 s2.1 :: hs) (fun _ => rfl) (fun _ => rfl) (fun x3 => ?_)
   refine A.al rfl (fun b1 => ?_)
   refine sq ?_
   refine T.nilBf el2 64 ?_
   obtain ⟨hc2, he1⟩ := inv_chk he1
   refine T.appRo .list 0 4 rfl rfl rfl rfl rfl (wants0 rfl) rfl rfl rfl rfl rfl rfl hc2 (fun _ _ => rfl) (fun A2 c2 => ?_)
   refine sq ?_
   refine T.nilBf el9 129 ?_
   obtain ⟨hc3, he1⟩ := inv_chk he1
   refine T.appRo .list 0 3 rfl rfl rfl rfl rfl (wants0 rfl) rfl rfl rfl rfl rfl rfl hc3 (fun _ _ => rfl) (fun A3 c3 => ?_)
   refine sq ?_
   refine T.nilBf el11 131 ?_
   obtain ⟨hc4, he1⟩ := inv_chk he1
   refine T.appRo .list 0 5 rfl rfl rfl rfl rfl (wants0 rfl) rfl rfl rfl rfl rfl rfl hc4 (fun _ _ => rfl) (fun A4 c4 => ?_)
   refine st ?_
   refine T.freeze 1 rfl rfl rfl ?_
   refine T.freeze 0 rfl rfl rfl ?_
   refine T.freeze 2 rfl rfl rfl ?_
   refine T.lit (E := Elt.pair E64 el16) .list (vals := [(0, .agg #[.int .i64 ((((l0.getD (s2.2 : Int).toNat default)).1)), str ((((l0.getD (s2.2 : Int).toNat default)).2.1)), str (((((l0.getD (s2.2 : Int).toNat default)).2.2.1).1)), .slice A3 ((((([] : List ty5)) ++ (((((l0.getD (s2.2 : Int).toNat default)).2.2.1).2.1)))).length) c3, .slice A4 ((((([] : List ty0)) ++ (((((l0.getD (s2.2 : Int).toNat default)).2.2.1).2.2)))).length) c4, .slice A2 ((((([] : List ty4)) ++ ((((l0.getD (s2.2 : Int).toNat default)).2.2.2.1)))).length) c2, .int .i64 (((((l0.getD (s2.2 : Int).toNat default)).2.2.2.2.1).1)), .int .i64 (((((l0.getD (s2.2 : Int).toNat default)).2.2.2.2.1).2.1)), str (((((l0.getD (s2.2 : Int).toNat default)).2.2.2.2.1).2.2)), .int .i64 ((((l0.getD (s2.2 : Int).toNat default)).2.2.2.2.2.1)), .int .i64 (((((l0.getD (s2.2 : Int).toNat default)).2.2.2.2.2.2.1).1)), .int .i64 (((((l0.getD (s2.2 : Int).toNat default)).2.2.2.2.2.2.1).2.1)), str (((((l0.getD (s2.2 : Int).toNat default)).2.2.2.2.2.2.1).2.2)), .int .i64 (((((l0.getD (s2.2 : Int).toNat default)).2.2.2.2.2.2.2.1).1)), .int .i64 (((((l0.getD (s2.2 : Int).toNat default)).2.2.2.2.2.2.2.1).2.1)), str (((((l0.getD (s2.2 : Int).toNat default)).2.2.2.2.2.2.2.1).2.2)), .int .i64 ((((l0.getD (s2.2 : Int).toNat default)).2.2.2.2.2.2.2.2))])]) (cells := #[.int .i64 ((((l0.getD (s2.2 : Int).toNat default)).1)), str ((((l0.getD (s2.2 : Int).toNat default)).2.1)), str (((((l0.getD (s2.2 : Int).toNat default)).2.2.1).1)), .slice A3 ((((([] : List ty5)) ++ (((((l0.getD (s2.2 : Int).toNat default)).2.2.1).2.1)))).length) c3, .slice A4 ((((([] : List ty0)) ++ (((((l0.getD (s2.2 : Int).toNat default)).2.2.1).2.2)))).length) c4, .slice A2 ((((([] : List ty4)) ++ ((((l0.getD (s2.2 : Int).toNat default)).2.2.2.1)))).length) c2, .int .i64 (((((l0.getD (s2.2 : Int).toNat default)).2.2.2.2.1).1)), .int .i64 (((((l0.getD (s2.2 : Int).toNat default)).2.2.2.2.1).2.1)), str (((((l0.getD (s2.2 : Int).toNat default)).2.2.2.2.1).2.2)), .int .i64 ((((l0.getD (s2.2 : Int).toNat default)).2.2.2.2.2.1)), .int .i64 (((((l0.getD (s2.2 : Int).toNat default)).2.2.2.2.2.2.1).1)), .int .i64 (((((l0.getD (s2.2 : Int).toNat default)).2.2.2.2.2.2.1).2.1)), str (((((l0.getD (s2.2 : Int).toNat default)).2.2.2.2.2.2.1).2.2)), .int .i64 (((((l0.getD (s2.2 : Int).toNat default)).2.2.2.2.2.2.2.1).1)), .int .i64 (((((l0.getD (s2.2 : Int).toNat default)).2.2.2.2.2.2.2.1).2.1)), str (((((l0.getD (s2.2 : Int).toNat default)).2.2.2.2.2.2.2.1).2.2)), .int .i64 ((((l0.getD (s2.2 : Int).toNat default)).2.2.2.2.2.2.2.2))]) rfl (wants0 rfl) rfl rfl rfl rfl rfl (by kernel_rfl) ([((((l0.getD (s2.2 : Int).toNat default)).1), (((l0.getD (s2.2 : Int).toNat default)).2.1), (((((l0.getD (s2.2 : Int).toNat default)).2.2.1).1), ((([] : List ty5)) ++ (((((l0.getD (s2.2 : Int).toNat default)).2.2.1).2.1))), ((([] : List ty0)) ++ (((((l0.getD (s2.2 : Int).toNat default)).2.2.1).2.2)))), ((([] : List ty4)) ++ ((((l0.getD (s2.2 : Int).toNat default)).2.2.2.1))), (((((l0.getD (s2.2 : Int).toNat default)).2.2.2.2.1).1), ((((l0.getD (s2.2 : Int).toNat default)).2.2.2.2.1).2.1), ((((l0.getD (s2.2 : Int).toNat default)).2.2.2.2.1).2.2)), (((l0.getD (s2.2 : Int).toNat default)).2.2.2.2.2.1), (((((l0.getD (s2.2 : Int).toNat default)).2.2.2.2.2.2.1).1), ((((l0.getD (s2.2 : Int).toNat default)).2.2.2.2.2.2.1).2.1), ((((l0.getD (s2.2 : Int).toNat default)).2.2.2.2.2.2.1).2.2)), (((((l0.getD (s2.2 : Int).toNat default)).2.2.2.2.2.2.2.1).1), ((((l0.getD (s2.2 : Int).toNat default)).2.2.2.2.2.2.2.1).2.1), ((((l0.getD (s2.2 : Int).toNat default)).2.2.2.2.2.2.2.1).2.2)), (((l0.getD (s2.2 : Int).toNat default)).2.2.2.2.2.2.2.2))] : List ty7) rfl (fun _ _ _ _ ho => (Has.encs ho (Has.pair (Has.sc rfl) (Has.pair (Has.sc rfl) (Has.pair (Has.pair (Has.sc rfl) (Has.pair (Has.slice 1 rfl rfl) (Has.slice 0 rfl rfl) rfl) rfl) (Has.pair (Has.slice 2 rfl rfl) (Has.pair (Has.pair (Has.sc rfl) (Has.pair (Has.sc rfl) (Has.sc rfl) rfl) rfl) (Has.pair (Has.sc rfl) (Has.pair (Has.pair (Has.sc rfl) (Has.pair (Has.sc rfl) (Has.sc rfl) rfl) rfl) (Has.pair (Has.pair (Has.sc rfl) (Has.pair (Has.sc rfl) (Has.sc rfl) rfl) rfl) (Has.sc rfl) rfl) rfl) rfl) rfl) rfl) rfl) rfl) rfl) rfl rfl)) (fun b2 => ?_)
   obtain ⟨hc5, he1⟩ := inv_chk he1
   refine T.appBf .list 9 0 rfl rfl rfl rfl rfl (wants0 rfl) rfl rfl rfl rfl rfl rfl hc5 (fun _ _ => rfl) (fun A5 c5 => ?_)
   refine sx ?_
   refine T.region ?_
   refine sx ?_
   obtain rfl := inv_some he1
   exact jn [8, 9] 10 (hm1 ((s2.1 ++ (([((((l0.getD (s2.2 : Int).toNat default)).1), (((l0.getD (s2.2 : Int).toNat default)).2.1), (((((l0.getD (s2.2 : Int).toNat default)).2.2.1).1), ((([] : List ty5)) ++ (((((l0.getD (s2.2 : Int).toNat default)).2.2.1).2.1))), ((([] : List ty0)) ++ (((((l0.getD (s2.2 : Int).toNat default)).2.2.1).2.2)))), ((([] : List ty4)) ++ ((((l0.getD (s2.2 : Int).toNat default)).2.2.2.1))), (((((l0.getD (s2.2 : Int).toNat default)).2.2.2.2.1).1), ((((l0.getD (s2.2 : Int).toNat default)).2.2.2.2.1).2.1), ((((l0.getD (s2.2 : Int).toNat default)).2.2.2.2.1).2.2)), (((l0.getD (s2.2 : Int).toNat default)).2.2.2.2.2.1), (((((l0.getD (s2.2 : Int).toNat default)).2.2.2.2.2.2.1).1), ((((l0.getD (s2.2 : Int).toNat default)).2.2.2.2.2.2.1).2.1), ((((l0.getD (s2.2 : Int).toNat default)).2.2.2.2.2.2.1).2.2)), (((((l0.getD (s2.2 : Int).toNat default)).2.2.2.2.2.2.2.1).1), ((((l0.getD (s2.2 : Int).toNat default)).2.2.2.2.2.2.2.1).2.1), ((((l0.getD (s2.2 : Int).toNat default)).2.2.2.2.2.2.2.1).2.2)), (((l0.getD (s2.2 : Int).toNat default)).2.2.2.2.2.2.2.2))] : List ty7))), IntKind.i64.wrap (s2.2 + 1)) rfl (A5, c5))
  ·refine T.exit ?_
   refine sx ?_
   obtain rfl := inv_some he1
   obtain rfl := hx1 _ rfl
   refine sx ?_
   exact jn [1] 2 (J1 s2.1 (x2.1, x2.2) hr)

noncomputable def ref17_number.impl (a0 : Int) (a1 : Int) (a2 : Int) : Option Bool :=
  (if ((decide (a1 ≤ a0))) = true then some (decide (a0 ≤ a2)) else some false)
theorem ref17_number.c {a0 : Int} {a1 : Int} {a2 : Int} (hB : Base B) (hS : St B (hs) w) {r : Bool} (hr : ref17_number.impl a0 a1 a2 = some r) :
    Calls Tryd.prog 35 #[.int .i64 a0, .int .i64 a1, .int .i64 a2] w fun e w' => ∃ x : Unit, e = .returned (.bool r) ∧ St B (hs) w' := by
 unfold ref17_number.impl at hr
 refine calls_T Tryd.func35 rfl rfl rfl hS ?_
 refine sq ?_
 refine br hr (fun hb1 hr => ?_) (fun hb1 hr => ?_)
 ·refine st ?_
  obtain rfl := inv_some hr
  refine pk [] 0 ?_
  refine T.ret1 rfl rfl (fun w hS => ⟨(), rfl, hS⟩)
 ·refine st ?_
  obtain rfl := inv_some hr
  refine pk [] 0 ?_
  refine T.ret1 rfl rfl (fun w hS => ⟨(), rfl, hS⟩)

noncomputable def ref17_Right.k3 (a0 : Int × Int × (List ty8) × Int) (s3 : Bool) : Option Bool :=
  (if s3 = true then (ref17_number.impl a0.2.2.2 0 2147483647).bind fun r1 => some r1 else (if ((decide (a0.1 = 3))) = true then (ref17_number.impl a0.2.2.2 1 1048576).bind fun r2 => some r2 else (if ((decide (a0.1 = 5))) = true then (ref17_number.impl a0.2.2.2 1 2).bind fun r3 => some r3 else some false)))
noncomputable def ref17_Right.k2 (a0 : Int × Int × (List ty8) × Int) (s2 : Unit) : Option Bool :=
  (if ((decide ((0 : Int) < ((a0.2.2.1.length : Int))))) = true then some false else (if ((decide (a0.1 = 2))) = true then ref17_Right.k3 a0 (decide (a0.1 = 2)) else ref17_Right.k3 a0 (decide (a0.1 = 4))))
noncomputable def ref17_Right.k5 (s5 : Unit) : Option Bool :=
  some true
noncomputable def ref17_Right.k6 (s6 : Int) (s7 : Bool) : Option (Int ⊕ (Bool ⊕ Unit)) :=
  (if s7 = true then some (.inr (.inl false)) else some (.inl (IntKind.i64.wrap (s6 + 1))))
noncomputable def ref17_Right.st1 (a0 : Int × Int × (List ty8) × Int) (s6 : Int) : Option (Int ⊕ (Bool ⊕ Unit)) :=
  (if ((decide (s6 < ((a0.2.2.1.length : Int))))) = true then chk (0 ≤ s6 ∧ s6 < (a0.2.2.1.length : Int)) ((ref17_number.impl ((((a0.2.2.1.getD (s6 : Int).toNat default)).1)) 0 7).bind fun r4 => (if r4 = true then (ref17_number.impl ((((a0.2.2.1.getD (s6 : Int).toNat default)).2.1)) 1 2147483647).bind fun r5 => (if r5 = true then (ref16_Right.impl ((((a0.2.2.1.getD (s6 : Int).toNat default)).2.2))).bind fun r6 => ref17_Right.k6 s6 (!r6) else ref17_Right.k6 s6 true) else ref17_Right.k6 s6 true)) else some (.inr (.inr ())))
noncomputable def ref17_Right.k4 (a0 : Int × Int × (List ty8) × Int) (s4 : Bool) : Option Bool :=
  (if s4 = true then some false else (loop (ref17_Right.st1 a0) 0).bind (fun e1 => match e1 with | .inl v => some v | .inr v => ref17_Right.k5 v))
noncomputable def ref17_Right.k1 (a0 : Int × Int × (List ty8) × Int) (s1 : Bool) : Option Bool :=
  (if s1 = true then some false else (if ((decide (a0.1 = 1))) = true then (if ((decide (a0.2.2.2 = 0))) = true then (if ((decide ((((a0.2.2.1.length : Int))) < 1))) = true then ref17_Right.k4 a0 true else ref17_Right.k4 a0 (decide ((3 : Int) < ((a0.2.2.1.length : Int))))) else ref17_Right.k4 a0 true) else ref17_Right.k2 a0 ()))
noncomputable def ref17_Right.impl (a0 : Int × Int × (List ty8) × Int) : Option Bool :=
  (if ((decide (a0.2.1 < 0))) = true then ref17_Right.k1 a0 true else ref17_Right.k1 a0 (decide ((3 : Int) < a0.2.1)))
theorem ref17_Right.c {a0 : Int × Int × (List ty8) × Int} {i0a c0a : Nat} {A0a : Option Addr} (hB : Base B) (hS : St B (hs) w) (h0a : (hs)[i0a]? = some (Ro el20 A0a c0a a0.2.2.1)) {r : Bool} (hr : ref17_Right.impl a0 = some r) :
    Calls Tryd.prog 15 #[.agg #[.int .i64 a0.1, .int .i64 a0.2.1, .slice A0a a0.2.2.1.length c0a, .int .i64 a0.2.2.2]] w fun e w' => ∃ x : Unit, e = .returned (.bool r) ∧ St B (hs) w' := by
 unfold ref17_Right.impl at hr
 refine calls_T Tryd.func15 rfl rfl rfl hS ?_
 refine T.front i0a h0a ?_
 refine sq ?_
 refine A.bx rfl rfl (fun b1 => ?_)
 refine st ?_
 refine T.seq ?_
 refine T.seqJ (fun (s1 : Bool) (x1 : Unit) => [(1, .pointer (some ⟨b1, 0, none⟩)), (12, .bool s1)]) (fun s1 x1 => Cl b1 36 [.int .i64 a0.1, .int .i64 a0.2.1, .slice A0a a0.2.2.1.length c0a, .int .i64 a0.2.2.2] :: Ro el20 A0a c0a a0.2.2.1 :: hs) (fun s1 => ref17_Right.k1 a0 s1 = some r) (fun s1 x1 hk1 => ?_) (fun J1 => ?_)
 ·unfold ref17_Right.k1 at hk1
  refine A.cd hk1 rfl (fun hb1 hk1 => ?_) (fun hb1 hk1 => ?_)
  ·refine sq ?_
   obtain rfl := inv_some hk1
   refine pk [] 2 ?_
   refine T.ret1 rfl rfl (fun w hS => ⟨(), rfl, hS⟩)
  ·refine st ?_
   refine T.seqJ (fun (s2 : Unit) (x2 : Unit) => [(1, .pointer (some ⟨b1, 0, none⟩))]) (fun s2 x2 => Cl b1 36 [.int .i64 a0.1, .int .i64 a0.2.1, .slice A0a a0.2.2.1.length c0a, .int .i64 a0.2.2.2] :: Ro el20 A0a c0a a0.2.2.1 :: hs) (fun s2 => ref17_Right.k2 a0 s2 = some r) (fun s2 x2 hk2 => ?_) (fun J2 => ?_)
   ·unfold ref17_Right.k2 at hk2
    refine sq ?_
    refine A.cd hk2 rfl (fun hb2 hk2 => ?_) (fun hb2 hk2 => ?_)
    ·refine sq ?_
     obtain rfl := inv_some hk2
     refine pk [] 2 ?_
     refine T.ret1 rfl rfl (fun w hS => ⟨(), rfl, hS⟩)
    ·refine st ?_
     refine T.seq ?_
     refine T.seq ?_
     refine st ?_
     refine T.seqJ (fun (s3 : Bool) (x3 : Unit) => [(1, .pointer (some ⟨b1, 0, none⟩)), (64, .int .i64 a0.1), (65, .bool s3)]) (fun s3 x3 => Cl b1 36 [.int .i64 a0.1, .int .i64 a0.2.1, .slice A0a a0.2.2.1.length c0a, .int .i64 a0.2.2.2] :: Ro el20 A0a c0a a0.2.2.1 :: hs) (fun s3 => ref17_Right.k3 a0 s3 = some r) (fun s3 x3 hk3 => ?_) (fun J3 => ?_)
     ·unfold ref17_Right.k3 at hk3
      refine A.cd hk3 rfl (fun hb3 hk3 => ?_) (fun hb3 hk3 => ?_)
      ·refine sq ?_
       obtain ⟨r1, hg1, hk3⟩ := inv_bind hk3
       refine A.c3 rfl rfl rfl rfl Tryd.func35 rfl (fun w hS => ref17_number.c hB hS  hg1) (fun x4 => ?_)
       refine st ?_
       obtain rfl := inv_some hk3
       refine pk [] 2 ?_
       refine T.ret1 rfl rfl (fun w hS => ⟨(), rfl, hS⟩)
      ·refine sq ?_
       refine A.cd hk3 rfl (fun hb4 hk3 => ?_) (fun hb4 hk3 => ?_)
       ·refine sq ?_
        obtain ⟨r2, hg2, hk3⟩ := inv_bind hk3
        refine A.c3 rfl rfl rfl rfl Tryd.func35 rfl (fun w hS => ref17_number.c hB hS  hg2) (fun x5 => ?_)
        refine st ?_
        obtain rfl := inv_some hk3
        refine pk [] 2 ?_
        refine T.ret1 rfl rfl (fun w hS => ⟨(), rfl, hS⟩)
       ·refine sq ?_
        refine A.cd hk3 rfl (fun hb5 hk3 => ?_) (fun hb5 hk3 => ?_)
        ·refine sq ?_
         obtain ⟨r3, hg3, hk3⟩ := inv_bind hk3
         refine A.c3 rfl rfl rfl rfl Tryd.func35 rfl (fun w hS => ref17_number.c hB hS  hg3) (fun x6 => ?_)
         refine st ?_
         obtain rfl := inv_some hk3
         refine pk [] 2 ?_
         refine T.ret1 rfl rfl (fun w hS => ⟨(), rfl, hS⟩)
        ·refine sq ?_
         obtain rfl := inv_some hk3
         refine pk [] 2 ?_
         refine T.ret1 rfl rfl (fun w hS => ⟨(), rfl, hS⟩)
     ·refine sq ?_
      refine A.cd hk2 rfl (fun hb6 hk2 => ?_) (fun hb6 hk2 => ?_)
      ·refine T.skip ?_
       refine sx ?_
       exact jn [0, 1] 2 (J3 (decide (a0.1 = 2)) () hk2)
      ·refine T.region ?_
       refine sx ?_
       exact jn [0, 1] 2 (J3 (decide (a0.1 = 4)) () hk2)
   ·refine sq ?_
    refine A.cd hk1 rfl (fun hb7 hk1 => ?_) (fun hb7 hk1 => ?_)
    ·refine T.seq ?_
     refine T.seqJ (fun (s4 : Bool) (x7 : Unit) => [(1, .pointer (some ⟨b1, 0, none⟩)), (30, .bool s4)]) (fun s4 x7 => Cl b1 36 [.int .i64 a0.1, .int .i64 a0.2.1, .slice A0a a0.2.2.1.length c0a, .int .i64 a0.2.2.2] :: Ro el20 A0a c0a a0.2.2.1 :: hs) (fun s4 => ref17_Right.k4 a0 s4 = some r) (fun s4 x7 hk4 => ?_) (fun J4 => ?_)
     ·unfold ref17_Right.k4 at hk4
      refine A.cd hk4 rfl (fun hb8 hk4 => ?_) (fun hb8 hk4 => ?_)
      ·refine sq ?_
       obtain rfl := inv_some hk4
       refine pk [] 2 ?_
       refine T.ret1 rfl rfl (fun w hS => ⟨(), rfl, hS⟩)
      ·refine st ?_
       refine T.seqJ (fun (s5 : Unit) (x8 : Unit) => []) (fun s5 x8 => hs) (fun s5 => ref17_Right.k5 s5 = some r) (fun s5 x8 hk5 => ?_) (fun J5 => ?_)
       ·unfold ref17_Right.k5 at hk5
        refine sq ?_
        obtain rfl := inv_some hk5
        refine pk [] 0 ?_
        refine T.ret1 rfl rfl (fun w hS => ⟨(), rfl, hS⟩)
       ·refine sq ?_
        obtain ⟨e1, hl1, hk4⟩ := inv_bind hk4
        refine jn [0, 1] 2 (T.loop (s0 := 0) (env := fun s6 x9 => [(1, .pointer (some ⟨b1, 0, none⟩)), (3, .int .i64 s6)]) (hs := fun (s6 : Int) (x9 : Unit) => Cl b1 36 [.int .i64 a0.1, .int .i64 a0.2.1, .slice A0a a0.2.2.1.length c0a, .int .i64 a0.2.2.2] :: Ro el20 A0a c0a a0.2.2.1 :: hs) hl1 () (fun K1 s6 x9 o1 he1 hm1 hx1 => ?_))
        unfold ref17_Right.st1 at he1
        refine sq ?_
        refine A.cd he1 rfl (fun hb9 he1 => ?_) (fun hb9 he1 => ?_)
        ·refine sq ?_
         obtain ⟨hc1, he1⟩ := inv_chk he1
         refine T.idxRo .list 1 rfl rfl (wants0 rfl) rfl rfl rfl hc1.1 hc1.2 (Nat.le_refl _) ?_
         refine T.ldFRo 1 .list Fd.self (Sh.pair Sh.sc (Sh.pair Sh.sc Sh.slice)) rfl (.inl rfl) rfl rfl hc1.1 hc1.2 rfl (wants0 rfl) rfl rfl rfl (v := fun x10 => .agg #[.int .i64 ((((a0.2.2.1.getD (s6 : Int).toNat default)).1)), .int .i64 ((((a0.2.2.1.getD (s6 : Int).toNat default)).2.1)), .slice x10.2.2.1 (((((a0.2.2.1.getD (s6 : Int).toNat default)).2.2)).length) x10.2.2.2]) (hs' := fun x10 => Ro el17 x10.2.2.1 x10.2.2.2 ((((a0.2.2.1.getD (s6 : Int).toNat default)).2.2)) :: Cl b1 36 [.int .i64 a0.1, .int .i64 a0.2.1, .slice A0a a0.2.2.1.length c0a, .int .i64 a0.2.2.2] :: Ro el20 A0a c0a a0.2.2.1 :: hs) (fun _ => rfl) (fun _ => rfl) (fun x10 => ?_)
         refine A.al rfl (fun b2 => ?_)
         refine st ?_
         refine T.seqJ (fun (s7 : Bool) (x11 : Unit) => [(1, .pointer (some ⟨b1, 0, none⟩)), (3, .int .i64 s6), (58, .bool s7)]) (fun s7 x11 => Cl b1 36 [.int .i64 a0.1, .int .i64 a0.2.1, .slice A0a a0.2.2.1.length c0a, .int .i64 a0.2.2.2] :: Ro el20 A0a c0a a0.2.2.1 :: hs) (fun s7 => ref17_Right.k6 s6 s7 = some o1) (fun s7 x11 hk6 => ?_) (fun J6 => ?_)
         ·unfold ref17_Right.k6 at hk6
          refine A.cd hk6 rfl (fun hb10 hk6 => ?_) (fun hb10 hk6 => ?_)
          ·refine sq ?_
           obtain rfl := inv_some hk6
           obtain rfl := hx1 _ rfl
           refine st ?_
           obtain rfl := inv_some hk4
           refine pk [] 2 ?_
           refine T.ret1 rfl rfl (fun w hS => ⟨(), rfl, hS⟩)
          ·refine T.skip ?_
           refine sx ?_
           refine T.region ?_
           refine sx ?_
           obtain rfl := inv_some hk6
           exact jn [0, 1] 2 (hm1 (IntKind.i64.wrap (s6 + 1)) rfl ())
         ·refine st ?_
          obtain ⟨r4, hg4, he1⟩ := inv_bind he1
          refine A.c3 rfl rfl rfl rfl Tryd.func35 rfl (fun w hS => ref17_number.c hB hS  hg4) (fun x12 => ?_)
          refine T.not .list rfl (wants0 rfl) rfl rfl ?_
          refine st ?_
          refine br he1 (fun hb11 he1 => ?_) (fun hb11 he1 => ?_)
          ·refine st ?_
           obtain ⟨r5, hg5, he1⟩ := inv_bind he1
           refine A.c3g rfl rfl (not_t hb11) rfl rfl rfl rfl Tryd.func35 rfl (fun w hS => ref17_number.c hB hS  hg5) (fun x13 => ?_)
           refine T.not .list rfl (wants1 rfl rfl rfl (not_t hb11)) rfl rfl ?_
           refine st ?_
           refine br he1 (fun hb12 he1 => ?_) (fun hb12 he1 => ?_)
           ·refine st ?_
            obtain ⟨r6, hg6, he1⟩ := inv_bind he1
            refine A.c1g rfl rfl (not_t hb12) rfl rfl Tryd.func36 rfl (fun w hS => ref16_Right.c hB hS (i0 := 1) rfl hg6) (fun x14 => ?_)
            refine T.not .list rfl (wants1 rfl rfl rfl (not_t hb12)) rfl rfl ?_
            refine sx ?_
            exact jn [2, 3] 4 (J6 (!r6) () he1)
           ·refine sx ?_
            exact jn [2, 3] 4 (J6 true () he1)
          ·refine sx ?_
           exact jn [2, 3] 4 (J6 true () he1)
        ·refine T.exit ?_
         refine sx ?_
         obtain rfl := inv_some he1
         obtain rfl := hx1 _ rfl
         refine sx ?_
         exact T.le EnvLe.nil (T.pick [] 2 rfl rfl nla rfl (J5 () () hk4))
     ·refine st ?_
      refine br hk1 (fun hb13 hk1 => ?_) (fun hb13 hk1 => ?_)
      ·refine st ?_
       refine br hk1 (fun hb14 hk1 => ?_) (fun hb14 hk1 => ?_)
       ·refine sx ?_
        exact jn [0, 1] 2 (J4 true () hk1)
       ·refine sx ?_
        exact jn [0, 1] 2 (J4 (decide ((3 : Int) < ((a0.2.2.1.length : Int)))) () hk1)
      ·refine sx ?_
       exact jn [0, 1] 2 (J4 true () hk1)
    ·refine T.skip ?_
     refine sx ?_
     exact jn [0, 1] 2 (J2 () () hk1)
 ·refine st ?_
  refine br hr (fun hb15 hr => ?_) (fun hb15 hr => ?_)
  ·refine sx ?_
   exact jn [0, 1] 2 (J1 true () hr)
  ·refine sx ?_
   exact jn [0, 1] 2 (J1 (decide ((3 : Int) < a0.2.1)) () hr)

noncomputable def ref17_Same.k2 (s2 : Unit) : Option Bool :=
  some true
noncomputable def ref17_Same.k4 (s3 : Int) (s5 : Bool) : Option (Int ⊕ (Bool ⊕ Unit)) :=
  (if s5 = true then some (.inr (.inl false)) else some (.inl (IntKind.i64.wrap (s3 + 1))))
noncomputable def ref17_Same.k3 (a0 : Int × Int × (List ty8) × Int) (s3 : Int) (a1 : Int × Int × (List ty8) × Int) (s4 : (List ty7) × (List ty7)) : Option (Int ⊕ (Bool ⊕ Unit)) :=
  (if ((decide ((((((a0.2.2.1.getD (s3 : Int).toNat default)).1))) = ((((a1.2.2.1.getD (s3 : Int).toNat default)).1))))) = true then (if ((decide ((((((a0.2.2.1.getD (s3 : Int).toNat default)).2.1))) = ((((a1.2.2.1.getD (s3 : Int).toNat default)).2.1))))) = true then (ref16_SameOps.impl s4.1 s4.2).bind fun r1 => ref17_Same.k4 s3 (!r1) else ref17_Same.k4 s3 true) else ref17_Same.k4 s3 true)
noncomputable def ref17_Same.st1 (a0 : Int × Int × (List ty8) × Int) (a1 : Int × Int × (List ty8) × Int) (s3 : Int) : Option (Int ⊕ (Bool ⊕ Unit)) :=
  (if ((decide (s3 < ((a0.2.2.1.length : Int))))) = true then chk (0 ≤ s3 ∧ s3 < (a0.2.2.1.length : Int)) (chk (0 ≤ s3 ∧ s3 < (a1.2.2.1.length : Int)) (ref17_Same.k3 a0 s3 a1 ((((a0.2.2.1.getD (s3 : Int).toNat default)).2.2), (((a1.2.2.1.getD (s3 : Int).toNat default)).2.2)))) else some (.inr (.inr ())))
noncomputable def ref17_Same.k1 (a0 : Int × Int × (List ty8) × Int) (a1 : Int × Int × (List ty8) × Int) (s1 : Bool) : Option Bool :=
  (if s1 = true then some false else (loop (ref17_Same.st1 a0 a1) 0).bind (fun e1 => match e1 with | .inl v => some v | .inr v => ref17_Same.k2 v))
noncomputable def ref17_Same.impl (a0 : Int × Int × (List ty8) × Int) (a1 : Int × Int × (List ty8) × Int) : Option Bool :=
  (if ((decide (a0.1 = a1.1))) = true then (if ((decide (a0.2.1 = a1.2.1))) = true then (if ((decide (a0.2.2.2 = a1.2.2.2))) = true then ref17_Same.k1 a0 a1 (!(decide ((((a0.2.2.1.length : Int))) = ((a1.2.2.1.length : Int))))) else ref17_Same.k1 a0 a1 true) else ref17_Same.k1 a0 a1 true) else ref17_Same.k1 a0 a1 true)
theorem ref17_Same.c {a0 : Int × Int × (List ty8) × Int} {i0a c0a : Nat} {A0a : Option Addr} {a1 : Int × Int × (List ty8) × Int} {i1a c1a : Nat} {A1a : Option Addr} (hB : Base B) (hS : St B (hs) w) (h0a : (hs)[i0a]? = some (Ro el20 A0a c0a a0.2.2.1)) (h1a : (hs)[i1a]? = some (Ro el20 A1a c1a a1.2.2.1)) {r : Bool} (hr : ref17_Same.impl a0 a1 = some r) :
    Calls Tryd.prog 17 #[.agg #[.int .i64 a0.1, .int .i64 a0.2.1, .slice A0a a0.2.2.1.length c0a, .int .i64 a0.2.2.2], .agg #[.int .i64 a1.1, .int .i64 a1.2.1, .slice A1a a1.2.2.1.length c1a, .int .i64 a1.2.2.2]] w fun e w' => ∃ x : Unit, e = .returned (.bool r) ∧ St B (hs) w' := by
 unfold ref17_Same.impl at hr
 refine calls_T Tryd.func17 rfl rfl rfl hS ?_
 refine T.front i0a h0a ?_
 refine T.front (i1a + 1) h1a ?_
 refine sq ?_
 refine A.bx rfl rfl (fun b1 => ?_)
 refine A.bx rfl rfl (fun b2 => ?_)
 refine st ?_
 refine T.seq ?_
 refine T.seqJ (fun (s1 : Bool) (x1 : Unit) => [(2, .pointer (some ⟨b1, 0, none⟩)), (3, .pointer (some ⟨b2, 0, none⟩)), (35, .bool s1)]) (fun s1 x1 => Cl b1 36 [.int .i64 a0.1, .int .i64 a0.2.1, .slice A0a a0.2.2.1.length c0a, .int .i64 a0.2.2.2] :: Ro el20 A0a c0a a0.2.2.1 :: Cl b2 36 [.int .i64 a1.1, .int .i64 a1.2.1, .slice A1a a1.2.2.1.length c1a, .int .i64 a1.2.2.2] :: Ro el20 A1a c1a a1.2.2.1 :: hs) (fun s1 => ref17_Same.k1 a0 a1 s1 = some r) (fun s1 x1 hk1 => ?_) (fun J1 => ?_)
 ·unfold ref17_Same.k1 at hk1
  refine A.cd hk1 rfl (fun hb1 hk1 => ?_) (fun hb1 hk1 => ?_)
  ·refine sq ?_
   obtain rfl := inv_some hk1
   refine pk [] 4 ?_
   refine T.ret1 rfl rfl (fun w hS => ⟨(), rfl, hS⟩)
  ·refine st ?_
   refine T.seqJ (fun (s2 : Unit) (x2 : Unit) => []) (fun s2 x2 => hs) (fun s2 => ref17_Same.k2 s2 = some r) (fun s2 x2 hk2 => ?_) (fun J2 => ?_)
   ·unfold ref17_Same.k2 at hk2
    refine sq ?_
    obtain rfl := inv_some hk2
    refine pk [] 0 ?_
    refine T.ret1 rfl rfl (fun w hS => ⟨(), rfl, hS⟩)
   ·refine sq ?_
    obtain ⟨e1, hl1, hk1⟩ := inv_bind hk1
    refine jn [0, 1, 2, 3] 4 (T.loop (s0 := 0) (env := fun s3 x3 => [(2, .pointer (some ⟨b1, 0, none⟩)), (3, .pointer (some ⟨b2, 0, none⟩)), (5, .int .i64 s3)]) (hs := fun (s3 : Int) (x3 : Unit) => Cl b1 36 [.int .i64 a0.1, .int .i64 a0.2.1, .slice A0a a0.2.2.1.length c0a, .int .i64 a0.2.2.2] :: Ro el20 A0a c0a a0.2.2.1 :: Cl b2 36 [.int .i64 a1.1, .int .i64 a1.2.1, .slice A1a a1.2.2.1.length c1a, .int .i64 a1.2.2.2] :: Ro el20 A1a c1a a1.2.2.1 :: hs) hl1 () (fun K1 s3 x3 o1 he1 hm1 hx1 => ?_))
    unfold ref17_Same.st1 at he1
    refine sq ?_
    refine A.cd he1 rfl (fun hb2 he1 => ?_) (fun hb2 he1 => ?_)
    ·refine st ?_
     refine T.seq ?_
     refine st ?_
     refine T.seqJ (fun (s4 : (List ty7) × (List ty7)) (x4 : (Nat) × ty3 × (Nat) × ty3) => [(2, .pointer (some ⟨b1, 0, none⟩)), (3, .pointer (some ⟨b2, 0, none⟩)), (5, .int .i64 s3), (6, .pointer (some ⟨x4.1, 0, none⟩)), (7, .pointer (some ⟨x4.2.2.1, 0, none⟩))]) (fun s4 x4 => Cl b1 36 [.int .i64 a0.1, .int .i64 a0.2.1, .slice A0a a0.2.2.1.length c0a, .int .i64 a0.2.2.2] :: Ro el20 A0a c0a a0.2.2.1 :: Cl b2 36 [.int .i64 a1.1, .int .i64 a1.2.1, .slice A1a a1.2.2.1.length c1a, .int .i64 a1.2.2.2] :: Ro el20 A1a c1a a1.2.2.1 :: Cl x4.1 58 [.int .i64 ((((a0.2.2.1.getD (s3 : Int).toNat default)).1)), .int .i64 ((((a0.2.2.1.getD (s3 : Int).toNat default)).2.1)), .slice x4.2.1.1 s4.1.length x4.2.1.2] :: Ro el17 x4.2.1.1 x4.2.1.2 s4.1 :: Cl x4.2.2.1 58 [.int .i64 ((((a1.2.2.1.getD (s3 : Int).toNat default)).1)), .int .i64 ((((a1.2.2.1.getD (s3 : Int).toNat default)).2.1)), .slice x4.2.2.2.1 s4.2.length x4.2.2.2.2] :: Ro el17 x4.2.2.2.1 x4.2.2.2.2 s4.2 :: hs) (fun s4 => ref17_Same.k3 a0 s3 a1 s4 = some o1) (fun s4 x4 hk3 => ?_) (fun J3 => ?_)
     ·unfold ref17_Same.k3 at hk3
      refine T.seqJ (fun (s5 : Bool) (x5 : Unit) => [(2, .pointer (some ⟨b1, 0, none⟩)), (3, .pointer (some ⟨b2, 0, none⟩)), (5, .int .i64 s3), (72, .bool s5)]) (fun s5 x5 => Cl b1 36 [.int .i64 a0.1, .int .i64 a0.2.1, .slice A0a a0.2.2.1.length c0a, .int .i64 a0.2.2.2] :: Ro el20 A0a c0a a0.2.2.1 :: Cl b2 36 [.int .i64 a1.1, .int .i64 a1.2.1, .slice A1a a1.2.2.1.length c1a, .int .i64 a1.2.2.2] :: Ro el20 A1a c1a a1.2.2.1 :: hs) (fun s5 => ref17_Same.k4 s3 s5 = some o1) (fun s5 x5 hk4 => ?_) (fun J4 => ?_)
      ·unfold ref17_Same.k4 at hk4
       refine A.cd hk4 rfl (fun hb3 hk4 => ?_) (fun hb3 hk4 => ?_)
       ·refine sq ?_
        obtain rfl := inv_some hk4
        obtain rfl := hx1 _ rfl
        refine st ?_
        obtain rfl := inv_some hk1
        refine pk [] 4 ?_
        refine T.ret1 rfl rfl (fun w hS => ⟨(), rfl, hS⟩)
       ·refine T.skip ?_
        refine sx ?_
        refine T.region ?_
        refine sx ?_
        obtain rfl := inv_some hk4
        exact jn [0, 1, 2, 3] 4 (hm1 (IntKind.i64.wrap (s3 + 1)) rfl ())
      ·refine st ?_
       refine br hk3 (fun hb4 hk3 => ?_) (fun hb4 hk3 => ?_)
       ·refine st ?_
        refine br hk3 (fun hb5 hk3 => ?_) (fun hb5 hk3 => ?_)
        ·refine st ?_
         obtain ⟨r1, hg1, hk3⟩ := inv_bind hk3
         refine A.c2g rfl rfl (not_t hb5) rfl rfl rfl Tryd.func41 rfl (fun w hS => ref16_SameOps.c hB hS (i0 := 5) (i1 := 7) rfl rfl hg1) (fun x6 => ?_)
         refine T.not .list rfl (wants1 rfl rfl rfl (not_t hb5)) rfl rfl ?_
         refine sx ?_
         exact jn [0, 1, 2, 3] 8 (J4 (!r1) () hk3)
        ·refine sx ?_
         exact jn [0, 1, 2, 3] 8 (J4 true () hk3)
       ·refine sx ?_
        exact jn [0, 1, 2, 3] 8 (J4 true () hk3)
     ·refine T.dStart mixed ?_
      refine D.fi 0 ?_
      refine D.mv 2 ?_
      refine D.fi 5 ?_
      refine D.mv 7 ?_
      refine T.dAdd 14 (fun w => w.heap[b1]? = some (.cells [.int .i64 a0.1, .int .i64 a0.2.1, .slice A0a a0.2.2.1.length c0a, .int .i64 a0.2.2.2].toArray 36 (0, 0))) (Cl.stays 0 rfl) ?_
      refine D.ld 0 1 (.slice A0a a0.2.2.1.length c0a) ?_
      obtain ⟨hc1, he1⟩ := inv_chk he1
      refine T.idxRo (.dPure (i := 3) rfl (by kernel_rfl) (fun d _ _ _ _ h => by cases d <;> exact h)) 1 rfl rfl (wants0 rfl) rfl rfl rfl hc1.1 hc1.2 (Nat.le_refl _) ?_
      refine T.openEl 1 (j := s3) (Sh.pair Sh.sc (Sh.pair Sh.sc Sh.slice)) rfl hc1.1 hc1.2 (v := fun x7 => [.int .i64 ((((a0.2.2.1.getD (s3 : Int).toNat default)).1)), .int .i64 ((((a0.2.2.1.getD (s3 : Int).toNat default)).2.1)), .slice x7.2.2.1 (((((a0.2.2.1.getD (s3 : Int).toNat default)).2.2)).length) x7.2.2.2]) (hs' := fun x7 => Ro el17 x7.2.2.1 x7.2.2.2 ((((a0.2.2.1.getD (s3 : Int).toNat default)).2.2)) :: Cl b1 36 [.int .i64 a0.1, .int .i64 a0.2.1, .slice A0a a0.2.2.1.length c0a, .int .i64 a0.2.2.2] :: Ro el20 A0a c0a a0.2.2.1 :: Cl b2 36 [.int .i64 a1.1, .int .i64 a1.2.1, .slice A1a a1.2.2.1.length c1a, .int .i64 a1.2.2.2] :: Ro el20 A1a c1a a1.2.2.1 :: hs) (fun _ => rfl) (fun _ => rfl) (fun z1 x7 hk5 => ?_)
      refine T.dAdd 14 (fun w => PH.le z1 (PH.of w)) (Kp.le 0 rfl) ?_
      refine T.valS 0 (i := 4) (.agg #[.int .i64 ((((a0.2.2.1.getD (s3 : Int).toNat default)).1)), .int .i64 ((((a0.2.2.1.getD (s3 : Int).toNat default)).2.1)), .slice x7.2.2.1 (((((a0.2.2.1.getD (s3 : Int).toNat default)).2.2)).length) x7.2.2.2]) rfl rfl (by kernel_rfl) (by kernel_rfl) (fun d _ _ _ _ h => by cases d <;> exact h) (wants0 rfl) rfl (run_ldSl hk5 rfl rfl) ?_
      refine T.dAdd 14 (fun w => w.heap[b2]? = some (.cells [.int .i64 a1.1, .int .i64 a1.2.1, .slice A1a a1.2.2.1.length c1a, .int .i64 a1.2.2.2].toArray 36 (0, 0))) (Cl.stays 4 rfl) ?_
      refine D.ld 0 6 (.slice A1a a1.2.2.1.length c1a) ?_
      obtain ⟨hc2, he1⟩ := inv_chk he1
      refine T.idxRo (.dPure (i := 8) rfl (by kernel_rfl) (fun d _ _ _ _ h => by cases d <;> exact h)) 5 rfl rfl (wants0 rfl) rfl rfl rfl hc2.1 hc2.2 (Nat.le_refl _) ?_
      refine T.openEl 5 (j := s3) (Sh.pair Sh.sc (Sh.pair Sh.sc Sh.slice)) rfl hc2.1 hc2.2 (v := fun x8 => [.int .i64 ((((a1.2.2.1.getD (s3 : Int).toNat default)).1)), .int .i64 ((((a1.2.2.1.getD (s3 : Int).toNat default)).2.1)), .slice x8.2.2.1 (((((a1.2.2.1.getD (s3 : Int).toNat default)).2.2)).length) x8.2.2.2]) (hs' := fun x8 => Ro el17 x8.2.2.1 x8.2.2.2 ((((a1.2.2.1.getD (s3 : Int).toNat default)).2.2)) :: Kp z1 :: Ro el17 x7.2.2.1 x7.2.2.2 ((((a0.2.2.1.getD (s3 : Int).toNat default)).2.2)) :: Cl b1 36 [.int .i64 a0.1, .int .i64 a0.2.1, .slice A0a a0.2.2.1.length c0a, .int .i64 a0.2.2.2] :: Ro el20 A0a c0a a0.2.2.1 :: Cl b2 36 [.int .i64 a1.1, .int .i64 a1.2.1, .slice A1a a1.2.2.1.length c1a, .int .i64 a1.2.2.2] :: Ro el20 A1a c1a a1.2.2.1 :: hs) (fun _ => rfl) (fun _ => rfl) (fun z2 x8 hk6 => ?_)
      refine T.dAdd 14 (fun w => PH.le z2 (PH.of w)) (Kp.le 0 rfl) ?_
      refine T.valS 0 (i := 9) (.agg #[.int .i64 ((((a1.2.2.1.getD (s3 : Int).toNat default)).1)), .int .i64 ((((a1.2.2.1.getD (s3 : Int).toNat default)).2.1)), .slice x8.2.2.1 (((((a1.2.2.1.getD (s3 : Int).toNat default)).2.2)).length) x8.2.2.2]) rfl rfl (by kernel_rfl) (by kernel_rfl) (fun d _ _ _ _ h => by cases d <;> exact h) (wants0 rfl) rfl (run_ldSl hk6 rfl rfl) ?_
      refine T.d2 (i := 10) (j := 11) (by kernel_rfl) ?_ ?_ 
      ·refine T.allocS (.dOne rfl (by kernel_rfl)) rfl (wants0 rfl) rfl (cs := [.int .i64 0, .int .i64 0, .slice none 0 0]) rfl (fun b3 => ?_)
       refine T.dNext (phi_cons (.inr (Kp.le 1 rfl)) (phi_cons (.inr (Cl.stays 7 rfl)) (phi_cons (.inr (Kp.le 3 rfl)) (phi_cons (.inr (Cl.stays 5 rfl)) phi_nil)))) ?_
       refine D.on 11 ?_
       refine T.allocS (.dOne rfl (by kernel_rfl)) rfl (wants0 rfl) rfl (cs := [.int .i64 0, .int .i64 0, .slice none 0 0]) rfl (fun b4 => ?_)
       refine T.dNext (phi_cons (.inr (Kp.le 2 rfl)) (phi_cons (.inr (Cl.stays 8 rfl)) (phi_cons (.inr (Kp.le 4 rfl)) (phi_cons (.inr (Cl.stays 6 rfl)) phi_nil)))) ?_
       refine D.on 12 ?_
       refine T.store (.dOne rfl (by kernel_rfl)) 1 rfl rfl (wants0 rfl) rfl rfl rfl rfl (Nat.le_of_ble_eq_true rfl) rfl (cs' := [.int .i64 ((((a0.2.2.1.getD (s3 : Int).toNat default)).1)), .int .i64 ((((a0.2.2.1.getD (s3 : Int).toNat default)).2.1)), .slice x7.2.2.1 (((((a0.2.2.1.getD (s3 : Int).toNat default)).2.2)).length) x7.2.2.2]) rfl rfl ?_
       refine T.dNext (phi_cons (.inr (Kp.le 2 rfl)) (phi_cons (.inr (Cl.stays 8 rfl)) (phi_cons (.inr (Kp.le 4 rfl)) (phi_cons (.inr (Cl.stays 6 rfl)) phi_nil)))) ?_
       refine D.on 13 ?_
       refine T.store (.dOne rfl (by kernel_rfl)) 0 rfl rfl (wants0 rfl) rfl rfl rfl rfl (Nat.le_of_ble_eq_true rfl) rfl (cs' := [.int .i64 ((((a1.2.2.1.getD (s3 : Int).toNat default)).1)), .int .i64 ((((a1.2.2.1.getD (s3 : Int).toNat default)).2.1)), .slice x8.2.2.1 (((((a1.2.2.1.getD (s3 : Int).toNat default)).2.2)).length) x8.2.2.2]) rfl rfl ?_
       refine T.dNext (phi_cons (.inr (Kp.le 2 rfl)) (phi_cons (.inr (Cl.stays 8 rfl)) (phi_cons (.inr (Kp.le 4 rfl)) (phi_cons (.inr (Cl.stays 6 rfl)) phi_nil)))) ?_
       refine T.dDone (by kernel_rfl) ?_
       refine sx ?_
       exact jn [6, 7, 8, 9, 1, 5, 0, 3] 10 (J3 ((((a0.2.2.1.getD (s3 : Int).toNat default)).2.2), (((a1.2.2.1.getD (s3 : Int).toNat default)).2.2)) (b3, (x7.2.2.1, x7.2.2.2), b4, (x8.2.2.1, x8.2.2.2)) he1)
      ·refine T.allocS (.dOne rfl (by kernel_rfl)) rfl (wants0 rfl) rfl (cs := [.int .i64 0, .int .i64 0, .slice none 0 0]) rfl (fun b4 => ?_)
       refine T.dNext (phi_cons (.inr (Kp.le 1 rfl)) (phi_cons (.inr (Cl.stays 7 rfl)) (phi_cons (.inr (Kp.le 3 rfl)) (phi_cons (.inr (Cl.stays 5 rfl)) phi_nil)))) ?_
       refine D.on 10 ?_
       refine T.allocS (.dOne rfl (by kernel_rfl)) rfl (wants0 rfl) rfl (cs := [.int .i64 0, .int .i64 0, .slice none 0 0]) rfl (fun b3 => ?_)
       refine T.dNext (phi_cons (.inr (Kp.le 2 rfl)) (phi_cons (.inr (Cl.stays 8 rfl)) (phi_cons (.inr (Kp.le 4 rfl)) (phi_cons (.inr (Cl.stays 6 rfl)) phi_nil)))) ?_
       refine D.on 12 ?_
       refine T.store (.dOne rfl (by kernel_rfl)) 0 rfl rfl (wants0 rfl) rfl rfl rfl rfl (Nat.le_of_ble_eq_true rfl) rfl (cs' := [.int .i64 ((((a0.2.2.1.getD (s3 : Int).toNat default)).1)), .int .i64 ((((a0.2.2.1.getD (s3 : Int).toNat default)).2.1)), .slice x7.2.2.1 (((((a0.2.2.1.getD (s3 : Int).toNat default)).2.2)).length) x7.2.2.2]) rfl rfl ?_
       refine T.dNext (phi_cons (.inr (Kp.le 2 rfl)) (phi_cons (.inr (Cl.stays 8 rfl)) (phi_cons (.inr (Kp.le 4 rfl)) (phi_cons (.inr (Cl.stays 6 rfl)) phi_nil)))) ?_
       refine D.on 13 ?_
       refine T.store (.dOne rfl (by kernel_rfl)) 1 rfl rfl (wants0 rfl) rfl rfl rfl rfl (Nat.le_of_ble_eq_true rfl) rfl (cs' := [.int .i64 ((((a1.2.2.1.getD (s3 : Int).toNat default)).1)), .int .i64 ((((a1.2.2.1.getD (s3 : Int).toNat default)).2.1)), .slice x8.2.2.1 (((((a1.2.2.1.getD (s3 : Int).toNat default)).2.2)).length) x8.2.2.2]) rfl rfl ?_
       refine T.dNext (phi_cons (.inr (Kp.le 2 rfl)) (phi_cons (.inr (Cl.stays 8 rfl)) (phi_cons (.inr (Kp.le 4 rfl)) (phi_cons (.inr (Cl.stays 6 rfl)) phi_nil)))) ?_
       refine T.dDone (by kernel_rfl) ?_
       refine sx ?_
       exact jn [6, 7, 8, 9, 0, 5, 1, 3] 10 (J3 ((((a0.2.2.1.getD (s3 : Int).toNat default)).2.2), (((a1.2.2.1.getD (s3 : Int).toNat default)).2.2)) (b3, (x7.2.2.1, x7.2.2.2), b4, (x8.2.2.1, x8.2.2.2)) he1)
    ·refine T.exit ?_
     refine sx ?_
     obtain rfl := inv_some he1
     obtain rfl := hx1 _ rfl
     refine sx ?_
     exact T.le EnvLe.nil (T.pick [] 4 rfl rfl nla rfl (J2 () () hk1))
 ·refine st ?_
  refine br hr (fun hb6 hr => ?_) (fun hb6 hr => ?_)
  ·refine st ?_
   refine br hr (fun hb7 hr => ?_) (fun hb7 hr => ?_)
   ·refine st ?_
    refine br hr (fun hb8 hr => ?_) (fun hb8 hr => ?_)
    ·refine sx ?_
     exact jn [1, 3, 0, 2] 4 (J1 (!(decide ((((a0.2.2.1.length : Int))) = ((a1.2.2.1.length : Int))))) () hr)
    ·refine sx ?_
     exact jn [1, 3, 0, 2] 4 (J1 true () hr)
   ·refine sx ?_
    exact jn [1, 3, 0, 2] 4 (J1 true () hr)
  ·refine sx ?_
   exact jn [1, 3, 0, 2] 4 (J1 true () hr)
end Go.Proofs.YtpogdeibkghhaaaDoor
