/- Ref: what the functions compute, and that the program computes it; printed by a program of ours. -/
import Derived.Test.YtpogdeibkghhaaaDoorKeys
import Derived.Test.YtpogdeibkghhaaaDoorNam
set_option linter.unusedVariables false
set_option linter.unusedSimpArgs false
namespace Go.Proofs.YtpogdeibkghhaaaDoor
open Go.RowKit
set_option maxRecDepth 100000
set_option maxHeartbeats 4000000
variable {B : World} {hs : List MP} {w : World}
noncomputable def ref2_Decode.k1 (s1 : List Int) : Option (List Int × Bool) :=
  some (s1, true)
noncomputable def ref2_Decode.k4 (s2 : List Int × Int) (s4 : Int) (s3 : Int × Int) (s5 : Bool) : Option ((List Int × Int) ⊕ ((List Int × Bool) ⊕ (List Int))) :=
  (if s5 = true then some (.inr (.inl (([] : List Int), false))) else chk ((s2.1.length + (([s4] : List Int)).length) * 4 ≤ 140737488355328) (some (.inl ((s2.1 ++ (([s4] : List Int))), IntKind.i64.wrap (s2.2 + s3.1)))))
noncomputable def ref2_Decode.k3 (s3 : Int × Int) (s2 : List Int × Int) (s4 : Int) : Option ((List Int × Int) ⊕ ((List Int × Bool) ⊕ (List Int))) :=
  (if ((decide (s3.1 = 3))) = true then (if ((decide (s4 < 2048))) = true then ref2_Decode.k4 s2 s4 s3 true else (if ((decide (s3.1 = 4))) = true then (if ((decide (s4 < 65536))) = true then ref2_Decode.k4 s2 s4 s3 true else (if ((decide ((1114111 : Int) < s4))) = true then ref2_Decode.k4 s2 s4 s3 true else (if ((decide ((55296 : Int) ≤ s4))) = true then ref2_Decode.k4 s2 s4 s3 (decide (s4 < 57344)) else ref2_Decode.k4 s2 s4 s3 false))) else (if ((decide ((55296 : Int) ≤ s4))) = true then ref2_Decode.k4 s2 s4 s3 (decide (s4 < 57344)) else ref2_Decode.k4 s2 s4 s3 false))) else (if ((decide (s3.1 = 4))) = true then (if ((decide (s4 < 65536))) = true then ref2_Decode.k4 s2 s4 s3 true else (if ((decide ((1114111 : Int) < s4))) = true then ref2_Decode.k4 s2 s4 s3 true else (if ((decide ((55296 : Int) ≤ s4))) = true then ref2_Decode.k4 s2 s4 s3 (decide (s4 < 57344)) else ref2_Decode.k4 s2 s4 s3 false))) else (if ((decide ((55296 : Int) ≤ s4))) = true then ref2_Decode.k4 s2 s4 s3 (decide (s4 < 57344)) else ref2_Decode.k4 s2 s4 s3 false)))
noncomputable def ref2_Decode.st2 (s3 : Int × Int) (s2 : List Int × Int) (l0 : List UInt8) (s6 : Int × Int) : Option ((Int × Int) ⊕ ((List Int × Bool) ⊕ Int)) :=
  (if ((decide (s6.2 < s3.1))) = true then chk (0 ≤ (IntKind.i64.wrap (s2.2 + s6.2)) ∧ (IntKind.i64.wrap (s2.2 + s6.2)) < (l0.length : Int)) ((if ((!(decide (((bitsOf .and .u8 (((l0.getD (IntKind.i64.wrap (s2.2 + s6.2) : Int).toNat default).toNat : Int)) 192)) = 128)))) = true then some (.inr (.inl (([] : List Int), false))) else chk (0 ≤ (IntKind.i64.wrap (s2.2 + s6.2)) ∧ (IntKind.i64.wrap (s2.2 + s6.2)) < (l0.length : Int)) (some (.inl (bitsOf .or .i32 (shlI .i32 s6.1 6) (IntKind.i32.wrap (bitsOf .and .u8 (((l0.getD (IntKind.i64.wrap (s2.2 + s6.2) : Int).toNat default).toNat : Int)) 63)), IntKind.i64.wrap (s6.2 + 1)))))) else some (.inr (.inr s6.1)))
noncomputable def ref2_Decode.k2 (l0 : List UInt8) (s2 : List Int × Int) (s3 : Int × Int) : Option ((List Int × Int) ⊕ ((List Int × Bool) ⊕ (List Int))) :=
  (if ((decide ((((l0.length : Int))) < (IntKind.i64.wrap (s2.2 + s3.1))))) = true then some (.inr (.inl (([] : List Int), false))) else (loop (ref2_Decode.st2 s3 s2 l0) (s3.2, 1)).bind (fun e2 => match e2 with | .inl v => some (.inr (.inl v)) | .inr v => ref2_Decode.k3 s3 s2 v))
noncomputable def ref2_Decode.k7 (l0 : List UInt8) (s2 : List Int × Int) (s9 : Bool) : Option ((List Int × Int) ⊕ ((List Int × Bool) ⊕ (List Int))) :=
  (if s9 = true then ref2_Decode.k2 l0 s2 (4, IntKind.i32.wrap (bitsOf .and .u8 (((l0.getD (s2.2 : Int).toNat default).toNat : Int)) 7)) else some (.inr (.inl (([] : List Int), false))))
noncomputable def ref2_Decode.k6 (l0 : List UInt8) (s2 : List Int × Int) (s8 : Bool) : Option ((List Int × Int) ⊕ ((List Int × Bool) ⊕ (List Int))) :=
  (if s8 = true then ref2_Decode.k2 l0 s2 (3, IntKind.i32.wrap (bitsOf .and .u8 (((l0.getD (s2.2 : Int).toNat default).toNat : Int)) 15)) else (if ((decide ((240 : Int) ≤ (((l0.getD (s2.2 : Int).toNat default).toNat : Int))))) = true then ref2_Decode.k7 l0 s2 (decide (((((l0.getD (s2.2 : Int).toNat default).toNat : Int))) < 245)) else ref2_Decode.k7 l0 s2 false))
noncomputable def ref2_Decode.k5 (l0 : List UInt8) (s2 : List Int × Int) (s7 : Bool) : Option ((List Int × Int) ⊕ ((List Int × Bool) ⊕ (List Int))) :=
  (if s7 = true then ref2_Decode.k2 l0 s2 (2, IntKind.i32.wrap (bitsOf .and .u8 (((l0.getD (s2.2 : Int).toNat default).toNat : Int)) 31)) else (if ((decide ((224 : Int) ≤ (((l0.getD (s2.2 : Int).toNat default).toNat : Int))))) = true then ref2_Decode.k6 l0 s2 (decide (((((l0.getD (s2.2 : Int).toNat default).toNat : Int))) < 240)) else ref2_Decode.k6 l0 s2 false))
noncomputable def ref2_Decode.st1 (l0 : List UInt8) (s2 : List Int × Int) : Option ((List Int × Int) ⊕ ((List Int × Bool) ⊕ (List Int))) :=
  (if ((decide (s2.2 < ((l0.length : Int))))) = true then chk (0 ≤ s2.2 ∧ s2.2 < (l0.length : Int)) ((if ((decide (((((l0.getD (s2.2 : Int).toNat default).toNat : Int))) < 128))) = true then ref2_Decode.k2 l0 s2 (1, IntKind.i32.wrap (((l0.getD (s2.2 : Int).toNat default).toNat : Int))) else (if ((decide ((194 : Int) ≤ (((l0.getD (s2.2 : Int).toNat default).toNat : Int))))) = true then ref2_Decode.k5 l0 s2 (decide (((((l0.getD (s2.2 : Int).toNat default).toNat : Int))) < 224)) else ref2_Decode.k5 l0 s2 false))) else some (.inr (.inr s2.1)))
noncomputable def ref2_Decode.impl (l0 : List UInt8) : Option (List Int × Bool) :=
  (loop (ref2_Decode.st1 l0) (([] : List Int), 0)).bind (fun e1 => match e1 with | .inl v => some v | .inr v => ref2_Decode.k1 v)
theorem ref2_Decode.c {l0 : List UInt8} (hB : Base B) (hS : St B (hs) w) {r : List Int × Bool} (hr : ref2_Decode.impl l0 = some r) :
    Calls Tryd.prog 82 #[str l0] w fun e w' => ∃ x : ty3, e = .returned (.tuple #[.slice x.1 r.1.length x.2, .bool r.2]) ∧ St B (Bf E32 21 x.1 x.2 r.1 :: hs) w' := by
 unfold ref2_Decode.impl at hr
 refine calls_T Tryd.func82 rfl rfl rfl hS ?_
 refine T.seq ?_
 refine st ?_
 refine T.seq ?_
 refine st ?_
 refine T.seq ?_
 refine st ?_
 refine T.seqJ (fun (s1 : List Int) (x1 : ty3) => [(4, .slice x1.1 s1.length x1.2)]) (fun s1 x1 => Bf E32 21 x1.1 x1.2 s1 :: hs) (fun s1 => ref2_Decode.k1 s1 = some r) (fun s1 x1 hk1 => ?_) (fun J1 => ?_)
 ·unfold ref2_Decode.k1 at hk1
  refine sq ?_
  obtain rfl := inv_some hk1
  refine pk [0] 1 ?_
  refine T.ret2 rfl rfl rfl (fun w hS => ⟨(x1.1, x1.2), rfl, hS⟩)
 ·refine st ?_
  obtain ⟨e1, hl1, hr⟩ := inv_bind hr
  refine T.nilBf E32 21 ?_
  refine jn [0] 1 (T.loop (s0 := (([] : List Int), 0)) (env := fun s2 x2 => [(0, str l0), (4, .slice x2.1 s2.1.length x2.2), (5, .int .i64 s2.2)]) (hs := fun (s2 : List Int × Int) (x2 : ty3) => Bf E32 21 x2.1 x2.2 s2.1 :: hs) hl1 (none, 0) (fun K1 s2 x2 o1 he1 hm1 hx1 => ?_))
  unfold ref2_Decode.st1 at he1
  refine sq ?_
  refine T.lenStr .list rfl (wants0 rfl) rfl (l := l0) rfl ?_
  refine st ?_
  refine A.cd he1 rfl (fun hb1 he1 => ?_) (fun hb1 he1 => ?_)
  ·refine sq ?_
   obtain ⟨hc1, he1⟩ := inv_chk he1
   refine T.byteAt .list rfl (wants0 rfl) rfl (l := l0) rfl rfl hc1.1 hc1.2 ?_
   refine sq ?_
   refine T.conv .list rfl (wants0 rfl) rfl rfl rfl ?_
   refine st ?_
   refine T.seqJ (fun (s3 : Int × Int) (x3 : Unit) => [(0, str l0), (4, .slice x2.1 s2.1.length x2.2), (5, .int .i64 s2.2), (7, .int .i64 s3.1), (8, .int .i32 s3.2)]) (fun s3 x3 => Bf E32 21 x2.1 x2.2 s2.1 :: hs) (fun s3 => ref2_Decode.k2 l0 s2 s3 = some o1) (fun s3 x3 hk2 => ?_) (fun J2 => ?_)
   ·unfold ref2_Decode.k2 at hk2
    refine sq ?_
    refine T.lenStr .list rfl (wants0 rfl) rfl (l := l0) rfl ?_
    refine st ?_
    refine A.cd hk2 rfl (fun hb2 hk2 => ?_) (fun hb2 hk2 => ?_)
    ·refine sq ?_
     obtain rfl := inv_some hk2
     obtain rfl := hx1 _ rfl
     refine st ?_
     obtain rfl := inv_some hr
     refine T.nilBf E32 21 ?_
     refine pk [0] 2 ?_
     refine T.ret2 rfl rfl rfl (fun w hS => ⟨(none, 0), rfl, hS⟩)
    ·refine st ?_
     refine T.seqJ (fun (s4 : Int) (x4 : Unit) => [(0, str l0), (4, .slice x2.1 s2.1.length x2.2), (5, .int .i64 s2.2), (7, .int .i64 s3.1), (8, .int .i32 s4)]) (fun s4 x4 => Bf E32 21 x2.1 x2.2 s2.1 :: hs) (fun s4 => ref2_Decode.k3 s3 s2 s4 = some o1) (fun s4 x4 hk3 => ?_) (fun J3 => ?_)
     ·unfold ref2_Decode.k3 at hk3
      refine T.seq ?_
      refine T.seqJ (fun (s5 : Bool) (x5 : Unit) => [(0, str l0), (4, .slice x2.1 s2.1.length x2.2), (5, .int .i64 s2.2), (7, .int .i64 s3.1), (8, .int .i32 s4), (105, .bool s5)]) (fun s5 x5 => Bf E32 21 x2.1 x2.2 s2.1 :: hs) (fun s5 => ref2_Decode.k4 s2 s4 s3 s5 = some o1) (fun s5 x5 hk4 => ?_) (fun J4 => ?_)
      ·unfold ref2_Decode.k4 at hk4
       refine A.cd hk4 rfl (fun hb3 hk4 => ?_) (fun hb3 hk4 => ?_)
       ·refine sq ?_
        obtain rfl := inv_some hk4
        obtain rfl := hx1 _ rfl
        refine st ?_
        obtain rfl := inv_some hr
        refine T.nilBf E32 21 ?_
        refine pk [0] 2 ?_
        refine T.ret2 rfl rfl rfl (fun w hS => ⟨(none, 0), rfl, hS⟩)
       ·refine sq ?_
        refine T.lit (E := E32) .list (vals := [(0, .int .i32 s4)]) (cells := #[.int .i32 s4]) rfl (wants0 rfl) rfl rfl rfl rfl rfl (by kernel_rfl) ([s4] : List Int) rfl (fun _ _ _ _ _ => (Encs.c1 (enc := (Value.int .i32)) (h1 := fun _ => rfl) rfl rfl)) (fun b1 => ?_)
        obtain ⟨hc2, hk4⟩ := inv_chk hk4
        refine T.appBf .list 1 0 rfl rfl rfl rfl rfl (wants0 rfl) rfl rfl rfl rfl rfl rfl hc2 (fun _ _ => rfl) (fun A2 c2 => ?_)
        refine sx ?_
        refine T.region ?_
        refine sx ?_
        obtain rfl := inv_some hk4
        exact jn [1] 2 (hm1 ((s2.1 ++ (([s4] : List Int))), IntKind.i64.wrap (s2.2 + s3.1)) rfl (A2, c2))
      ·refine st ?_
       refine br hk3 (fun hb4 hk3 => ?_) (fun hb4 hk3 => ?_)
       ·refine st ?_
        refine br hk3 (fun hb5 hk3 => ?_) (fun hb5 hk3 => ?_)
        ·refine sx ?_
         exact jn [0] 1 (J4 true () hk3)
        ·refine st ?_
         refine br hk3 (fun hb6 hk3 => ?_) (fun hb6 hk3 => ?_)
         ·refine st ?_
          refine br hk3 (fun hb7 hk3 => ?_) (fun hb7 hk3 => ?_)
          ·refine sx ?_
           exact jn [0] 1 (J4 true () hk3)
          ·refine st ?_
           refine br hk3 (fun hb8 hk3 => ?_) (fun hb8 hk3 => ?_)
           ·refine sx ?_
            exact jn [0] 1 (J4 true () hk3)
           ·refine st ?_
            refine br hk3 (fun hb9 hk3 => ?_) (fun hb9 hk3 => ?_)
            ·refine sx ?_
             exact jn [0] 1 (J4 (decide (s4 < 57344)) () hk3)
            ·refine sx ?_
             exact jn [0] 1 (J4 false () hk3)
         ·refine st ?_
          refine br hk3 (fun hb10 hk3 => ?_) (fun hb10 hk3 => ?_)
          ·refine sx ?_
           exact jn [0] 1 (J4 (decide (s4 < 57344)) () hk3)
          ·refine sx ?_
           exact jn [0] 1 (J4 false () hk3)
       ·refine st ?_
        refine br hk3 (fun hb11 hk3 => ?_) (fun hb11 hk3 => ?_)
        ·refine st ?_
         refine br hk3 (fun hb12 hk3 => ?_) (fun hb12 hk3 => ?_)
         ·refine sx ?_
          exact jn [0] 1 (J4 true () hk3)
         ·refine st ?_
          refine br hk3 (fun hb13 hk3 => ?_) (fun hb13 hk3 => ?_)
          ·refine sx ?_
           exact jn [0] 1 (J4 true () hk3)
          ·refine st ?_
           refine br hk3 (fun hb14 hk3 => ?_) (fun hb14 hk3 => ?_)
           ·refine sx ?_
            exact jn [0] 1 (J4 (decide (s4 < 57344)) () hk3)
           ·refine sx ?_
            exact jn [0] 1 (J4 false () hk3)
        ·refine st ?_
         refine br hk3 (fun hb15 hk3 => ?_) (fun hb15 hk3 => ?_)
         ·refine sx ?_
          exact jn [0] 1 (J4 (decide (s4 < 57344)) () hk3)
         ·refine sx ?_
          exact jn [0] 1 (J4 false () hk3)
     ·refine sq ?_
      obtain ⟨e2, hl2, hk2⟩ := inv_bind hk2
      refine jn [0] 1 (T.loop (s0 := (s3.2, 1)) (env := fun s6 x6 => [(0, str l0), (4, .slice x2.1 s2.1.length x2.2), (5, .int .i64 s2.2), (7, .int .i64 s3.1), (8, .int .i32 s6.1), (9, .int .i64 s6.2)]) (hs := fun (s6 : Int × Int) (x6 : Unit) => Bf E32 21 x2.1 x2.2 s2.1 :: hs) hl2 () (fun K2 s6 x6 o2 he2 hm2 hx2 => ?_))
      unfold ref2_Decode.st2 at he2
      refine sq ?_
      refine A.cd he2 rfl (fun hb16 he2 => ?_) (fun hb16 he2 => ?_)
      ·refine sq ?_
       obtain ⟨hc3, he2⟩ := inv_chk he2
       refine T.byteAt .list rfl (wants0 rfl) rfl (l := l0) rfl rfl hc3.1 hc3.2 ?_
       refine st ?_
       refine A.cd he2 rfl (fun hb17 he2 => ?_) (fun hb17 he2 => ?_)
       ·refine sq ?_
        obtain rfl := inv_some he2
        obtain rfl := hx2 _ rfl
        refine st ?_
        obtain rfl := inv_some hk2
        obtain rfl := hx1 _ rfl
        refine st ?_
        obtain rfl := inv_some hr
        refine T.nilBf E32 21 ?_
        refine pk [0] 2 ?_
        refine T.ret2 rfl rfl rfl (fun w hS => ⟨(none, 0), rfl, hS⟩)
       ·refine st ?_
        refine T.shl .list rfl (wants0 rfl) rfl rfl rfl (by decide) ?_
        refine st ?_
        obtain ⟨hc4, he2⟩ := inv_chk he2
        refine T.byteAt .list rfl (wants0 rfl) rfl (l := l0) rfl rfl hc4.1 hc4.2 ?_
        refine st ?_
        refine T.conv .list rfl (wants0 rfl) rfl rfl rfl ?_
        refine sx ?_
        refine T.region ?_
        refine sx ?_
        obtain rfl := inv_some he2
        exact jn [0] 1 (hm2 (bitsOf .or .i32 (shlI .i32 s6.1 6) (IntKind.i32.wrap (bitsOf .and .u8 (((l0.getD (IntKind.i64.wrap (s2.2 + s6.2) : Int).toNat default).toNat : Int)) 63)), IntKind.i64.wrap (s6.2 + 1)) rfl ())
      ·refine T.exit ?_
       refine sx ?_
       obtain rfl := inv_some he2
       obtain rfl := hx2 _ rfl
       refine sx ?_
       exact jn [0] 1 (J3 s6.1 () hk2)
   ·refine sq ?_
    refine A.cd he1 rfl (fun hb18 he1 => ?_) (fun hb18 he1 => ?_)
    ·refine T.skip ?_
     refine sx ?_
     exact jn [0] 1 (J2 (1, IntKind.i32.wrap (((l0.getD (s2.2 : Int).toNat default).toNat : Int))) () he1)
    ·refine T.seqJ (fun (s7 : Bool) (x7 : Unit) => [(0, str l0), (4, .slice x2.1 s2.1.length x2.2), (5, .int .i64 s2.2), (6, .int .u8 (((l0.getD (s2.2 : Int).toNat default).toNat : Int))), (22, .bool s7)]) (fun s7 x7 => Bf E32 21 x2.1 x2.2 s2.1 :: hs) (fun s7 => ref2_Decode.k5 l0 s2 s7 = some o1) (fun s7 x7 hk5 => ?_) (fun J5 => ?_)
     ·unfold ref2_Decode.k5 at hk5
      refine A.cd hk5 rfl (fun hb19 hk5 => ?_) (fun hb19 hk5 => ?_)
      ·refine st ?_
       refine T.conv .list rfl (wants0 rfl) rfl rfl rfl ?_
       refine sx ?_
       exact jn [0] 1 (J2 (2, IntKind.i32.wrap (bitsOf .and .u8 (((l0.getD (s2.2 : Int).toNat default).toNat : Int)) 31)) () hk5)
      ·refine T.seqJ (fun (s8 : Bool) (x8 : Unit) => [(0, str l0), (4, .slice x2.1 s2.1.length x2.2), (5, .int .i64 s2.2), (6, .int .u8 (((l0.getD (s2.2 : Int).toNat default).toNat : Int))), (32, .bool s8)]) (fun s8 x8 => Bf E32 21 x2.1 x2.2 s2.1 :: hs) (fun s8 => ref2_Decode.k6 l0 s2 s8 = some o1) (fun s8 x8 hk6 => ?_) (fun J6 => ?_)
       ·unfold ref2_Decode.k6 at hk6
        refine A.cd hk6 rfl (fun hb20 hk6 => ?_) (fun hb20 hk6 => ?_)
        ·refine st ?_
         refine T.conv .list rfl (wants0 rfl) rfl rfl rfl ?_
         refine sx ?_
         exact jn [0] 1 (J2 (3, IntKind.i32.wrap (bitsOf .and .u8 (((l0.getD (s2.2 : Int).toNat default).toNat : Int)) 15)) () hk6)
        ·refine T.seqJ (fun (s9 : Bool) (x9 : Unit) => [(0, str l0), (4, .slice x2.1 s2.1.length x2.2), (5, .int .i64 s2.2), (6, .int .u8 (((l0.getD (s2.2 : Int).toNat default).toNat : Int))), (42, .bool s9)]) (fun s9 x9 => Bf E32 21 x2.1 x2.2 s2.1 :: hs) (fun s9 => ref2_Decode.k7 l0 s2 s9 = some o1) (fun s9 x9 hk7 => ?_) (fun J7 => ?_)
         ·unfold ref2_Decode.k7 at hk7
          refine A.cd hk7 rfl (fun hb21 hk7 => ?_) (fun hb21 hk7 => ?_)
          ·refine st ?_
           refine T.conv .list rfl (wants0 rfl) rfl rfl rfl ?_
           refine sx ?_
           exact jn [0] 1 (J2 (4, IntKind.i32.wrap (bitsOf .and .u8 (((l0.getD (s2.2 : Int).toNat default).toNat : Int)) 7)) () hk7)
          ·refine sq ?_
           obtain rfl := inv_some hk7
           obtain rfl := hx1 _ rfl
           refine st ?_
           obtain rfl := inv_some hr
           refine T.nilBf E32 21 ?_
           refine pk [0] 2 ?_
           refine T.ret2 rfl rfl rfl (fun w hS => ⟨(none, 0), rfl, hS⟩)
         ·refine st ?_
          refine br hk6 (fun hb22 hk6 => ?_) (fun hb22 hk6 => ?_)
          ·refine sx ?_
           exact jn [0] 1 (J7 (decide (((((l0.getD (s2.2 : Int).toNat default).toNat : Int))) < 245)) () hk6)
          ·refine sx ?_
           exact jn [0] 1 (J7 false () hk6)
       ·refine st ?_
        refine br hk5 (fun hb23 hk5 => ?_) (fun hb23 hk5 => ?_)
        ·refine sx ?_
         exact jn [0] 1 (J6 (decide (((((l0.getD (s2.2 : Int).toNat default).toNat : Int))) < 240)) () hk5)
        ·refine sx ?_
         exact jn [0] 1 (J6 false () hk5)
     ·refine st ?_
      refine br he1 (fun hb24 he1 => ?_) (fun hb24 he1 => ?_)
      ·refine sx ?_
       exact jn [0] 1 (J5 (decide (((((l0.getD (s2.2 : Int).toNat default).toNat : Int))) < 224)) () he1)
      ·refine sx ?_
       exact jn [0] 1 (J5 false () he1)
  ·refine T.exit ?_
   refine sx ?_
   obtain rfl := inv_some he1
   obtain rfl := hx1 _ rfl
   refine sx ?_
   exact jn [0] 1 (J1 s2.1 (x2.1, x2.2) hr)

noncomputable def ref2_Right.k1 (s1 : Bool) : Option Int :=
  (if s1 = true then some 1 else some 0)
noncomputable def ref2_Right.k2 (s2 : Bool) : Option Int :=
  (if s2 = true then some 1 else some 0)
noncomputable def ref2_Right.impl (a0 : ty4) : Option Int :=
  (if ((decide (a0.1 = 0))) = true then (if ((decide (a0.2.1 = 0))) = true then ref2_Right.k1 (!(decide (a0.2.2 = (([] : List UInt8))))) else ref2_Right.k1 true) else (if ((decide (a0.1 = 1))) = true then (if ((!(decide (a0.2.2 = (([] : List UInt8)))))) = true then some 1 else some 0) else (if ((decide (a0.1 = 2))) = true then (if ((!(decide (a0.2.1 = 0)))) = true then some 1 else (ref2_Decode.impl a0.2.2).bind fun r1 => (if ((!r1.2)) = true then some 12 else some 0)) else (if ((decide (a0.1 = 3))) = true then (if ((decide (a0.2.2 = (([] : List UInt8))))) = true then (if ((decide (a0.2.1 < 0))) = true then ref2_Right.k2 true else ref2_Right.k2 (decide ((1 : Int) < a0.2.1))) else ref2_Right.k2 true) else some 1))))
theorem ref2_Right.c {a0 : ty4} (hB : Base B) (hS : St B (hs) w) {r : Int} (hr : ref2_Right.impl a0 = some r) :
    Calls Tryd.prog 65 #[.agg #[.int .i64 a0.1, .int .i64 a0.2.1, str a0.2.2]] w fun e w' => ∃ x : Unit, e = .returned (.int .i64 r) ∧ St B (hs) w' := by
 unfold ref2_Right.impl at hr
 refine calls_T Tryd.func65 rfl rfl rfl hS ?_
 refine sq ?_
 refine A.bx rfl rfl (fun b1 => ?_)
 refine sq ?_
 refine A.cd hr rfl (fun hb1 hr => ?_) (fun hb1 hr => ?_)
 ·refine T.seqJ (fun (s1 : Bool) (x1 : Unit) => [(16, .bool s1)]) (fun s1 x1 => hs) (fun s1 => ref2_Right.k1 s1 = some r) (fun s1 x1 hk1 => ?_) (fun J1 => ?_)
  ·unfold ref2_Right.k1 at hk1
   refine A.cd hk1 rfl (fun hb2 hk1 => ?_) (fun hb2 hk1 => ?_)
   ·refine sq ?_
    obtain rfl := inv_some hk1
    refine pk [] 0 ?_
    refine T.ret1 rfl rfl (fun w hS => ⟨(), rfl, hS⟩)
   ·refine sq ?_
    obtain rfl := inv_some hk1
    refine pk [] 0 ?_
    refine T.ret1 rfl rfl (fun w hS => ⟨(), rfl, hS⟩)
  ·refine st ?_
   refine br hr (fun hb3 hr => ?_) (fun hb3 hr => ?_)
   ·refine st ?_
    refine T.strNe .list rfl (wants1 rfl rfl rfl (not_t hb3)) rfl (l := a0.2.2) (l' := (([] : List UInt8))) rfl rfl ?_
    refine sx ?_
    exact jn [] 1 (J1 (!(decide (a0.2.2 = (([] : List UInt8))))) () hr)
   ·refine sx ?_
    exact jn [] 1 (J1 true () hr)
 ·refine sq ?_
  refine A.cd hr rfl (fun hb4 hr => ?_) (fun hb4 hr => ?_)
  ·refine sq ?_
   refine T.strNe .list rfl (wants0 rfl) rfl (l := a0.2.2) (l' := (([] : List UInt8))) rfl rfl ?_
   refine st ?_
   refine A.cd hr rfl (fun hb5 hr => ?_) (fun hb5 hr => ?_)
   ·refine sq ?_
    obtain rfl := inv_some hr
    refine pk [] 1 ?_
    refine T.ret1 rfl rfl (fun w hS => ⟨(), rfl, hS⟩)
   ·refine sq ?_
    obtain rfl := inv_some hr
    refine pk [] 1 ?_
    refine T.ret1 rfl rfl (fun w hS => ⟨(), rfl, hS⟩)
  ·refine sq ?_
   refine A.cd hr rfl (fun hb6 hr => ?_) (fun hb6 hr => ?_)
   ·refine sq ?_
    refine A.cd hr rfl (fun hb7 hr => ?_) (fun hb7 hr => ?_)
    ·refine sq ?_
     obtain rfl := inv_some hr
     refine pk [] 1 ?_
     refine T.ret1 rfl rfl (fun w hS => ⟨(), rfl, hS⟩)
    ·refine sq ?_
     obtain ⟨r1, hg1, hr⟩ := inv_bind hr
     refine A.c1 rfl rfl Tryd.func82 rfl (fun w hS => ref2_Decode.c hB hS  hg1) (fun x2 => ?_)
     refine sq ?_
     refine T.not .list rfl (wants0 rfl) rfl rfl ?_
     refine st ?_
     refine A.cd hr rfl (fun hb8 hr => ?_) (fun hb8 hr => ?_)
     ·refine sq ?_
      obtain rfl := inv_some hr
      refine pk [] 2 ?_
      refine T.ret1 rfl rfl (fun w hS => ⟨(), rfl, hS⟩)
     ·refine sq ?_
      obtain rfl := inv_some hr
      refine pk [] 2 ?_
      refine T.ret1 rfl rfl (fun w hS => ⟨(), rfl, hS⟩)
   ·refine sq ?_
    refine A.cd hr rfl (fun hb9 hr => ?_) (fun hb9 hr => ?_)
    ·refine T.seqJ (fun (s2 : Bool) (x3 : Unit) => [(49, .bool s2)]) (fun s2 x3 => hs) (fun s2 => ref2_Right.k2 s2 = some r) (fun s2 x3 hk2 => ?_) (fun J2 => ?_)
     ·unfold ref2_Right.k2 at hk2
      refine A.cd hk2 rfl (fun hb10 hk2 => ?_) (fun hb10 hk2 => ?_)
      ·refine sq ?_
       obtain rfl := inv_some hk2
       refine pk [] 0 ?_
       refine T.ret1 rfl rfl (fun w hS => ⟨(), rfl, hS⟩)
      ·refine sq ?_
       obtain rfl := inv_some hk2
       refine pk [] 0 ?_
       refine T.ret1 rfl rfl (fun w hS => ⟨(), rfl, hS⟩)
     ·refine st ?_
      refine T.strNe .list rfl (wants0 rfl) rfl (l := a0.2.2) (l' := (([] : List UInt8))) rfl rfl ?_
      refine st ?_
      refine br hr (fun hb11 hr => ?_) (fun hb11 hr => ?_)
      ·refine st ?_
       refine br hr (fun hb12 hr => ?_) (fun hb12 hr => ?_)
       ·refine sx ?_
        exact jn [] 1 (J2 true () hr)
       ·refine sx ?_
        exact jn [] 1 (J2 (decide ((1 : Int) < a0.2.1)) () hr)
      ·refine sx ?_
       exact jn [] 1 (J2 true () hr)
    ·refine sq ?_
     obtain rfl := inv_some hr
     refine pk [] 1 ?_
     refine T.ret1 rfl rfl (fun w hS => ⟨(), rfl, hS⟩)

noncomputable def ref2_Runes.impl (l0 : List UInt8) : Option Int :=
  (ref2_Decode.impl l0).bind fun r1 => (if ((!r1.2)) = true then some (-1) else some (r1.1.length : Int))
theorem ref2_Runes.c {l0 : List UInt8} (hB : Base B) (hS : St B (hs) w) {r : Int} (hr : ref2_Runes.impl l0 = some r) :
    Calls Tryd.prog 66 #[str l0] w fun e w' => ∃ x : Unit, e = .returned (.int .i64 r) ∧ St B (hs) w' := by
 unfold ref2_Runes.impl at hr
 refine calls_T Tryd.func66 rfl rfl rfl hS ?_
 refine sq ?_
 obtain ⟨r1, hg1, hr⟩ := inv_bind hr
 refine A.c1 rfl rfl Tryd.func82 rfl (fun w hS => ref2_Decode.c hB hS  hg1) (fun x1 => ?_)
 refine sq ?_
 refine T.not .list rfl (wants0 rfl) rfl rfl ?_
 refine st ?_
 refine A.cd hr rfl (fun hb1 hr => ?_) (fun hb1 hr => ?_)
 ·refine sq ?_
  obtain rfl := inv_some hr
  refine pk [] 1 ?_
  refine T.ret1 rfl rfl (fun w hS => ⟨(), rfl, hS⟩)
 ·refine sq ?_
  obtain rfl := inv_some hr
  refine pk [] 1 ?_
  refine T.ret1 rfl rfl (fun w hS => ⟨(), rfl, hS⟩)

noncomputable def ref2_Same.k1 (s1 : Unit) : Option Bool :=
  some true
noncomputable def ref2_Same.st1 (l0 : List ty4) (l1 : List ty4) (s2 : Int) : Option (Int ⊕ (Bool ⊕ Unit)) :=
  (if ((decide (s2 < ((l0.length : Int))))) = true then chk (0 ≤ s2 ∧ s2 < (l0.length : Int)) (chk (0 ≤ s2 ∧ s2 < (l1.length : Int)) ((if ((!(decide ((l0.getD (s2 : Int).toNat default) = (l1.getD (s2 : Int).toNat default))))) = true then some (.inr (.inl false)) else some (.inl (IntKind.i64.wrap (s2 + 1)))))) else some (.inr (.inr ())))
noncomputable def ref2_Same.impl (l0 : List ty4) (l1 : List ty4) : Option Bool :=
  (if ((!(decide ((((l0.length : Int))) = ((l1.length : Int)))))) = true then some false else (loop (ref2_Same.st1 l0 l1) 0).bind (fun e1 => match e1 with | .inl v => some v | .inr v => ref2_Same.k1 v))
theorem ref2_Same.c {i0 c0 : Nat} {A0 : Option Addr} {l0 : List ty4} {i1 c1 : Nat} {A1 : Option Addr} {l1 : List ty4} (hB : Base B) (hS : St B (hs) w) (h0 : (hs)[i0]? = some (Ro el2 A0 c0 l0)) (h1 : (hs)[i1]? = some (Ro el2 A1 c1 l1)) {r : Bool} (hr : ref2_Same.impl l0 l1 = some r) :
    Calls Tryd.prog 48 #[.slice A0 l0.length c0, .slice A1 l1.length c1] w fun e w' => ∃ x : Unit, e = .returned (.bool r) ∧ St B (hs) w' := by
 unfold ref2_Same.impl at hr
 refine calls_T Tryd.func48 rfl rfl rfl hS ?_
 refine T.front i0 h0 ?_
 refine T.front (i1 + 1) h1 ?_
 refine sq ?_
 refine A.cd hr rfl (fun hb1 hr => ?_) (fun hb1 hr => ?_)
 ·refine sq ?_
  obtain rfl := inv_some hr
  refine pk [] 2 ?_
  refine T.ret1 rfl rfl (fun w hS => ⟨(), rfl, hS⟩)
 ·refine st ?_
  refine T.seqJ (fun (s1 : Unit) (x1 : Unit) => []) (fun s1 x1 => hs) (fun s1 => ref2_Same.k1 s1 = some r) (fun s1 x1 hk1 => ?_) (fun J1 => ?_)
  ·unfold ref2_Same.k1 at hk1
   refine sq ?_
   obtain rfl := inv_some hk1
   refine pk [] 0 ?_
   refine T.ret1 rfl rfl (fun w hS => ⟨(), rfl, hS⟩)
  ·refine sq ?_
   obtain ⟨e1, hl1, hr⟩ := inv_bind hr
   refine jn [1, 0] 2 (T.loop (s0 := 0) (env := fun s2 x2 => [(0, .slice A0 l0.length c0), (1, .slice A1 l1.length c1), (5, .int .i64 s2)]) (hs := fun (s2 : Int) (x2 : Unit) => Ro el2 A0 c0 l0 :: Ro el2 A1 c1 l1 :: hs) hl1 () (fun K1 s2 x2 o1 he1 hm1 hx1 => ?_))
   unfold ref2_Same.st1 at he1
   refine sq ?_
   refine A.cd he1 rfl (fun hb2 he1 => ?_) (fun hb2 he1 => ?_)
   ·refine sq ?_
    refine T.plan [(0, 0), (1, 0), (2, 0), (4, 0), (5, 0), (6, 0), (3, 1), (7, 1), (8, 0)] mixed (by kernel_rfl) (by kernel_rfl) rfl (fun d _ _ _ _ h => by cases d <;> exact h) ?_
    refine T.move (.plan rfl) rfl (wants0 rfl) rfl rfl ?_
    refine T.move (.plan rfl) rfl (wants0 rfl) rfl rfl ?_
    obtain ⟨hc1, he1⟩ := inv_chk he1
    refine T.idxRo (.plan rfl) 0 rfl rfl (wants0 rfl) rfl rfl rfl hc1.1 hc1.2 (Nat.le_refl _) ?_
    refine T.move (.plan rfl) rfl (wants0 rfl) rfl rfl ?_
    refine T.move (.plan rfl) rfl (wants0 rfl) rfl rfl ?_
    obtain ⟨hc2, he1⟩ := inv_chk he1
    refine T.idxRo (.plan rfl) 1 rfl rfl (wants0 rfl) rfl rfl rfl hc2.1 hc2.2 (Nat.le_refl _) ?_
    refine T.ldFRo 0 (.plan rfl) Fd.self (Sh.pair Sh.sc (Sh.pair Sh.sc Sh.sc)) rfl (.inl rfl) rfl rfl hc1.1 hc1.2 rfl (wants0 rfl) rfl rfl rfl (v := fun x3 => .agg #[.int .i64 ((((l0.getD (s2 : Int).toNat default)).1)), .int .i64 ((((l0.getD (s2 : Int).toNat default)).2.1)), str ((((l0.getD (s2 : Int).toNat default)).2.2))]) (hs' := fun x3 => Ro el2 A0 c0 l0 :: Ro el2 A1 c1 l1 :: hs) (fun _ => rfl) (fun _ => rfl) (fun x3 => ?_)
    refine T.ldFRo 1 (.plan rfl) Fd.self (Sh.pair Sh.sc (Sh.pair Sh.sc Sh.sc)) rfl (.inl rfl) rfl rfl hc2.1 hc2.2 rfl (wants0 rfl) rfl rfl rfl (v := fun x4 => .agg #[.int .i64 ((((l1.getD (s2 : Int).toNat default)).1)), .int .i64 ((((l1.getD (s2 : Int).toNat default)).2.1)), str ((((l1.getD (s2 : Int).toNat default)).2.2))]) (hs' := fun x4 => Ro el2 A0 c0 l0 :: Ro el2 A1 c1 l1 :: hs) (fun _ => rfl) (fun _ => rfl) (fun x4 => ?_)
    refine T.neS (.plan rfl) rfl (wants0 rfl) rfl rfl rfl (by kernel_rfl) (by kernel_rfl) (by kernel_rfl) (l := [(3, 0), (3, 1), (9, 2)]) (by kernel_rfl) (.int rfl rfl (.int rfl rfl (.str rfl rfl .nil))) (b' := (decide ((l0.getD (s2 : Int).toNat default) = (l1.getD (s2 : Int).toNat default)))) (by rw [Bool.eq_iff_iff]; simp [Prod.ext_iff]) ?_
    refine T.planEnd ?_
    refine st ?_
    refine A.cd he1 rfl (fun hb3 he1 => ?_) (fun hb3 he1 => ?_)
    ·refine sq ?_
     obtain rfl := inv_some he1
     obtain rfl := hx1 _ rfl
     refine st ?_
     obtain rfl := inv_some hr
     refine pk [] 2 ?_
     refine T.ret1 rfl rfl (fun w hS => ⟨(), rfl, hS⟩)
    ·refine T.skip ?_
     refine sx ?_
     refine T.region ?_
     refine sx ?_
     obtain rfl := inv_some he1
     exact jn [0, 1] 2 (hm1 (IntKind.i64.wrap (s2 + 1)) rfl ())
   ·refine T.exit ?_
    refine sx ?_
    obtain rfl := inv_some he1
    obtain rfl := hx1 _ rfl
    refine sx ?_
    exact T.le EnvLe.nil (T.pick [] 2 rfl rfl nla rfl (J1 () () hr))

noncomputable def ref2_SameRows.k1 (s1 : Unit) : Option Bool :=
  some true
noncomputable def ref2_SameRows.st1 (l0 : List (List ty4)) (l1 : List (List ty4)) (s2 : Int) : Option (Int ⊕ (Bool ⊕ Unit)) :=
  (if ((decide (s2 < ((l0.length : Int))))) = true then chk (0 ≤ s2 ∧ s2 < (l0.length : Int)) (chk (0 ≤ s2 ∧ s2 < (l1.length : Int)) ((ref2_Same.impl ((l0.getD (s2 : Int).toNat default)) ((l1.getD (s2 : Int).toNat default))).bind fun r1 => (if ((!r1)) = true then some (.inr (.inl false)) else some (.inl (IntKind.i64.wrap (s2 + 1)))))) else some (.inr (.inr ())))
noncomputable def ref2_SameRows.impl (l0 : List (List ty4)) (l1 : List (List ty4)) : Option Bool :=
  (if ((!(decide ((((l0.length : Int))) = ((l1.length : Int)))))) = true then some false else (loop (ref2_SameRows.st1 l0 l1) 0).bind (fun e1 => match e1 with | .inl v => some v | .inr v => ref2_SameRows.k1 v))
theorem ref2_SameRows.c {i0 c0 : Nat} {A0 : Option Addr} {l0 : List (List ty4)} {i1 c1 : Nat} {A1 : Option Addr} {l1 : List (List ty4)} (hB : Base B) (hS : St B (hs) w) (h0 : (hs)[i0]? = some (Ro el3 A0 c0 l0)) (h1 : (hs)[i1]? = some (Ro el3 A1 c1 l1)) {r : Bool} (hr : ref2_SameRows.impl l0 l1 = some r) :
    Calls Tryd.prog 26 #[.slice A0 l0.length c0, .slice A1 l1.length c1] w fun e w' => ∃ x : Unit, e = .returned (.bool r) ∧ St B (hs) w' := by
 unfold ref2_SameRows.impl at hr
 refine calls_T Tryd.func26 rfl rfl rfl hS ?_
 refine T.front i0 h0 ?_
 refine T.front (i1 + 1) h1 ?_
 refine sq ?_
 refine A.cd hr rfl (fun hb1 hr => ?_) (fun hb1 hr => ?_)
 ·refine sq ?_
  obtain rfl := inv_some hr
  refine pk [] 2 ?_
  refine T.ret1 rfl rfl (fun w hS => ⟨(), rfl, hS⟩)
 ·refine st ?_
  refine T.seqJ (fun (s1 : Unit) (x1 : Unit) => []) (fun s1 x1 => hs) (fun s1 => ref2_SameRows.k1 s1 = some r) (fun s1 x1 hk1 => ?_) (fun J1 => ?_)
  ·unfold ref2_SameRows.k1 at hk1
   refine sq ?_
   obtain rfl := inv_some hk1
   refine pk [] 0 ?_
   refine T.ret1 rfl rfl (fun w hS => ⟨(), rfl, hS⟩)
  ·refine sq ?_
   obtain ⟨e1, hl1, hr⟩ := inv_bind hr
   refine jn [1, 0] 2 (T.loop (s0 := 0) (env := fun s2 x2 => [(0, .slice A0 l0.length c0), (1, .slice A1 l1.length c1), (5, .int .i64 s2)]) (hs := fun (s2 : Int) (x2 : Unit) => Ro el3 A0 c0 l0 :: Ro el3 A1 c1 l1 :: hs) hl1 () (fun K1 s2 x2 o1 he1 hm1 hx1 => ?_))
   unfold ref2_SameRows.st1 at he1
   refine sq ?_
   refine A.cd he1 rfl (fun hb2 he1 => ?_) (fun hb2 he1 => ?_)
   ·refine sq ?_
    refine T.plan [(0, 0), (1, 0), (2, 0), (4, 0), (5, 0), (6, 0), (3, 1), (7, 1), (8, 2), (9, 0)] mixed (by kernel_rfl) (by kernel_rfl) rfl (fun d _ _ _ _ h => by cases d <;> exact h) ?_
    refine T.move (.plan rfl) rfl (wants0 rfl) rfl rfl ?_
    refine T.move (.plan rfl) rfl (wants0 rfl) rfl rfl ?_
    obtain ⟨hc1, he1⟩ := inv_chk he1
    refine T.idxRo (.plan rfl) 0 rfl rfl (wants0 rfl) rfl rfl rfl hc1.1 hc1.2 (Nat.le_refl _) ?_
    refine T.move (.plan rfl) rfl (wants0 rfl) rfl rfl ?_
    refine T.move (.plan rfl) rfl (wants0 rfl) rfl rfl ?_
    obtain ⟨hc2, he1⟩ := inv_chk he1
    refine T.idxRo (.plan rfl) 1 rfl rfl (wants0 rfl) rfl rfl rfl hc2.1 hc2.2 (Nat.le_refl _) ?_
    refine T.ldSlice (.plan rfl) 0 rfl rfl (wants0 rfl) rfl rfl hc1.1 hc1.2 (fun x3 => ?_)
    refine T.ldSlice (.plan rfl) 2 rfl rfl (wants0 rfl) rfl rfl hc2.1 hc2.2 (fun x4 => ?_)
    obtain ⟨r1, hg1, he1⟩ := inv_bind he1
    refine T.call (.plan rfl) (wants0 rfl) rfl (run_callF (vs := [_, _]) rfl Tryd.func48 rfl (by decide) rfl) (fun w hS => ref2_Same.c hB hS (i0 := 1) (i1 := 0) rfl rfl hg1) (fun x5 => ?_)
    refine T.not (.plan rfl) rfl (wants0 rfl) rfl rfl ?_
    refine T.planEnd ?_
    refine st ?_
    refine A.cd he1 rfl (fun hb3 he1 => ?_) (fun hb3 he1 => ?_)
    ·refine sq ?_
     obtain rfl := inv_some he1
     obtain rfl := hx1 _ rfl
     refine st ?_
     obtain rfl := inv_some hr
     refine pk [] 4 ?_
     refine T.ret1 rfl rfl (fun w hS => ⟨(), rfl, hS⟩)
    ·refine T.skip ?_
     refine sx ?_
     refine T.region ?_
     refine sx ?_
     obtain rfl := inv_some he1
     exact jn [2, 3] 4 (hm1 (IntKind.i64.wrap (s2 + 1)) rfl ())
   ·refine T.exit ?_
    refine sx ?_
    obtain rfl := inv_some he1
    obtain rfl := hx1 _ rfl
    refine sx ?_
    exact T.le EnvLe.nil (T.pick [] 2 rfl rfl nla rfl (J1 () () hr))
end Go.Proofs.YtpogdeibkghhaaaDoor
