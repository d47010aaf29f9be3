/- Keys: what the functions compute, and that the program computes it; printed by a program of ours. -/
import Derived.Test.YtpogdeibkghhaaaDoorValid
import Derived.Test.YtpogdeibkghhaaaDoorNam
set_option linter.unusedVariables false
set_option linter.unusedSimpArgs false
namespace Go.Proofs.YtpogdeibkghhaaaDoor
open Go.RowKit
set_option maxRecDepth 100000
set_option maxHeartbeats 4000000
variable {B : World} {hs : List MP} {w : World}
abbrev dyT : DyT := ⟨3, 4, 9, 112⟩
noncomputable def keys_inside.impl (a0 : ty4) : Option Dy :=
  (if ((decide (a0.1 = 3))) = true then some (Dy.bool ((!(decide (a0.2.1 = 0))))) else (if ((decide (a0.1 = 1))) = true then some (Dy.int a0.2.1) else (if ((decide (a0.1 = 2))) = true then some (Dy.str a0.2.2) else some Dy.unit)))
theorem keys_inside.c {a0 : ty4} (hB : Base B) (hS : St B (hs) w) {r : Dy} (hr : keys_inside.impl a0 = some r) :
    Calls Tryd.prog 62 #[.agg #[.int .i64 a0.1, .int .i64 a0.2.1, str a0.2.2]] w fun e w' => ∃ x : Unit, e = .returned (Dy.val dyT r) ∧ St B (hs) w' := by
 unfold keys_inside.impl at hr
 refine calls_T Tryd.func62 rfl rfl rfl hS ?_
 refine sq ?_
 refine A.bx rfl rfl (fun b1 => ?_)
 refine sq ?_
 refine A.cd hr rfl (fun hb1 hr => ?_) (fun hb1 hr => ?_)
 ·refine sq ?_
  refine T.dyBool (Y := dyT) .list (by kernel_rfl) rfl (wants0 rfl) rfl rfl ?_
  refine st ?_
  obtain rfl := inv_some hr
  refine pk [] 1 ?_
  refine T.ret1 rfl rfl (fun w hS => ⟨(), rfl, hS⟩)
 ·refine sq ?_
  refine A.cd hr rfl (fun hb2 hr => ?_) (fun hb2 hr => ?_)
  ·refine sq ?_
   refine T.dyInt (Y := dyT) (ht := (inferInstance : INT Tryd.prog 3 .i64)) .list rfl (wants0 rfl) rfl rfl ?_
   refine st ?_
   obtain rfl := inv_some hr
   refine pk [] 1 ?_
   refine T.ret1 rfl rfl (fun w hS => ⟨(), rfl, hS⟩)
  ·refine sq ?_
   refine A.cd hr rfl (fun hb3 hr => ?_) (fun hb3 hr => ?_)
   ·refine sq ?_
    refine T.dyStr (Y := dyT) (ht := (inferInstance : STR Tryd.prog 9)) .list rfl (wants0 rfl) rfl (l := a0.2.2) rfl ?_
    refine st ?_
    obtain rfl := inv_some hr
    refine pk [] 1 ?_
    refine T.ret1 rfl rfl (fun w hS => ⟨(), rfl, hS⟩)
   ·refine sq ?_
    refine T.build .list (vals := []) (cells := #[]) rfl (wants0 rfl) rfl rfl (run_buildStruct (sizes := []) (by kernel_rfl) (by kernel_rfl)) ?_
    refine T.dyUnit (Y := dyT) (fs := #[]) .list (by kernel_rfl) rfl (wants0 rfl) rfl rfl ?_
    refine st ?_
    obtain rfl := inv_some hr
    refine pk [] 1 ?_
    refine T.ret1 rfl rfl (fun w hS => ⟨(), rfl, hS⟩)

noncomputable def keys_eight.k1 (s1 : List UInt8) : Option (List UInt8) :=
  some s1
noncomputable def keys_eight.st1 (a0 : Int) (s2 : ty1) : Option (ty1 ⊕ (List UInt8)) :=
  (if ((decide (s2.2 < (((List.replicate (8 : Int).toNat (0 : UInt8)).length : Int))))) = true then chk (0 ≤ IntKind.i64.wrap (56 - (IntKind.i64.wrap (8 * s2.2)))) (chk (0 ≤ s2.2 ∧ s2.2 < (s2.1.length : Int)) (some (.inl (((s2.1).set (s2.2 : Int).toNat (u8 (IntKind.u8.wrap (shrI .u64 a0 (IntKind.i64.wrap (56 - (IntKind.i64.wrap (8 * s2.2)))))))), IntKind.i64.wrap (s2.2 + 1))))) else some (.inr s2.1))
noncomputable def keys_eight.impl (a0 : Int) : Option (List UInt8) :=
  chk (0 ≤ (8 : Int) ∧ (8 : Int) * 1 ≤ 140737488355328) ((loop (keys_eight.st1 a0) (List.replicate (8 : Int).toNat (0 : UInt8), 0)).bind (fun e1 => keys_eight.k1 e1))
theorem keys_eight.c {a0 : Int} (hB : Base B) (hS : St B (hs) w) {r : List UInt8} (hr : keys_eight.impl a0 = some r) :
    Calls Tryd.prog 63 #[.int .u64 a0] w fun e w' => ∃ x : ty3, e = .returned (.slice x.1 r.length x.2) ∧ St B (Bf E8 5 x.1 x.2 r :: hs) w' := by
 unfold keys_eight.impl at hr
 refine calls_T Tryd.func63 rfl rfl rfl hS ?_
 refine sq ?_
 obtain ⟨hc1, hr⟩ := inv_chk hr
 refine T.make .list (enc := b8) (h1' := fun _ => rfl) (z0 := (0 : UInt8)) (by rfl) rfl (wants0 rfl) rfl rfl rfl rfl hc1 (fun b1 => ?_)
 refine st ?_
 refine T.seqJ (fun (s1 : List UInt8) (x1 : ty3) => [(3, .slice x1.1 s1.length x1.2)]) (fun s1 x1 => Bf E8 5 x1.1 x1.2 s1 :: hs) (fun s1 => keys_eight.k1 s1 = some r) (fun s1 x1 hk1 => ?_) (fun J1 => ?_)
 ·unfold keys_eight.k1 at hk1
  refine sq ?_
  obtain rfl := inv_some hk1
  refine pk [0] 1 ?_
  refine T.ret1 rfl rfl (fun w hS => ⟨(x1.1, x1.2), rfl, hS⟩)
 ·refine sq ?_
  obtain ⟨e1, hl1, hr⟩ := inv_bind hr
  refine jn [0] 1 (T.loop (s0 := (List.replicate (8 : Int).toNat (0 : UInt8), 0)) (env := fun s2 x2 => [(0, .int .u64 a0), (3, .slice x2.1 s2.1.length x2.2), (7, .int .i64 (((List.replicate (8 : Int).toNat (0 : UInt8)).length : Int))), (8, .int .i64 s2.2)]) (hs := fun (s2 : ty1) (x2 : ty3) => Bf E8 5 x2.1 x2.2 s2.1 :: hs) hl1 (some ⟨b1, 0, none⟩, (8 : Int).toNat) (fun K1 s2 x2 o1 he1 hm1 hx1 => ?_))
  unfold keys_eight.st1 at he1
  refine sq ?_
  refine A.cd he1 rfl (fun hb1 he1 => ?_) (fun hb1 he1 => ?_)
  ·refine sq ?_
   obtain ⟨hc2, he1⟩ := inv_chk he1
   refine T.shr .list rfl (wants0 rfl) rfl rfl rfl hc2 ?_
   refine T.conv .list rfl (wants0 rfl) rfl rfl rfl ?_
   obtain ⟨hc3, he1⟩ := inv_chk he1
   refine T.idxBf .list 0 rfl rfl (wants0 rfl) rfl rfl rfl hc3.1 hc3.2 (Nat.le_refl _) ?_
   refine T.stBf .list 0 rfl rfl (wants0 rfl) rfl rfl rfl (b8_wrap _) hc3.1 hc3.2 rfl ?_
   refine sx ?_
   refine T.region ?_
   refine sx ?_
   obtain rfl := inv_some he1
   refine T.env1 3 rfl (slc (n' := (((s2.1).set (s2.2 : Int).toNat (u8 (IntKind.u8.wrap (shrI .u64 a0 (IntKind.i64.wrap (56 - (IntKind.i64.wrap (8 * s2.2))))))))).length) (by simp only [List.length_set])) ?_
   exact jn [0] 1 (hm1 (((s2.1).set (s2.2 : Int).toNat (u8 (IntKind.u8.wrap (shrI .u64 a0 (IntKind.i64.wrap (56 - (IntKind.i64.wrap (8 * s2.2)))))))), IntKind.i64.wrap (s2.2 + 1)) rfl (x2.1, x2.2))
  ·refine T.exit ?_
   refine sx ?_
   obtain rfl := inv_some he1
   obtain rfl := hx1 _ rfl
   refine sx ?_
   exact jn [0] 1 (J1 s2.1 (x2.1, x2.2) hr)

noncomputable def keys_Runes.k1 (s1 : Int) : Option Int :=
  some s1
noncomputable def keys_Runes.st1 (l0 : List UInt8) (s2 : Int × Nat) : Option ((Int × Nat) ⊕ Int) :=
  (if ((decide (s2.2 < l0.length))) = true then some (.inl (IntKind.i64.wrap (s2.1 + 1), (s2.2 + (runeAt l0 s2.2).2))) else some (.inr s2.1))
noncomputable def keys_Runes.impl (l0 : List UInt8) : Option Int :=
  (utf8_ValidString.impl l0).bind fun r1 => (if ((!r1)) = true then some (-1) else (loop (keys_Runes.st1 l0) (0, 0)).bind (fun e1 => keys_Runes.k1 e1))
theorem keys_Runes.c {l0 : List UInt8} (hB : Base B) (hS : St B (hs) w) {r : Int} (hr : keys_Runes.impl l0 = some r) :
    Calls Tryd.prog 42 #[str l0] w fun e w' => ∃ x : Unit, e = .returned (.int .i64 r) ∧ St B (hs) w' := by
 unfold keys_Runes.impl at hr
 refine calls_T Tryd.func42 rfl rfl rfl hS ?_
 refine sq ?_
 obtain ⟨r1, hg1, hr⟩ := inv_bind hr
 refine A.c1 rfl rfl Tryd.func60 rfl (fun w hS => utf8_ValidString.c hB hS  hg1) (fun x1 => ?_)
 refine T.not .list rfl (wants0 rfl) rfl rfl ?_
 refine st ?_
 refine A.cd hr rfl (fun hb1 hr => ?_) (fun hb1 hr => ?_)
 ·refine sq ?_
  obtain rfl := inv_some hr
  refine pk [] 0 ?_
  refine T.ret1 rfl rfl (fun w hS => ⟨(), rfl, hS⟩)
 ·refine st ?_
  refine T.seq ?_
  refine st ?_
  refine T.seqJ (fun (s1 : Int) (x2 : Unit) => [(3, .int .i64 s1)]) (fun s1 x2 => hs) (fun s1 => keys_Runes.k1 s1 = some r) (fun s1 x2 hk1 => ?_) (fun J1 => ?_)
  ·unfold keys_Runes.k1 at hk1
   refine sq ?_
   obtain rfl := inv_some hk1
   refine pk [] 0 ?_
   refine T.ret1 rfl rfl (fun w hS => ⟨(), rfl, hS⟩)
  ·refine sq ?_
   refine T.range .list rfl (wants0 rfl) rfl (l := l0) rfl (fun b1 => ?_)
   refine st ?_
   obtain ⟨e1, hl1, hr⟩ := inv_bind hr
   refine jn [0] 1 (T.loop (s0 := (0, 0)) (env := fun s2 x3 => [(3, .int .i64 s2.1), (8, .pointer (some ⟨b1, 0, none⟩))]) (hs := fun (s2 : Int × Nat) (x3 : Unit) => It b1 l0 s2.2 :: hs) hl1 () (fun K1 s2 x3 o1 he1 hm1 hx1 => ?_))
   unfold keys_Runes.st1 at he1
   refine sq ?_
   refine br he1 (fun hb2 he1 => ?_) (fun hb2 he1 => ?_)
   ·refine T.nextMore .list 0 rfl rfl (wants0 rfl) rfl rfl hb2 rfl ?_
    refine sq ?_
    refine T.condT rfl rfl ?_
    refine T.skip ?_
    refine sx ?_
    refine T.block ?_
    refine T.region ?_
    refine sx ?_
    obtain rfl := inv_some he1
    exact jn [0] 1 (hm1 (IntKind.i64.wrap (s2.1 + 1), (s2.2 + (runeAt l0 s2.2).2)) rfl ())
   ·refine T.nextOver .list 0 rfl rfl (wants0 rfl) rfl rfl hb2 ?_
    refine sq ?_
    refine T.condF rfl rfl ?_
    refine T.exit ?_
    refine sx ?_
    obtain rfl := inv_some he1
    obtain rfl := hx1 _ rfl
    refine sx ?_
    exact jn [] 1 (J1 s2.1 () hr)

noncomputable def keys_Right.k5 (s5 : Bool) : Option Int :=
  (if s5 = true then some 12 else some 0)
noncomputable def keys_Right.k4 (a0 : ty4) (s4 : Bool) : Option Int :=
  (if s4 = true then some 1 else (keys_inside.impl a0).bind fun r1 => (if r1.isStr = true then (keys_Runes.impl r1.asStr).bind fun r2 => keys_Right.k5 (decide (r2 < 0)) else keys_Right.k5 false))
noncomputable def keys_Right.k3 (a0 : ty4) (s3 : Bool) : Option Int :=
  (if s3 = true then keys_Right.k4 a0 true else (if ((decide (a0.1 = 3))) = true then (if ((decide (a0.2.1 = 0))) = true then keys_Right.k4 a0 false else keys_Right.k4 a0 (!(decide (a0.2.1 = 1)))) else keys_Right.k4 a0 false))
noncomputable def keys_Right.k2 (a0 : ty4) (s2 : Bool) : Option Int :=
  (if s2 = true then keys_Right.k3 a0 true else (if ((decide (a0.1 = 0))) = true then keys_Right.k3 a0 (!(decide (a0.2.1 = 0))) else (if ((decide (a0.1 = 2))) = true then keys_Right.k3 a0 (!(decide (a0.2.1 = 0))) else keys_Right.k3 a0 false)))
noncomputable def keys_Right.k1 (a0 : ty4) (s1 : Bool) : Option Int :=
  (if s1 = true then keys_Right.k2 a0 true else (if ((decide (a0.1 = 2))) = true then keys_Right.k2 a0 false else keys_Right.k2 a0 (!(decide (a0.2.2 = (([] : List UInt8)))))))
noncomputable def keys_Right.impl (a0 : ty4) : Option Int :=
  (if ((decide (a0.1 < 0))) = true then keys_Right.k1 a0 true else keys_Right.k1 a0 (decide ((3 : Int) < a0.1)))
theorem keys_Right.c {a0 : ty4} (hB : Base B) (hS : St B (hs) w) {r : Int} (hr : keys_Right.impl a0 = some r) :
    Calls Tryd.prog 61 #[.agg #[.int .i64 a0.1, .int .i64 a0.2.1, str a0.2.2]] w fun e w' => ∃ x : Unit, e = .returned (.int .i64 r) ∧ St B (hs) w' := by
 unfold keys_Right.impl at hr
 refine calls_T Tryd.func61 rfl rfl rfl hS ?_
 refine sq ?_
 refine A.bx rfl rfl (fun b1 => ?_)
 refine st ?_
 refine T.seqJ (fun (s1 : Bool) (x1 : Unit) => [(1, .pointer (some ⟨b1, 0, none⟩)), (3, .bool s1)]) (fun s1 x1 => Cl b1 64 [.int .i64 a0.1, .int .i64 a0.2.1, str a0.2.2] :: hs) (fun s1 => keys_Right.k1 a0 s1 = some r) (fun s1 x1 hk1 => ?_) (fun J1 => ?_)
 ·unfold keys_Right.k1 at hk1
  refine T.seqJ (fun (s2 : Bool) (x2 : Unit) => [(1, .pointer (some ⟨b1, 0, none⟩)), (3, .bool s2)]) (fun s2 x2 => Cl b1 64 [.int .i64 a0.1, .int .i64 a0.2.1, str a0.2.2] :: hs) (fun s2 => keys_Right.k2 a0 s2 = some r) (fun s2 x2 hk2 => ?_) (fun J2 => ?_)
  ·unfold keys_Right.k2 at hk2
   refine T.seqJ (fun (s3 : Bool) (x3 : Unit) => [(1, .pointer (some ⟨b1, 0, none⟩)), (3, .bool s3)]) (fun s3 x3 => Cl b1 64 [.int .i64 a0.1, .int .i64 a0.2.1, str a0.2.2] :: hs) (fun s3 => keys_Right.k3 a0 s3 = some r) (fun s3 x3 hk3 => ?_) (fun J3 => ?_)
   ·unfold keys_Right.k3 at hk3
    refine T.seq ?_
    refine T.seqJ (fun (s4 : Bool) (x4 : Unit) => [(1, .pointer (some ⟨b1, 0, none⟩)), (56, .bool s4)]) (fun s4 x4 => Cl b1 64 [.int .i64 a0.1, .int .i64 a0.2.1, str a0.2.2] :: hs) (fun s4 => keys_Right.k4 a0 s4 = some r) (fun s4 x4 hk4 => ?_) (fun J4 => ?_)
    ·unfold keys_Right.k4 at hk4
     refine A.cd hk4 rfl (fun hb1 hk4 => ?_) (fun hb1 hk4 => ?_)
     ·refine sq ?_
      obtain rfl := inv_some hk4
      refine pk [] 1 ?_
      refine T.ret1 rfl rfl (fun w hS => ⟨(), rfl, hS⟩)
     ·refine sq ?_
      obtain ⟨r1, hg1, hk4⟩ := inv_bind hk4
      refine A.c1 rfl rfl Tryd.func62 rfl (fun w hS => keys_inside.c hB hS (a0 := a0)  hg1) (fun x5 => ?_)
      refine T.assertStr (Y := dyT) (d := r1) (hst := (inferInstance : STR Tryd.prog 9)) (ht := (inferInstance : TI Tryd.prog 9 1 16 false (str []))) .list (by decide) rfl (wants0 rfl) rfl rfl ?_
      refine st ?_
      refine T.seqJ (fun (s5 : Bool) (x6 : Unit) => [(68, .bool s5)]) (fun s5 x6 => hs) (fun s5 => keys_Right.k5 s5 = some r) (fun s5 x6 hk5 => ?_) (fun J5 => ?_)
      ·unfold keys_Right.k5 at hk5
       refine A.cd hk5 rfl (fun hb2 hk5 => ?_) (fun hb2 hk5 => ?_)
       ·refine sq ?_
        obtain rfl := inv_some hk5
        refine pk [] 0 ?_
        refine T.ret1 rfl rfl (fun w hS => ⟨(), rfl, hS⟩)
       ·refine sq ?_
        obtain rfl := inv_some hk5
        refine pk [] 0 ?_
        refine T.ret1 rfl rfl (fun w hS => ⟨(), rfl, hS⟩)
      ·refine st ?_
       refine br hk4 (fun hb3 hk4 => ?_) (fun hb3 hk4 => ?_)
       ·refine st ?_
        obtain ⟨r2, hg2, hk4⟩ := inv_bind hk4
        refine A.c1g rfl rfl hb3 rfl rfl Tryd.func42 rfl (fun w hS => keys_Runes.c hB hS  hg2) (fun x7 => ?_)
        refine sx ?_
        exact jn [] 1 (J5 (decide (r2 < 0)) () hk4)
       ·refine sx ?_
        exact jn [] 1 (J5 false () hk4)
    ·refine st ?_
     refine br hk3 (fun hb4 hk3 => ?_) (fun hb4 hk3 => ?_)
     ·refine sx ?_
      exact jn [0] 1 (J4 true () hk3)
     ·refine st ?_
      refine br hk3 (fun hb5 hk3 => ?_) (fun hb5 hk3 => ?_)
      ·refine st ?_
       refine br hk3 (fun hb6 hk3 => ?_) (fun hb6 hk3 => ?_)
       ·refine sx ?_
        exact jn [0] 1 (J4 false () hk3)
       ·refine sx ?_
        exact jn [0] 1 (J4 (!(decide (a0.2.1 = 1))) () hk3)
      ·refine sx ?_
       exact jn [0] 1 (J4 false () hk3)
   ·refine st ?_
    refine br hk2 (fun hb7 hk2 => ?_) (fun hb7 hk2 => ?_)
    ·refine sx ?_
     exact jn [0] 1 (J3 true () hk2)
    ·refine st ?_
     refine br hk2 (fun hb8 hk2 => ?_) (fun hb8 hk2 => ?_)
     ·refine sx ?_
      exact jn [0] 1 (J3 (!(decide (a0.2.1 = 0))) () hk2)
     ·refine st ?_
      refine br hk2 (fun hb9 hk2 => ?_) (fun hb9 hk2 => ?_)
      ·refine sx ?_
       exact jn [0] 1 (J3 (!(decide (a0.2.1 = 0))) () hk2)
      ·refine sx ?_
       exact jn [0] 1 (J3 false () hk2)
  ·refine st ?_
   refine br hk1 (fun hb10 hk1 => ?_) (fun hb10 hk1 => ?_)
   ·refine sx ?_
    exact jn [0] 1 (J2 true () hk1)
   ·refine st ?_
    refine br hk1 (fun hb11 hk1 => ?_) (fun hb11 hk1 => ?_)
    ·refine sx ?_
     exact jn [0] 1 (J2 false () hk1)
    ·refine st ?_
     refine T.strNe .list rfl (wants1 rfl rfl rfl (not_f hb11)) rfl (l := a0.2.2) (l' := (([] : List UInt8))) rfl rfl ?_
     refine sx ?_
     exact jn [0] 1 (J2 (!(decide (a0.2.2 = (([] : List UInt8))))) () hk1)
 ·refine st ?_
  refine br hr (fun hb12 hr => ?_) (fun hb12 hr => ?_)
  ·refine sx ?_
   exact jn [0] 1 (J1 true () hr)
  ·refine sx ?_
   exact jn [0] 1 (J1 (decide ((3 : Int) < a0.1)) () hr)

noncomputable def keys_runes.k1 (s1 : List UInt8) : Option (List UInt8) :=
  chk ((s1.length + (([(0 : UInt8), (0 : UInt8), (0 : UInt8)] : List UInt8)).length) * 1 ≤ 140737488355328) (some (s1 ++ (([(0 : UInt8), (0 : UInt8), (0 : UInt8)] : List UInt8))))
noncomputable def keys_runes.st1 (l0 : List UInt8) (s2 : List UInt8 × Nat) : Option ((List UInt8 × Nat) ⊕ (List UInt8)) :=
  (if ((decide (s2.2 < l0.length))) = true then chk ((s2.1.length + (([(u8 (IntKind.u8.wrap (shrI .i32 (IntKind.i32.wrap ((((runeAt l0 s2.2).1 : Int)) + 1)) 16))), (u8 (IntKind.u8.wrap (shrI .i32 (IntKind.i32.wrap ((((runeAt l0 s2.2).1 : Int)) + 1)) 8))), (u8 (IntKind.u8.wrap (IntKind.i32.wrap ((((runeAt l0 s2.2).1 : Int)) + 1))))] : List UInt8)).length) * 1 ≤ 140737488355328) (some (.inl ((s2.1 ++ (([(u8 (IntKind.u8.wrap (shrI .i32 (IntKind.i32.wrap ((((runeAt l0 s2.2).1 : Int)) + 1)) 16))), (u8 (IntKind.u8.wrap (shrI .i32 (IntKind.i32.wrap ((((runeAt l0 s2.2).1 : Int)) + 1)) 8))), (u8 (IntKind.u8.wrap (IntKind.i32.wrap ((((runeAt l0 s2.2).1 : Int)) + 1))))] : List UInt8))), (s2.2 + (runeAt l0 s2.2).2)))) else some (.inr s2.1))
noncomputable def keys_runes.impl (l0 : List UInt8) : Option (List UInt8) :=
  (loop (keys_runes.st1 l0) (([] : List UInt8), 0)).bind (fun e1 => keys_runes.k1 e1)
theorem keys_runes.c {l0 : List UInt8} (hB : Base B) (hS : St B (hs) w) {r : List UInt8} (hr : keys_runes.impl l0 = some r) :
    Calls Tryd.prog 64 #[str l0] w fun e w' => ∃ x : ty3, e = .returned (.slice x.1 r.length x.2) ∧ St B (Bf E8 5 x.1 x.2 r :: hs) w' := by
 unfold keys_runes.impl at hr
 refine calls_T Tryd.func64 rfl rfl rfl hS ?_
 refine T.seq ?_
 refine st ?_
 refine T.seq ?_
 refine st ?_
 refine T.seqJ (fun (s1 : List UInt8) (x1 : ty3) => [(3, .slice x1.1 s1.length x1.2)]) (fun s1 x1 => Bf E8 5 x1.1 x1.2 s1 :: hs) (fun s1 => keys_runes.k1 s1 = some r) (fun s1 x1 hk1 => ?_) (fun J1 => ?_)
 ·unfold keys_runes.k1 at hk1
  refine sq ?_
  refine T.lit (E := E8) .list (vals := [(0, .int .u8 0), (1, .int .u8 0), (2, .int .u8 0)]) (cells := #[.int .u8 0, .int .u8 0, .int .u8 0]) rfl (wants0 rfl) rfl rfl rfl rfl rfl (by kernel_rfl) ([(0 : UInt8), (0 : UInt8), (0 : UInt8)] : List UInt8) rfl (fun _ _ _ _ _ => (Encs.c1 (enc := b8) (h1 := fun _ => rfl) rfl (Encs.c1 (enc := b8) (h1 := fun _ => rfl) rfl (Encs.c1 (enc := b8) (h1 := fun _ => rfl) rfl rfl)))) (fun b1 => ?_)
  obtain ⟨hc1, hk1⟩ := inv_chk hk1
  refine T.appBf .list 1 0 rfl rfl rfl rfl rfl (wants0 rfl) rfl rfl rfl rfl rfl rfl hc1 (fun _ _ => rfl) (fun A2 c2 => ?_)
  refine st ?_
  obtain rfl := inv_some hk1
  refine pk [1] 2 ?_
  refine T.ret1 rfl rfl (fun w hS => ⟨(A2, c2), rfl, hS⟩)
 ·refine sq ?_
  refine T.range .list rfl (wants0 rfl) rfl (l := l0) rfl (fun b2 => ?_)
  refine st ?_
  obtain ⟨e1, hl1, hr⟩ := inv_bind hr
  refine T.nilBf E8 5 ?_
  refine jn [0, 1] 2 (T.loop (s0 := (([] : List UInt8), 0)) (env := fun s2 x2 => [(3, .slice x2.1 s2.1.length x2.2), (8, .pointer (some ⟨b2, 0, none⟩))]) (hs := fun (s2 : List UInt8 × Nat) (x2 : ty3) => Bf E8 5 x2.1 x2.2 s2.1 :: It b2 l0 s2.2 :: hs) hl1 (none, 0) (fun K1 s2 x2 o1 he1 hm1 hx1 => ?_))
  unfold keys_runes.st1 at he1
  refine sq ?_
  refine br he1 (fun hb1 he1 => ?_) (fun hb1 he1 => ?_)
  ·refine T.nextMore .list 1 rfl rfl (wants0 rfl) rfl rfl hb1 rfl ?_
   refine sq ?_
   refine T.condT rfl rfl ?_
   refine sq ?_
   refine T.shr .list rfl (wants0 rfl) rfl rfl rfl (by decide) ?_
   refine T.conv .list rfl (wants0 rfl) rfl rfl rfl ?_
   refine st ?_
   refine T.shr .list rfl (wants0 rfl) rfl rfl rfl (by decide) ?_
   refine T.conv .list rfl (wants0 rfl) rfl rfl rfl ?_
   refine st ?_
   refine T.conv .list rfl (wants0 rfl) rfl rfl rfl ?_
   refine T.lit (E := E8) .list (vals := [(0, .int .u8 (IntKind.u8.wrap (shrI .i32 (IntKind.i32.wrap ((((runeAt l0 s2.2).1 : Int)) + 1)) 16))), (1, .int .u8 (IntKind.u8.wrap (shrI .i32 (IntKind.i32.wrap ((((runeAt l0 s2.2).1 : Int)) + 1)) 8))), (2, .int .u8 (IntKind.u8.wrap (IntKind.i32.wrap ((((runeAt l0 s2.2).1 : Int)) + 1))))]) (cells := #[.int .u8 (IntKind.u8.wrap (shrI .i32 (IntKind.i32.wrap ((((runeAt l0 s2.2).1 : Int)) + 1)) 16)), .int .u8 (IntKind.u8.wrap (shrI .i32 (IntKind.i32.wrap ((((runeAt l0 s2.2).1 : Int)) + 1)) 8)), .int .u8 (IntKind.u8.wrap (IntKind.i32.wrap ((((runeAt l0 s2.2).1 : Int)) + 1)))]) rfl (wants0 rfl) rfl rfl rfl rfl rfl (by kernel_rfl) ([(u8 (IntKind.u8.wrap (shrI .i32 (IntKind.i32.wrap ((((runeAt l0 s2.2).1 : Int)) + 1)) 16))), (u8 (IntKind.u8.wrap (shrI .i32 (IntKind.i32.wrap ((((runeAt l0 s2.2).1 : Int)) + 1)) 8))), (u8 (IntKind.u8.wrap (IntKind.i32.wrap ((((runeAt l0 s2.2).1 : Int)) + 1))))] : List UInt8) rfl (fun _ _ _ _ _ => (Encs.c1 (enc := b8) (h1 := fun _ => rfl) (b8_wrap _) (Encs.c1 (enc := b8) (h1 := fun _ => rfl) (b8_wrap _) (Encs.c1 (enc := b8) (h1 := fun _ => rfl) (b8_wrap _) rfl)))) (fun b3 => ?_)
   obtain ⟨hc2, he1⟩ := inv_chk he1
   refine T.appBf .list 1 0 rfl rfl rfl rfl rfl (wants0 rfl) rfl rfl rfl rfl rfl rfl hc2 (fun _ _ => rfl) (fun A3 c3 => ?_)
   refine sx ?_
   obtain rfl := inv_some he1
   exact jn [1, 2] 3 (hm1 ((s2.1 ++ (([(u8 (IntKind.u8.wrap (shrI .i32 (IntKind.i32.wrap ((((runeAt l0 s2.2).1 : Int)) + 1)) 16))), (u8 (IntKind.u8.wrap (shrI .i32 (IntKind.i32.wrap ((((runeAt l0 s2.2).1 : Int)) + 1)) 8))), (u8 (IntKind.u8.wrap (IntKind.i32.wrap ((((runeAt l0 s2.2).1 : Int)) + 1))))] : List UInt8))), (s2.2 + (runeAt l0 s2.2).2)) rfl (A3, c3))
  ·refine T.nextOver .list 1 rfl rfl (wants0 rfl) rfl rfl hb1 ?_
   refine sq ?_
   refine T.condF rfl rfl ?_
   refine T.exit ?_
   refine sx ?_
   obtain rfl := inv_some he1
   obtain rfl := hx1 _ rfl
   refine sx ?_
   exact jn [0] 2 (J1 s2.1 (x2.1, x2.2) hr)

noncomputable def utf8_ValidRune.k2 (s2 : Bool) : Option Bool :=
  (if s2 = true then some true else some false)
noncomputable def utf8_ValidRune.k1 (a0 : Int) (s1 : Bool) : Option Bool :=
  (if s1 = true then some true else (if ((decide ((57343 : Int) < a0))) = true then utf8_ValidRune.k2 (decide (a0 ≤ 1114111)) else utf8_ValidRune.k2 false))
noncomputable def utf8_ValidRune.impl (a0 : Int) : Option Bool :=
  (if ((decide ((0 : Int) ≤ a0))) = true then utf8_ValidRune.k1 a0 (decide (a0 < 55296)) else utf8_ValidRune.k1 a0 false)
theorem utf8_ValidRune.c {a0 : Int} (hB : Base B) (hS : St B (hs) w) {r : Bool} (hr : utf8_ValidRune.impl a0 = some r) :
    Calls Tryd.prog 100 #[.int .i32 a0] w fun e w' => ∃ x : Unit, e = .returned (.bool r) ∧ St B (hs) w' := by
 unfold utf8_ValidRune.impl at hr
 refine calls_T Tryd.func100 rfl rfl rfl hS ?_
 refine T.seq ?_
 refine st ?_
 refine T.seq ?_
 refine st ?_
 refine T.seqJ (fun (s1 : Bool) (x1 : Unit) => [(0, .int .i32 a0), (3, .bool s1)]) (fun s1 x1 => hs) (fun s1 => utf8_ValidRune.k1 a0 s1 = some r) (fun s1 x1 hk1 => ?_) (fun J1 => ?_)
 ·unfold utf8_ValidRune.k1 at hk1
  refine A.cd hk1 rfl (fun hb1 hk1 => ?_) (fun hb1 hk1 => ?_)
  ·refine sq ?_
   obtain rfl := inv_some hk1
   refine pk [] 0 ?_
   refine T.ret1 rfl rfl (fun w hS => ⟨(), rfl, hS⟩)
  ·refine T.seqJ (fun (s2 : Bool) (x2 : Unit) => [(10, .bool s2)]) (fun s2 x2 => hs) (fun s2 => utf8_ValidRune.k2 s2 = some r) (fun s2 x2 hk2 => ?_) (fun J2 => ?_)
   ·unfold utf8_ValidRune.k2 at hk2
    refine A.cd hk2 rfl (fun hb2 hk2 => ?_) (fun hb2 hk2 => ?_)
    ·refine sq ?_
     obtain rfl := inv_some hk2
     refine pk [] 0 ?_
     refine T.ret1 rfl rfl (fun w hS => ⟨(), rfl, hS⟩)
    ·refine sq ?_
     obtain rfl := inv_some hk2
     refine pk [] 0 ?_
     refine T.ret1 rfl rfl (fun w hS => ⟨(), rfl, hS⟩)
   ·refine st ?_
    refine br hk1 (fun hb3 hk1 => ?_) (fun hb3 hk1 => ?_)
    ·refine sx ?_
     exact jn [] 0 (J2 (decide (a0 ≤ 1114111)) () hk1)
    ·refine sx ?_
     exact jn [] 0 (J2 false () hk1)
 ·refine st ?_
  refine br hr (fun hb4 hr => ?_) (fun hb4 hr => ?_)
  ·refine sx ?_
   exact jn [] 0 (J1 (decide (a0 < 55296)) () hr)
  ·refine sx ?_
   exact jn [] 0 (J1 false () hr)

noncomputable def keys_text.k1 (s1 : Unit) : Option (ty4 × Int) :=
  some ((0, 0, ([] : List UInt8)), 0)
noncomputable def keys_text.st1 (l0 : List UInt8) (s2 : List Int × Int) : Option ((List Int × Int) ⊕ ((ty4 × Int) ⊕ Unit)) :=
  (if ((decide (((IntKind.i64.wrap (s2.2 + 3))) ≤ ((l0.length : Int))))) = true then chk (0 ≤ s2.2 ∧ s2.2 < (l0.length : Int)) (chk (0 ≤ (IntKind.i64.wrap (s2.2 + 1)) ∧ (IntKind.i64.wrap (s2.2 + 1)) < (l0.length : Int)) (chk (0 ≤ (IntKind.i64.wrap (s2.2 + 2)) ∧ (IntKind.i64.wrap (s2.2 + 2)) < (l0.length : Int)) ((if ((decide (((bitsOf .or .i32 (bitsOf .or .i32 (shlI .i32 (IntKind.i32.wrap (((l0.getD (s2.2 : Int).toNat default).toNat : Int))) 16) (shlI .i32 (IntKind.i32.wrap (((l0.getD (IntKind.i64.wrap (s2.2 + 1) : Int).toNat default).toNat : Int))) 8)) (IntKind.i32.wrap (((l0.getD (IntKind.i64.wrap (s2.2 + 2) : Int).toNat default).toNat : Int))))) = 0))) = true then some (.inr (.inl ((2, 0, ofRunes s2.1), IntKind.i64.wrap (s2.2 + 3)))) else (utf8_ValidRune.impl (IntKind.i32.wrap ((bitsOf .or .i32 (bitsOf .or .i32 (shlI .i32 (IntKind.i32.wrap (((l0.getD (s2.2 : Int).toNat default).toNat : Int))) 16) (shlI .i32 (IntKind.i32.wrap (((l0.getD (IntKind.i64.wrap (s2.2 + 1) : Int).toNat default).toNat : Int))) 8)) (IntKind.i32.wrap (((l0.getD (IntKind.i64.wrap (s2.2 + 2) : Int).toNat default).toNat : Int)))) - 1))).bind fun r1 => (if ((!r1)) = true then some (.inr (.inl ((0, 0, ([] : List UInt8)), 0))) else chk ((s2.1.length + (([(IntKind.i32.wrap ((bitsOf .or .i32 (bitsOf .or .i32 (shlI .i32 (IntKind.i32.wrap (((l0.getD (s2.2 : Int).toNat default).toNat : Int))) 16) (shlI .i32 (IntKind.i32.wrap (((l0.getD (IntKind.i64.wrap (s2.2 + 1) : Int).toNat default).toNat : Int))) 8)) (IntKind.i32.wrap (((l0.getD (IntKind.i64.wrap (s2.2 + 2) : Int).toNat default).toNat : Int)))) - 1))] : List Int)).length) * 4 ≤ 140737488355328) (some (.inl ((s2.1 ++ (([(IntKind.i32.wrap ((bitsOf .or .i32 (bitsOf .or .i32 (shlI .i32 (IntKind.i32.wrap (((l0.getD (s2.2 : Int).toNat default).toNat : Int))) 16) (shlI .i32 (IntKind.i32.wrap (((l0.getD (IntKind.i64.wrap (s2.2 + 1) : Int).toNat default).toNat : Int))) 8)) (IntKind.i32.wrap (((l0.getD (IntKind.i64.wrap (s2.2 + 2) : Int).toNat default).toNat : Int)))) - 1))] : List Int))), IntKind.i64.wrap (s2.2 + 3))))))))) else some (.inr (.inr ())))
noncomputable def keys_text.impl (l0 : List UInt8) : Option (ty4 × Int) :=
  (loop (keys_text.st1 l0) (([] : List Int), 1)).bind (fun e1 => match e1 with | .inl v => some v | .inr v => keys_text.k1 v)
theorem keys_text.c {i0 c0 : Nat} {A0 : Option Addr} {l0 : List UInt8} (hB : Base B) (hS : St B (hs) w) (h0 : (hs)[i0]? = some (Ro E8 A0 c0 l0)) {r : ty4 × Int} (hr : keys_text.impl l0 = some r) :
    Calls Tryd.prog 96 #[.slice A0 l0.length c0] w fun e w' => ∃ x : Unit, e = .returned (.tuple #[.agg #[.int .i64 r.1.1, .int .i64 r.1.2.1, str r.1.2.2], .int .i64 r.2]) ∧ St B (hs) w' := by
 unfold keys_text.impl at hr
 refine calls_T Tryd.func96 rfl rfl rfl hS ?_
 refine T.front i0 h0 ?_
 refine sq ?_
 refine A.al rfl (fun b1 => ?_)
 refine st ?_
 refine T.seq ?_
 refine st ?_
 refine T.seqJ (fun (s1 : Unit) (x1 : Unit) => [(2, .pointer (some ⟨b1, 0, none⟩))]) (fun s1 x1 => Cl b1 64 [.int .i64 0, .int .i64 0, str (([] : List UInt8))] :: hs) (fun s1 => keys_text.k1 s1 = some r) (fun s1 x1 hk1 => ?_) (fun J1 => ?_)
 ·unfold keys_text.k1 at hk1
  refine sq ?_
  refine T.build .list (vals := []) (cells := #[.int .i64 0, .int .i64 0, str (([] : List UInt8))]) rfl (wants0 rfl) rfl rfl (run_buildStruct (sizes := [1, 1, 1]) (by kernel_rfl) (by kernel_rfl)) ?_
  refine st ?_
  obtain rfl := inv_some hk1
  refine T.out2 rfl (OutRun.cellN 0 rfl rfl (vs := [.int .i64 0, .int .i64 0, str (([] : List UInt8))]) rfl rfl) (OutRun.tmp rfl) (fun w hS => ⟨(), rfl, hS.pick [] 1 rfl rfl nla rfl⟩)
 ·refine sq ?_
  obtain ⟨e1, hl1, hr⟩ := inv_bind hr
  refine T.nilBf E32 21 ?_
  refine jn [2, 1, 0] 3 (T.loop (s0 := (([] : List Int), 1)) (env := fun s2 x2 => [(0, .slice A0 l0.length c0), (2, .pointer (some ⟨b1, 0, none⟩)), (4, .slice x2.1 s2.1.length x2.2), (5, .int .i64 s2.2)]) (hs := fun (s2 : List Int × Int) (x2 : ty3) => Ro E8 A0 c0 l0 :: Cl b1 64 [.int .i64 0, .int .i64 0, str (([] : List UInt8))] :: Bf E32 21 x2.1 x2.2 s2.1 :: hs) hl1 (none, 0) (fun K1 s2 x2 o1 he1 hm1 hx1 => ?_))
  unfold keys_text.st1 at he1
  refine sq ?_
  refine A.cd he1 rfl (fun hb1 he1 => ?_) (fun hb1 he1 => ?_)
  ·refine sq ?_
   refine T.plan [(0, 0), (1, 0), (2, 0), (6, 0), (7, 0), (8, 0), (9, 0), (14, 0), (15, 0), (16, 0), (17, 0), (3, 1), (4, 0), (5, 0), (10, 1), (11, 0), (12, 0), (13, 0), (18, 1), (19, 0), (20, 0), (21, 0)] mixed (by kernel_rfl) (by kernel_rfl) rfl (fun d _ _ _ _ h => by cases d <;> exact h) ?_
   refine T.move (.plan rfl) rfl (wants0 rfl) rfl rfl ?_
   refine T.move (.plan rfl) rfl (wants0 rfl) rfl rfl ?_
   obtain ⟨hc1, he1⟩ := inv_chk he1
   refine T.idxRo (.plan rfl) 0 rfl rfl (wants0 rfl) rfl rfl rfl hc1.1 hc1.2 (Nat.le_refl _) ?_
   refine T.move (.plan rfl) rfl (wants0 rfl) rfl rfl ?_
   refine T.move (.plan rfl) rfl (wants0 rfl) rfl rfl ?_
   refine T.bin (.plan rfl) rfl (wants0 rfl) rfl rfl rfl rfl ?_
   obtain ⟨hc2, he1⟩ := inv_chk he1
   refine T.idxRo (.plan rfl) 0 rfl rfl (wants0 rfl) rfl rfl rfl hc2.1 hc2.2 (Nat.le_refl _) ?_
   refine T.move (.plan rfl) rfl (wants0 rfl) rfl rfl ?_
   refine T.move (.plan rfl) rfl (wants0 rfl) rfl rfl ?_
   refine T.bin (.plan rfl) rfl (wants0 rfl) rfl rfl rfl rfl ?_
   obtain ⟨hc3, he1⟩ := inv_chk he1
   refine T.idxRo (.plan rfl) 0 rfl rfl (wants0 rfl) rfl rfl rfl hc3.1 hc3.2 (Nat.le_refl _) ?_
   refine T.ldRo1 (.plan rfl) 0 rfl rfl (wants0 rfl) rfl rfl hc1.1 hc1.2 ?_
   refine T.conv (.plan rfl) rfl (wants0 rfl) rfl rfl rfl ?_
   refine T.shl (.plan rfl) rfl (wants0 rfl) rfl rfl rfl (by decide) ?_
   refine T.ldRo1 (.plan rfl) 0 rfl rfl (wants0 rfl) rfl rfl hc2.1 hc2.2 ?_
   refine T.conv (.plan rfl) rfl (wants0 rfl) rfl rfl rfl ?_
   refine T.shl (.plan rfl) rfl (wants0 rfl) rfl rfl rfl (by decide) ?_
   refine T.bin (.plan rfl) rfl (wants0 rfl) rfl rfl rfl rfl ?_
   refine T.ldRo1 (.plan rfl) 0 rfl rfl (wants0 rfl) rfl rfl hc3.1 hc3.2 ?_
   refine T.conv (.plan rfl) rfl (wants0 rfl) rfl rfl rfl ?_
   refine T.bin (.plan rfl) rfl (wants0 rfl) rfl rfl rfl rfl ?_
   refine T.assign (.plan rfl) rfl (wants0 rfl) rfl rfl ?_
   refine T.planEnd ?_
   refine sq ?_
   refine A.cd he1 rfl (fun hb2 he1 => ?_) (fun hb2 he1 => ?_)
   ·refine sq ?_
    refine T.freeze 2 rfl rfl rfl ?_
    refine T.runesRo .list 2 rfl rfl (wants0 rfl) rfl rfl rfl ?_
    refine T.build .list (vals := [(0, .int .i64 2), (2, str (ofRunes s2.1))]) (cells := #[.int .i64 2, .int .i64 0, str (ofRunes s2.1)]) rfl (wants0 rfl) rfl rfl (run_buildStruct (sizes := [1, 1, 1]) (by kernel_rfl) (by kernel_rfl)) ?_
    refine st ?_
    obtain rfl := inv_some he1
    obtain rfl := hx1 _ rfl
    refine st ?_
    obtain rfl := inv_some hr
    refine T.out2 rfl (OutRun.cellN 1 rfl rfl (vs := [.int .i64 2, .int .i64 0, str (ofRunes s2.1)]) rfl rfl) (OutRun.tmp rfl) (fun w hS => ⟨(), rfl, hS.pick [] 3 rfl rfl nla rfl⟩)
   ·refine sq ?_
    obtain ⟨r1, hg1, he1⟩ := inv_bind he1
    refine A.c1 rfl rfl Tryd.func100 rfl (fun w hS => utf8_ValidRune.c hB hS  hg1) (fun x3 => ?_)
    refine T.not .list rfl (wants0 rfl) rfl rfl ?_
    refine st ?_
    refine A.cd he1 rfl (fun hb3 he1 => ?_) (fun hb3 he1 => ?_)
    ·refine sq ?_
     refine T.build .list (vals := []) (cells := #[.int .i64 0, .int .i64 0, str (([] : List UInt8))]) rfl (wants0 rfl) rfl rfl (run_buildStruct (sizes := [1, 1, 1]) (by kernel_rfl) (by kernel_rfl)) ?_
     refine st ?_
     obtain rfl := inv_some he1
     obtain rfl := hx1 _ rfl
     refine st ?_
     obtain rfl := inv_some hr
     refine T.out2 rfl (OutRun.cellN 1 rfl rfl (vs := [.int .i64 0, .int .i64 0, str (([] : List UInt8))]) rfl rfl) (OutRun.tmp rfl) (fun w hS => ⟨(), rfl, hS.pick [] 3 rfl rfl nla rfl⟩)
    ·refine st ?_
     refine T.lit (E := E32) .list (vals := [(0, .int .i32 (IntKind.i32.wrap ((bitsOf .or .i32 (bitsOf .or .i32 (shlI .i32 (IntKind.i32.wrap (((l0.getD (s2.2 : Int).toNat default).toNat : Int))) 16) (shlI .i32 (IntKind.i32.wrap (((l0.getD (IntKind.i64.wrap (s2.2 + 1) : Int).toNat default).toNat : Int))) 8)) (IntKind.i32.wrap (((l0.getD (IntKind.i64.wrap (s2.2 + 2) : Int).toNat default).toNat : Int)))) - 1)))]) (cells := #[.int .i32 (IntKind.i32.wrap ((bitsOf .or .i32 (bitsOf .or .i32 (shlI .i32 (IntKind.i32.wrap (((l0.getD (s2.2 : Int).toNat default).toNat : Int))) 16) (shlI .i32 (IntKind.i32.wrap (((l0.getD (IntKind.i64.wrap (s2.2 + 1) : Int).toNat default).toNat : Int))) 8)) (IntKind.i32.wrap (((l0.getD (IntKind.i64.wrap (s2.2 + 2) : Int).toNat default).toNat : Int)))) - 1))]) rfl (wants0 rfl) rfl rfl rfl rfl rfl (by kernel_rfl) ([(IntKind.i32.wrap ((bitsOf .or .i32 (bitsOf .or .i32 (shlI .i32 (IntKind.i32.wrap (((l0.getD (s2.2 : Int).toNat default).toNat : Int))) 16) (shlI .i32 (IntKind.i32.wrap (((l0.getD (IntKind.i64.wrap (s2.2 + 1) : Int).toNat default).toNat : Int))) 8)) (IntKind.i32.wrap (((l0.getD (IntKind.i64.wrap (s2.2 + 2) : Int).toNat default).toNat : Int)))) - 1))] : List Int) rfl (fun _ _ _ _ _ => (Encs.c1 (enc := (Value.int .i32)) (h1 := fun _ => rfl) rfl rfl)) (fun b2 => ?_)
     obtain ⟨hc4, he1⟩ := inv_chk he1
     refine T.appBf .list 3 0 rfl rfl rfl rfl rfl (wants0 rfl) rfl rfl rfl rfl rfl rfl hc4 (fun _ _ => rfl) (fun A2 c2 => ?_)
     refine sx ?_
     refine T.region ?_
     refine sx ?_
     obtain rfl := inv_some he1
     exact jn [1, 2, 3] 4 (hm1 ((s2.1 ++ (([(IntKind.i32.wrap ((bitsOf .or .i32 (bitsOf .or .i32 (shlI .i32 (IntKind.i32.wrap (((l0.getD (s2.2 : Int).toNat default).toNat : Int))) 16) (shlI .i32 (IntKind.i32.wrap (((l0.getD (IntKind.i64.wrap (s2.2 + 1) : Int).toNat default).toNat : Int))) 8)) (IntKind.i32.wrap (((l0.getD (IntKind.i64.wrap (s2.2 + 2) : Int).toNat default).toNat : Int)))) - 1))] : List Int))), IntKind.i64.wrap (s2.2 + 3)) rfl (A2, c2))
  ·refine T.exit ?_
   refine sx ?_
   obtain rfl := inv_some he1
   obtain rfl := hx1 _ rfl
   refine sx ?_
   exact jn [1] 3 (J1 () () hr)

noncomputable def keys_one.k1 (s1 : Unit) : Option (ty4 × Int) :=
  some ((0, 0, ([] : List UInt8)), 0)
noncomputable def keys_one.k4 (s4 : Int) : Option (ty4 × Int) :=
  some ((1, IntKind.i64.wrap (bitsOf .xor .u64 s4 9223372036854775808), ([] : List UInt8)), 9)
noncomputable def keys_one.st1 (l0 : List UInt8) (s5 : Int × Int) : Option ((Int × Int) ⊕ Int) :=
  (if ((decide (s5.2 < (((subl l0 1 9).length : Int))))) = true then chk (0 ≤ s5.2 ∧ s5.2 < ((subl l0 1 9).length : Int)) (some (.inl (bitsOf .or .u64 (shlI .u64 s5.1 8) (IntKind.u64.wrap ((((subl l0 1 9).getD (s5.2 : Int).toNat default).toNat : Int))), IntKind.i64.wrap (s5.2 + 1)))) else some (.inr s5.1))
noncomputable def keys_one.k3 (l0 : List UInt8) (s3 : Bool) : Option (ty4 × Int) :=
  (if s3 = true then chk (0 ≤ (1 : Int) ∧ (1 : Int) ≤ (9 : Int) ∧ (9 : Int) ≤ (l0.length : Int)) ((loop (keys_one.st1 l0) (0, 0)).bind (fun e1 => keys_one.k4 e1)) else chk (0 ≤ (0 : Int) ∧ (0 : Int) < (l0.length : Int)) ((if ((decide (((((l0.getD (0 : Int).toNat default).toNat : Int))) = 3))) = true then (keys_text.impl l0).bind fun r1 => some (r1.1, r1.2) else keys_one.k1 ())))
noncomputable def keys_one.k2 (l0 : List UInt8) (s2 : Bool) : Option (ty4 × Int) :=
  (if s2 = true then chk (0 ≤ (1 : Int) ∧ (1 : Int) < (l0.length : Int)) (some ((3, IntKind.i64.wrap (((l0.getD (1 : Int).toNat default).toNat : Int)), ([] : List UInt8)), 2)) else chk (0 ≤ (0 : Int) ∧ (0 : Int) < (l0.length : Int)) ((if ((decide (((((l0.getD (0 : Int).toNat default).toNat : Int))) = 2))) = true then keys_one.k3 l0 (decide ((9 : Int) ≤ ((l0.length : Int)))) else keys_one.k3 l0 false)))
noncomputable def keys_one.impl (l0 : List UInt8) : Option (ty4 × Int) :=
  chk (0 ≤ (0 : Int) ∧ (0 : Int) < (l0.length : Int)) ((if ((decide (((((l0.getD (0 : Int).toNat default).toNat : Int))) = 1))) = true then some ((0, 0, ([] : List UInt8)), 1) else chk (0 ≤ (0 : Int) ∧ (0 : Int) < (l0.length : Int)) ((if ((decide (((((l0.getD (0 : Int).toNat default).toNat : Int))) = 4))) = true then (if ((decide ((2 : Int) ≤ ((l0.length : Int))))) = true then chk (0 ≤ (1 : Int) ∧ (1 : Int) < (l0.length : Int)) (keys_one.k2 l0 (decide (((((l0.getD (1 : Int).toNat default).toNat : Int))) ≤ 1))) else keys_one.k2 l0 false) else keys_one.k2 l0 false))))
theorem keys_one.c {i0 c0 : Nat} {A0 : Option Addr} {l0 : List UInt8} (hB : Base B) (hS : St B (hs) w) (h0 : (hs)[i0]? = some (Ro E8 A0 c0 l0)) {r : ty4 × Int} (hr : keys_one.impl l0 = some r) :
    Calls Tryd.prog 83 #[.slice A0 l0.length c0] w fun e w' => ∃ x : Unit, e = .returned (.tuple #[.agg #[.int .i64 r.1.1, .int .i64 r.1.2.1, str r.1.2.2], .int .i64 r.2]) ∧ St B (hs) w' := by
 unfold keys_one.impl at hr
 refine calls_T Tryd.func83 rfl rfl rfl hS ?_
 refine T.front i0 h0 ?_
 refine sq ?_
 refine A.al rfl (fun b1 => ?_)
 refine st ?_
 refine T.seqJ (fun (s1 : Unit) (x1 : Unit) => [(2, .pointer (some ⟨b1, 0, none⟩))]) (fun s1 x1 => Cl b1 64 [.int .i64 0, .int .i64 0, str (([] : List UInt8))] :: hs) (fun s1 => keys_one.k1 s1 = some r) (fun s1 x1 hk1 => ?_) (fun J1 => ?_)
 ·unfold keys_one.k1 at hk1
  refine sq ?_
  refine T.build .list (vals := []) (cells := #[.int .i64 0, .int .i64 0, str (([] : List UInt8))]) rfl (wants0 rfl) rfl rfl (run_buildStruct (sizes := [1, 1, 1]) (by kernel_rfl) (by kernel_rfl)) ?_
  refine st ?_
  obtain rfl := inv_some hk1
  refine T.out2 rfl (OutRun.cellN 0 rfl rfl (vs := [.int .i64 0, .int .i64 0, str (([] : List UInt8))]) rfl rfl) (OutRun.tmp rfl) (fun w hS => ⟨(), rfl, hS.pick [] 1 rfl rfl nla rfl⟩)
 ·refine sq ?_
  obtain ⟨hc1, hr⟩ := inv_chk hr
  refine T.idxRo .list 1 rfl rfl (wants0 rfl) rfl rfl rfl hc1.1 hc1.2 (Nat.le_refl _) ?_
  refine T.ldRo1 .list 1 rfl rfl (wants0 rfl) rfl rfl hc1.1 hc1.2 ?_
  refine st ?_
  refine A.cd hr rfl (fun hb1 hr => ?_) (fun hb1 hr => ?_)
  ·refine sq ?_
   refine T.build .list (vals := []) (cells := #[.int .i64 0, .int .i64 0, str (([] : List UInt8))]) rfl (wants0 rfl) rfl rfl (run_buildStruct (sizes := [1, 1, 1]) (by kernel_rfl) (by kernel_rfl)) ?_
   refine st ?_
   obtain rfl := inv_some hr
   refine T.out2 rfl (OutRun.cellN 0 rfl rfl (vs := [.int .i64 0, .int .i64 0, str (([] : List UInt8))]) rfl rfl) (OutRun.tmp rfl) (fun w hS => ⟨(), rfl, hS.pick [] 2 rfl rfl nla rfl⟩)
  ·refine T.seqJ (fun (s2 : Bool) (x2 : Unit) => [(0, .slice A0 l0.length c0), (2, .pointer (some ⟨b1, 0, none⟩)), (13, .bool s2)]) (fun s2 x2 => Ro E8 A0 c0 l0 :: Cl b1 64 [.int .i64 0, .int .i64 0, str (([] : List UInt8))] :: hs) (fun s2 => keys_one.k2 l0 s2 = some r) (fun s2 x2 hk2 => ?_) (fun J2 => ?_)
   ·unfold keys_one.k2 at hk2
    refine A.cd hk2 rfl (fun hb2 hk2 => ?_) (fun hb2 hk2 => ?_)
    ·refine sq ?_
     obtain ⟨hc2, hk2⟩ := inv_chk hk2
     refine T.idxRo .list 0 rfl rfl (wants0 rfl) rfl rfl rfl hc2.1 hc2.2 (Nat.le_refl _) ?_
     refine T.ldRo1 .list 0 rfl rfl (wants0 rfl) rfl rfl hc2.1 hc2.2 ?_
     refine T.conv .list rfl (wants0 rfl) rfl rfl rfl ?_
     refine T.build .list (vals := [(0, .int .i64 3), (1, .int .i64 (IntKind.i64.wrap (((l0.getD (1 : Int).toNat default).toNat : Int))))]) (cells := #[.int .i64 3, .int .i64 (IntKind.i64.wrap (((l0.getD (1 : Int).toNat default).toNat : Int))), str (([] : List UInt8))]) rfl (wants0 rfl) rfl rfl (run_buildStruct (sizes := [1, 1, 1]) (by kernel_rfl) (by kernel_rfl)) ?_
     refine st ?_
     obtain rfl := inv_some hk2
     refine T.out2 rfl (OutRun.cellN 1 rfl rfl (vs := [.int .i64 3, .int .i64 (IntKind.i64.wrap (((l0.getD (1 : Int).toNat default).toNat : Int))), str (([] : List UInt8))]) rfl rfl) (OutRun.tmp rfl) (fun w hS => ⟨(), rfl, hS.pick [] 2 rfl rfl nla rfl⟩)
    ·refine T.seqJ (fun (s3 : Bool) (x3 : Unit) => [(0, .slice A0 l0.length c0), (2, .pointer (some ⟨b1, 0, none⟩)), (34, .bool s3)]) (fun s3 x3 => Ro E8 A0 c0 l0 :: Cl b1 64 [.int .i64 0, .int .i64 0, str (([] : List UInt8))] :: hs) (fun s3 => keys_one.k3 l0 s3 = some r) (fun s3 x3 hk3 => ?_) (fun J3 => ?_)
     ·unfold keys_one.k3 at hk3
      refine A.cd hk3 rfl (fun hb3 hk3 => ?_) (fun hb3 hk3 => ?_)
      ·refine T.seq ?_
       refine st ?_
       refine T.seqJ (fun (s4 : Int) (x4 : Unit) => [(2, .pointer (some ⟨b1, 0, none⟩)), (4, .int .u64 s4)]) (fun s4 x4 => Cl b1 64 [.int .i64 0, .int .i64 0, str (([] : List UInt8))] :: hs) (fun s4 => keys_one.k4 s4 = some r) (fun s4 x4 hk4 => ?_) (fun J4 => ?_)
       ·unfold keys_one.k4 at hk4
        refine sq ?_
        refine T.conv .list rfl (wants0 rfl) rfl rfl rfl ?_
        refine T.build .list (vals := [(0, .int .i64 1), (1, .int .i64 (IntKind.i64.wrap (bitsOf .xor .u64 s4 9223372036854775808)))]) (cells := #[.int .i64 1, .int .i64 (IntKind.i64.wrap (bitsOf .xor .u64 s4 9223372036854775808)), str (([] : List UInt8))]) rfl (wants0 rfl) rfl rfl (run_buildStruct (sizes := [1, 1, 1]) (by kernel_rfl) (by kernel_rfl)) ?_
        refine st ?_
        obtain rfl := inv_some hk4
        refine T.out2 rfl (OutRun.cellN 0 rfl rfl (vs := [.int .i64 1, .int .i64 (IntKind.i64.wrap (bitsOf .xor .u64 s4 9223372036854775808)), str (([] : List UInt8))]) rfl rfl) (OutRun.tmp rfl) (fun w hS => ⟨(), rfl, hS.pick [] 1 rfl rfl nla rfl⟩)
       ·refine sq ?_
        obtain ⟨hc3, hk3⟩ := inv_chk hk3
        refine T.cut .list 0 rfl rfl rfl (wants0 rfl) rfl rfl (.inr ⟨_, _, rfl, rfl⟩) (.inr ⟨_, _, rfl, rfl⟩) hc3.1 hc3.2.1 hc3.2.2 ?_
        refine st ?_
        obtain ⟨e1, hl1, hk3⟩ := inv_bind hk3
        refine jn [2, 0] 3 (T.loop (s0 := (0, 0)) (env := fun s5 x5 => [(2, .pointer (some ⟨b1, 0, none⟩)), (4, .int .u64 s5.1), (45, .slice ((cutA A0 c0 (1 : Int) 1)) ((subl l0 1 9).length) ((c0 - (1 : Int).toNat))), (46, .int .i64 (((subl l0 1 9).length : Int))), (47, .int .i64 s5.2)]) (hs := fun (s5 : Int × Int) (x5 : Unit) => Cl b1 64 [.int .i64 0, .int .i64 0, str (([] : List UInt8))] :: Ro E8 ((cutA A0 c0 (1 : Int) 1)) ((c0 - (1 : Int).toNat)) (subl l0 1 9) :: hs) hl1 () (fun K1 s5 x5 o1 he1 hm1 hx1 => ?_))
        unfold keys_one.st1 at he1
        refine sq ?_
        refine A.cd he1 rfl (fun hb4 he1 => ?_) (fun hb4 he1 => ?_)
        ·refine sq ?_
         obtain ⟨hc4, he1⟩ := inv_chk he1
         refine T.idxRo .list 1 rfl rfl (wants0 rfl) rfl rfl rfl hc4.1 hc4.2 (Nat.le_refl _) ?_
         refine T.ldRo1 .list 1 rfl rfl (wants0 rfl) rfl rfl hc4.1 hc4.2 ?_
         refine st ?_
         refine T.shl .list rfl (wants0 rfl) rfl rfl rfl (by decide) ?_
         refine st ?_
         refine T.conv .list rfl (wants0 rfl) rfl rfl rfl ?_
         refine sx ?_
         refine T.region ?_
         refine sx ?_
         obtain rfl := inv_some he1
         exact jn [0, 1] 2 (hm1 (bitsOf .or .u64 (shlI .u64 s5.1 8) (IntKind.u64.wrap ((((subl l0 1 9).getD (s5.2 : Int).toNat default).toNat : Int))), IntKind.i64.wrap (s5.2 + 1)) rfl ())
        ·refine T.exit ?_
         refine sx ?_
         obtain rfl := inv_some he1
         obtain rfl := hx1 _ rfl
         refine sx ?_
         exact jn [0] 2 (J4 s5.1 () hk3)
      ·refine sq ?_
       obtain ⟨hc5, hk3⟩ := inv_chk hk3
       refine T.idxRo .list 0 rfl rfl (wants0 rfl) rfl rfl rfl hc5.1 hc5.2 (Nat.le_refl _) ?_
       refine T.ldRo1 .list 0 rfl rfl (wants0 rfl) rfl rfl hc5.1 hc5.2 ?_
       refine st ?_
       refine A.cd hk3 rfl (fun hb5 hk3 => ?_) (fun hb5 hk3 => ?_)
       ·refine sq ?_
        obtain ⟨r1, hg1, hk3⟩ := inv_bind hk3
        refine A.c1 rfl rfl Tryd.func96 rfl (fun w hS => keys_text.c hB hS (i0 := 0) rfl hg1) (fun x6 => ?_)
        refine st ?_
        obtain rfl := inv_some hk3
        refine T.out2 rfl (OutRun.cellN 1 rfl rfl (vs := [.int .i64 r1.1.1, .int .i64 r1.1.2.1, str r1.1.2.2]) rfl rfl) (OutRun.tmp rfl) (fun w hS => ⟨(), rfl, hS.pick [] 2 rfl rfl nla rfl⟩)
       ·refine T.skip ?_
        refine sx ?_
        exact jn [1] 2 (J1 () () hk3)
     ·refine st ?_
      obtain ⟨hc6, hk2⟩ := inv_chk hk2
      refine T.idxRo .list 0 rfl rfl (wants0 rfl) rfl rfl rfl hc6.1 hc6.2 (Nat.le_refl _) ?_
      refine T.ldRo1 .list 0 rfl rfl (wants0 rfl) rfl rfl hc6.1 hc6.2 ?_
      refine st ?_
      refine br hk2 (fun hb6 hk2 => ?_) (fun hb6 hk2 => ?_)
      ·refine sx ?_
       exact jn [0, 1] 2 (J3 (decide ((9 : Int) ≤ ((l0.length : Int)))) () hk2)
      ·refine sx ?_
       exact jn [0, 1] 2 (J3 false () hk2)
   ·refine st ?_
    obtain ⟨hc7, hr⟩ := inv_chk hr
    refine T.idxRo .list 1 rfl rfl (wants0 rfl) rfl rfl rfl hc7.1 hc7.2 (Nat.le_refl _) ?_
    refine T.ldRo1 .list 1 rfl rfl (wants0 rfl) rfl rfl hc7.1 hc7.2 ?_
    refine st ?_
    refine br hr (fun hb7 hr => ?_) (fun hb7 hr => ?_)
    ·refine st ?_
     refine br hr (fun hb8 hr => ?_) (fun hb8 hr => ?_)
     ·refine st ?_
      obtain ⟨hc8, hr⟩ := inv_chk hr
      refine T.idxRo .list 1 rfl rfl (wants1 rfl rfl rfl hb8) rfl rfl rfl hc8.1 hc8.2 (Nat.le_refl _) ?_
      refine T.ldRo1 .list 1 rfl rfl (wants1 rfl rfl rfl hb8) rfl rfl hc8.1 hc8.2 ?_
      refine sx ?_
      exact jn [1, 0] 2 (J2 (decide (((((l0.getD (1 : Int).toNat default).toNat : Int))) ≤ 1)) () hr)
     ·refine sx ?_
      exact jn [1, 0] 2 (J2 false () hr)
    ·refine sx ?_
     exact jn [1, 0] 2 (J2 false () hr)

noncomputable def keys_Key.k1 (s1 : List UInt8) : Option ty1 :=
  some (s1, 0)
noncomputable def keys_Key.k4 (r2 : Dy) (s2 : ty1) (s5 : List UInt8) : Option (ty1 ⊕ (ty1 ⊕ (List UInt8))) :=
  (if r2.isStr = true then chk ((s5.length + (([(3 : UInt8)] : List UInt8)).length) * 1 ≤ 140737488355328) ((keys_runes.impl r2.asStr).bind fun r3 => chk ((((s5 ++ (([(3 : UInt8)] : List UInt8)))).length + r3.length) * 1 ≤ 140737488355328) (some (.inl ((((s5 ++ (([(3 : UInt8)] : List UInt8)))) ++ r3), IntKind.i64.wrap (s2.2 + 1))))) else some (.inl (s5, IntKind.i64.wrap (s2.2 + 1))))
noncomputable def keys_Key.k3 (r2 : Dy) (s2 : ty1) (s4 : List UInt8) : Option (ty1 ⊕ (ty1 ⊕ (List UInt8))) :=
  (if r2.isInt = true then chk ((s4.length + (([(2 : UInt8)] : List UInt8)).length) * 1 ≤ 140737488355328) ((keys_eight.impl (bitsOf .xor .u64 (IntKind.u64.wrap r2.asInt) 9223372036854775808)).bind fun r4 => chk ((((s4 ++ (([(2 : UInt8)] : List UInt8)))).length + r4.length) * 1 ≤ 140737488355328) (keys_Key.k4 r2 s2 (((s4 ++ (([(2 : UInt8)] : List UInt8)))) ++ r4))) else keys_Key.k4 r2 s2 s4)
noncomputable def keys_Key.k2 (r2 : Dy) (l0 : List ty4) (s2 : ty1) (s3 : List UInt8) : Option (ty1 ⊕ (ty1 ⊕ (List UInt8))) :=
  (if r2.isBool = true then chk ((s3.length + (([(4 : UInt8), (u8 (IntKind.u8.wrap ((((l0.getD (s2.2 : Int).toNat default)).2.1))))] : List UInt8)).length) * 1 ≤ 140737488355328) (keys_Key.k3 r2 s2 (s3 ++ (([(4 : UInt8), (u8 (IntKind.u8.wrap ((((l0.getD (s2.2 : Int).toNat default)).2.1))))] : List UInt8)))) else keys_Key.k3 r2 s2 s3)
noncomputable def keys_Key.st1 (l0 : List ty4) (s2 : ty1) : Option (ty1 ⊕ (ty1 ⊕ (List UInt8))) :=
  (if ((decide (s2.2 < ((l0.length : Int))))) = true then chk (0 ≤ s2.2 ∧ s2.2 < (l0.length : Int)) ((keys_Right.impl (((((l0.getD (s2.2 : Int).toNat default)).1), (((l0.getD (s2.2 : Int).toNat default)).2.1), (((l0.getD (s2.2 : Int).toNat default)).2.2)))).bind fun r1 => (if ((!(decide (r1 = 0)))) = true then some (.inr (.inl (([] : List UInt8), r1))) else (keys_inside.impl (((((l0.getD (s2.2 : Int).toNat default)).1), (((l0.getD (s2.2 : Int).toNat default)).2.1), (((l0.getD (s2.2 : Int).toNat default)).2.2)))).bind fun r2 => (if r2.isUnit = true then chk ((s2.1.length + (([(1 : UInt8)] : List UInt8)).length) * 1 ≤ 140737488355328) (keys_Key.k2 r2 l0 s2 (s2.1 ++ (([(1 : UInt8)] : List UInt8)))) else keys_Key.k2 r2 l0 s2 s2.1))) else some (.inr (.inr s2.1)))
noncomputable def keys_Key.impl (l0 : List ty4) : Option ty1 :=
  (loop (keys_Key.st1 l0) (([] : List UInt8), 0)).bind (fun e1 => match e1 with | .inl v => some v | .inr v => keys_Key.k1 v)
theorem keys_Key.c {i0 c0 : Nat} {A0 : Option Addr} {l0 : List ty4} (hB : Base B) (hS : St B (hs) w) (h0 : (hs)[i0]? = some (Ro el2 A0 c0 l0)) {r : ty1} (hr : keys_Key.impl l0 = some r) :
    Calls Tryd.prog 43 #[.slice A0 l0.length c0] w fun e w' => ∃ x : ty3, e = .returned (.tuple #[.slice x.1 r.1.length x.2, .int .i64 r.2]) ∧ St B (Bf E8 5 x.1 x.2 r.1 :: hs) w' := by
 unfold keys_Key.impl at hr
 refine calls_T Tryd.func43 rfl rfl rfl hS ?_
 refine T.front i0 h0 ?_
 refine T.seq ?_
 refine st ?_
 refine T.seq ?_
 refine st ?_
 refine T.seqJ (fun (s1 : List UInt8) (x1 : ty3) => [(4, .slice x1.1 s1.length x1.2)]) (fun s1 x1 => Bf E8 5 x1.1 x1.2 s1 :: hs) (fun s1 => keys_Key.k1 s1 = some r) (fun s1 x1 hk1 => ?_) (fun J1 => ?_)
 ·unfold keys_Key.k1 at hk1
  refine sq ?_
  obtain rfl := inv_some hk1
  refine pk [0] 1 ?_
  refine T.ret2 rfl rfl rfl (fun w hS => ⟨(x1.1, x1.2), rfl, hS⟩)
 ·refine sq ?_
  obtain ⟨e1, hl1, hr⟩ := inv_bind hr
  refine T.nilBf E8 5 ?_
  refine jn [0, 1] 2 (T.loop (s0 := (([] : List UInt8), 0)) (env := fun s2 x2 => [(4, .slice x2.1 s2.1.length x2.2), (17, .slice A0 l0.length c0), (18, .int .i64 ((l0.length : Int))), (19, .int .i64 s2.2)]) (hs := fun (s2 : ty1) (x2 : ty3) => Bf E8 5 x2.1 x2.2 s2.1 :: Ro el2 A0 c0 l0 :: hs) hl1 (none, 0) (fun K1 s2 x2 o1 he1 hm1 hx1 => ?_))
  unfold keys_Key.st1 at he1
  refine sq ?_
  refine A.cd he1 rfl (fun hb1 he1 => ?_) (fun hb1 he1 => ?_)
  ·refine sq ?_
   obtain ⟨hc1, he1⟩ := inv_chk he1
   refine T.idxRo .list 1 rfl rfl (wants0 rfl) rfl rfl rfl hc1.1 hc1.2 (Nat.le_refl _) ?_
   refine T.ldFRo 1 .list Fd.self (Sh.pair Sh.sc (Sh.pair Sh.sc Sh.sc)) rfl (.inl rfl) rfl rfl hc1.1 hc1.2 rfl (wants0 rfl) rfl rfl rfl (v := fun x3 => .agg #[.int .i64 ((((l0.getD (s2.2 : Int).toNat default)).1)), .int .i64 ((((l0.getD (s2.2 : Int).toNat default)).2.1)), str ((((l0.getD (s2.2 : Int).toNat default)).2.2))]) (hs' := fun x3 => Bf E8 5 x2.1 x2.2 s2.1 :: Ro el2 A0 c0 l0 :: hs) (fun _ => rfl) (fun _ => rfl) (fun x3 => ?_)
   refine A.al rfl (fun b1 => ?_)
   refine sq ?_
   obtain ⟨r1, hg1, he1⟩ := inv_bind he1
   refine A.c1 rfl rfl Tryd.func61 rfl (fun w hS => keys_Right.c hB hS (a0 := ((((l0.getD (s2.2 : Int).toNat default)).1), (((l0.getD (s2.2 : Int).toNat default)).2.1), (((l0.getD (s2.2 : Int).toNat default)).2.2)))  hg1) (fun x4 => ?_)
   refine sq ?_
   refine A.cd he1 rfl (fun hb2 he1 => ?_) (fun hb2 he1 => ?_)
   ·refine sq ?_
    obtain rfl := inv_some he1
    obtain rfl := hx1 _ rfl
    refine st ?_
    obtain rfl := inv_some hr
    refine T.nilBf E8 5 ?_
    refine pk [0] 4 ?_
    refine T.ret2 rfl rfl rfl (fun w hS => ⟨(none, 0), rfl, hS⟩)
   ·refine sq ?_
    obtain ⟨r2, hg2, he1⟩ := inv_bind he1
    refine A.c1 rfl rfl Tryd.func62 rfl (fun w hS => keys_inside.c hB hS (a0 := ((((l0.getD (s2.2 : Int).toNat default)).1), (((l0.getD (s2.2 : Int).toNat default)).2.1), (((l0.getD (s2.2 : Int).toNat default)).2.2)))  hg2) (fun x5 => ?_)
    refine st ?_
    refine T.seqJ (fun (s3 : List UInt8) (x6 : ty3) => [(4, .slice x6.1 s3.length x6.2), (6, .pointer (some ⟨b1, 0, none⟩)), (8, Dy.val dyT r2), (17, .slice A0 l0.length c0), (18, .int .i64 ((l0.length : Int))), (19, .int .i64 s2.2)]) (fun s3 x6 => Bf E8 5 x6.1 x6.2 s3 :: Cl b1 64 [.int .i64 ((((l0.getD (s2.2 : Int).toNat default)).1)), .int .i64 ((((l0.getD (s2.2 : Int).toNat default)).2.1)), str ((((l0.getD (s2.2 : Int).toNat default)).2.2))] :: Ro el2 A0 c0 l0 :: hs) (fun s3 => keys_Key.k2 r2 l0 s2 s3 = some o1) (fun s3 x6 hk2 => ?_) (fun J2 => ?_)
    ·unfold keys_Key.k2 at hk2
     refine T.seqJ (fun (s4 : List UInt8) (x7 : ty3) => [(4, .slice x7.1 s4.length x7.2), (8, Dy.val dyT r2), (17, .slice A0 l0.length c0), (18, .int .i64 ((l0.length : Int))), (19, .int .i64 s2.2)]) (fun s4 x7 => Bf E8 5 x7.1 x7.2 s4 :: Ro el2 A0 c0 l0 :: hs) (fun s4 => keys_Key.k3 r2 s2 s4 = some o1) (fun s4 x7 hk3 => ?_) (fun J3 => ?_)
     ·unfold keys_Key.k3 at hk3
      refine T.seqJ (fun (s5 : List UInt8) (x8 : ty3) => [(4, .slice x8.1 s5.length x8.2), (8, Dy.val dyT r2), (17, .slice A0 l0.length c0), (18, .int .i64 ((l0.length : Int))), (19, .int .i64 s2.2)]) (fun s5 x8 => Bf E8 5 x8.1 x8.2 s5 :: Ro el2 A0 c0 l0 :: hs) (fun s5 => keys_Key.k4 r2 s2 s5 = some o1) (fun s5 x8 hk4 => ?_) (fun J4 => ?_)
      ·unfold keys_Key.k4 at hk4
       refine sq ?_
       refine T.assertStr (Y := dyT) (d := r2) (hst := (inferInstance : STR Tryd.prog 9)) (ht := (inferInstance : TI Tryd.prog 9 1 16 false (str []))) .list (by decide) rfl (wants0 rfl) rfl rfl ?_
       refine sq ?_
       refine A.cd hk4 rfl (fun hb3 hk4 => ?_) (fun hb3 hk4 => ?_)
       ·refine st ?_
        refine T.lit (E := E8) .list (vals := [(0, .int .u8 3)]) (cells := #[.int .u8 3]) rfl (wants0 rfl) rfl rfl rfl rfl rfl (by kernel_rfl) ([(3 : UInt8)] : List UInt8) rfl (fun _ _ _ _ _ => (Encs.c1 (enc := b8) (h1 := fun _ => rfl) rfl rfl)) (fun b2 => ?_)
        obtain ⟨hc2, hk4⟩ := inv_chk hk4
        refine T.appBf .list 1 0 rfl rfl rfl rfl rfl (wants0 rfl) rfl rfl rfl rfl rfl rfl hc2 (fun _ _ => rfl) (fun A2 c2 => ?_)
        refine st ?_
        obtain ⟨r3, hg3, hk4⟩ := inv_bind hk4
        refine A.c1 rfl rfl Tryd.func64 rfl (fun w hS => keys_runes.c hB hS  hg3) (fun x9 => ?_)
        obtain ⟨hc3, hk4⟩ := inv_chk hk4
        refine T.appBf .list 2 0 rfl rfl rfl rfl rfl (wants0 rfl) rfl rfl rfl rfl rfl rfl hc3 (fun _ _ => rfl) (fun A3 c3 => ?_)
        refine sx ?_
        refine T.region ?_
        refine sx ?_
        obtain rfl := inv_some hk4
        exact jn [2, 3] 4 (hm1 ((((s5 ++ (([(3 : UInt8)] : List UInt8)))) ++ r3), IntKind.i64.wrap (s2.2 + 1)) rfl (A3, c3))
       ·refine T.skip ?_
        refine sx ?_
        refine T.region ?_
        refine sx ?_
        obtain rfl := inv_some hk4
        exact jn [0, 1] 2 (hm1 (s5, IntKind.i64.wrap (s2.2 + 1)) rfl (x8.1, x8.2))
      ·refine sq ?_
       refine T.assertInt (Y := dyT) (d := r2) (hst := (inferInstance : INT Tryd.prog 3 .i64)) (ht := (inferInstance : TI Tryd.prog 3 1 8 false (.int .i64 0))) .list (by decide) rfl (wants0 rfl) rfl rfl ?_
       refine sq ?_
       refine A.cd hk3 rfl (fun hb4 hk3 => ?_) (fun hb4 hk3 => ?_)
       ·refine st ?_
        refine T.lit (E := E8) .list (vals := [(0, .int .u8 2)]) (cells := #[.int .u8 2]) rfl (wants0 rfl) rfl rfl rfl rfl rfl (by kernel_rfl) ([(2 : UInt8)] : List UInt8) rfl (fun _ _ _ _ _ => (Encs.c1 (enc := b8) (h1 := fun _ => rfl) rfl rfl)) (fun b3 => ?_)
        obtain ⟨hc4, hk3⟩ := inv_chk hk3
        refine T.appBf .list 1 0 rfl rfl rfl rfl rfl (wants0 rfl) rfl rfl rfl rfl rfl rfl hc4 (fun _ _ => rfl) (fun A4 c4 => ?_)
        refine st ?_
        refine T.conv .list rfl (wants0 rfl) rfl rfl rfl ?_
        refine st ?_
        obtain ⟨r4, hg4, hk3⟩ := inv_bind hk3
        refine A.c1 rfl rfl Tryd.func63 rfl (fun w hS => keys_eight.c hB hS  hg4) (fun x10 => ?_)
        obtain ⟨hc5, hk3⟩ := inv_chk hk3
        refine T.appBf .list 2 0 rfl rfl rfl rfl rfl (wants0 rfl) rfl rfl rfl rfl rfl rfl hc5 (fun _ _ => rfl) (fun A5 c5 => ?_)
        refine sx ?_
        exact jn [2, 3] 4 (J4 (((s4 ++ (([(2 : UInt8)] : List UInt8)))) ++ r4) (A5, c5) hk3)
       ·refine T.skip ?_
        refine sx ?_
        exact jn [0, 1] 2 (J4 s4 (x7.1, x7.2) hk3)
     ·refine sq ?_
      refine T.assertBool (Y := dyT) (d := r2) (ht := (inferInstance : TI Tryd.prog 4 1 1 false (.bool false))) .list (by decide) (by kernel_rfl) rfl (wants0 rfl) rfl rfl ?_
      refine sq ?_
      refine A.cd hk2 rfl (fun hb5 hk2 => ?_) (fun hb5 hk2 => ?_)
      ·refine st ?_
       refine T.conv .list rfl (wants0 rfl) rfl rfl rfl ?_
       refine T.lit (E := E8) .list (vals := [(0, .int .u8 4), (1, .int .u8 (IntKind.u8.wrap ((((l0.getD (s2.2 : Int).toNat default)).2.1))))]) (cells := #[.int .u8 4, .int .u8 (IntKind.u8.wrap ((((l0.getD (s2.2 : Int).toNat default)).2.1)))]) rfl (wants0 rfl) rfl rfl rfl rfl rfl (by kernel_rfl) ([(4 : UInt8), (u8 (IntKind.u8.wrap ((((l0.getD (s2.2 : Int).toNat default)).2.1))))] : List UInt8) rfl (fun _ _ _ _ _ => (Encs.c1 (enc := b8) (h1 := fun _ => rfl) rfl (Encs.c1 (enc := b8) (h1 := fun _ => rfl) (b8_wrap _) rfl))) (fun b4 => ?_)
       obtain ⟨hc6, hk2⟩ := inv_chk hk2
       refine T.appBf .list 1 0 rfl rfl rfl rfl rfl (wants0 rfl) rfl rfl rfl rfl rfl rfl hc6 (fun _ _ => rfl) (fun A6 c6 => ?_)
       refine sx ?_
       exact jn [1, 3] 4 (J3 (s3 ++ (([(4 : UInt8), (u8 (IntKind.u8.wrap ((((l0.getD (s2.2 : Int).toNat default)).2.1))))] : List UInt8))) (A6, c6) hk2)
      ·refine T.skip ?_
       refine sx ?_
       exact jn [0, 2] 3 (J3 s3 (x6.1, x6.2) hk2)
    ·refine sq ?_
     refine T.assertUnit (Y := dyT) (d := r2) (fs := #[]) (ht := (inferInstance : TI Tryd.prog 112 0 0 true (.agg #[]))) .list (by decide) (by kernel_rfl) rfl (wants0 rfl) rfl rfl ?_
     refine st ?_
     refine A.al rfl (fun b5 => ?_)
     refine sq ?_
     refine A.cd he1 rfl (fun hb6 he1 => ?_) (fun hb6 he1 => ?_)
     ·refine st ?_
      refine T.lit (E := E8) .list (vals := [(0, .int .u8 1)]) (cells := #[.int .u8 1]) rfl (wants0 rfl) rfl rfl rfl rfl rfl (by kernel_rfl) ([(1 : UInt8)] : List UInt8) rfl (fun _ _ _ _ _ => (Encs.c1 (enc := b8) (h1 := fun _ => rfl) rfl rfl)) (fun b6 => ?_)
      obtain ⟨hc7, he1⟩ := inv_chk he1
      refine T.appBf .list 3 0 rfl rfl rfl rfl rfl (wants0 rfl) rfl rfl rfl rfl rfl rfl hc7 (fun _ _ => rfl) (fun A7 c7 => ?_)
      refine sx ?_
      exact jn [3, 2, 4] 5 (J2 (s2.1 ++ (([(1 : UInt8)] : List UInt8))) (A7, c7) he1)
     ·refine T.skip ?_
      refine sx ?_
      exact jn [2, 1, 3] 4 (J2 s2.1 (x2.1, x2.2) he1)
  ·refine T.exit ?_
   refine sx ?_
   obtain rfl := inv_some he1
   obtain rfl := hx1 _ rfl
   refine sx ?_
   exact jn [0] 2 (J1 s2.1 (x2.1, x2.2) hr)

noncomputable def keys_Read.k1 (s1 : (List ty4)) : Option ((List ty4) × Int) :=
  some (s1, 0)
noncomputable def keys_Read.st1 (s2 : List UInt8 × (List ty4)) : Option ((List UInt8 × (List ty4)) ⊕ (((List ty4) × Int) ⊕ ((List ty4)))) :=
  (if ((decide ((0 : Int) < ((s2.1.length : Int))))) = true then (keys_one.impl s2.1).bind fun r1 => (if ((decide (r1.2 = 0))) = true then some (.inr (.inl (([] : List ty4), 11))) else chk ((s2.2.length + (([r1.1] : List ty4)).length) * 32 ≤ 140737488355328) (chk (0 ≤ r1.2 ∧ r1.2 ≤ ((s2.1.length : Int)) ∧ ((s2.1.length : Int)) ≤ (s2.1.length : Int)) (some (.inl (subl s2.1 r1.2 ((s2.1.length : Int)), (s2.2 ++ (([r1.1] : List ty4)))))))) else some (.inr (.inr s2.2)))
noncomputable def keys_Read.impl (l0 : List UInt8) : Option ((List ty4) × Int) :=
  (loop (keys_Read.st1) (l0, ([] : List ty4))).bind (fun e1 => match e1 with | .inl v => some v | .inr v => keys_Read.k1 v)
theorem keys_Read.c {i0 c0 : Nat} {A0 : Option Addr} {l0 : List UInt8} (hB : Base B) (hS : St B (hs) w) (h0 : (hs)[i0]? = some (Ro E8 A0 c0 l0)) {r : (List ty4) × Int} (hr : keys_Read.impl l0 = some r) :
    Calls Tryd.prog 67 #[.slice A0 l0.length c0] w fun e w' => ∃ x : ty3, e = .returned (.tuple #[.slice x.1 r.1.length x.2, .int .i64 r.2]) ∧ St B (Bf el2 64 x.1 x.2 r.1 :: hs) w' := by
 unfold keys_Read.impl at hr
 refine calls_T Tryd.func67 rfl rfl rfl hS ?_
 refine T.front i0 h0 ?_
 refine T.seq ?_
 refine st ?_
 refine T.seq ?_
 refine st ?_
 refine T.seqJ (fun (s1 : (List ty4)) (x1 : ty3) => [(4, .slice x1.1 s1.length x1.2)]) (fun s1 x1 => Bf el2 64 x1.1 x1.2 s1 :: hs) (fun s1 => keys_Read.k1 s1 = some r) (fun s1 x1 hk1 => ?_) (fun J1 => ?_)
 ·unfold keys_Read.k1 at hk1
  refine sq ?_
  obtain rfl := inv_some hk1
  refine pk [0] 1 ?_
  refine T.ret2 rfl rfl rfl (fun w hS => ⟨(x1.1, x1.2), rfl, hS⟩)
 ·refine st ?_
  obtain ⟨e1, hl1, hr⟩ := inv_bind hr
  refine T.nilBf el2 64 ?_
  refine jn [1, 0] 2 (T.loop (s0 := (l0, ([] : List ty4))) (env := fun s2 x2 => [(0, .slice x2.1.1 s2.1.length x2.1.2), (4, .slice x2.2.1 s2.2.length x2.2.2)]) (hs := fun (s2 : List UInt8 × (List ty4)) (x2 : ty3 × ty3) => Ro E8 x2.1.1 x2.1.2 s2.1 :: Bf el2 64 x2.2.1 x2.2.2 s2.2 :: hs) hl1 ((A0, c0), (none, 0)) (fun K1 s2 x2 o1 he1 hm1 hx1 => ?_))
  unfold keys_Read.st1 at he1
  refine sq ?_
  refine A.cd he1 rfl (fun hb1 he1 => ?_) (fun hb1 he1 => ?_)
  ·refine sq ?_
   obtain ⟨r1, hg1, he1⟩ := inv_bind he1
   refine A.c1 rfl rfl Tryd.func83 rfl (fun w hS => keys_one.c hB hS (i0 := 0) rfl hg1) (fun x3 => ?_)
   refine st ?_
   refine A.al rfl (fun b1 => ?_)
   refine sq ?_
   refine A.cd he1 rfl (fun hb2 he1 => ?_) (fun hb2 he1 => ?_)
   ·refine sq ?_
    obtain rfl := inv_some he1
    obtain rfl := hx1 _ rfl
    refine st ?_
    obtain rfl := inv_some hr
    refine T.nilBf el2 64 ?_
    refine pk [0] 4 ?_
    refine T.ret2 rfl rfl rfl (fun w hS => ⟨(none, 0), rfl, hS⟩)
   ·refine sq ?_
    refine T.lit (E := Elt.pair E64 el1) .list (vals := [(0, .agg #[.int .i64 r1.1.1, .int .i64 r1.1.2.1, str r1.1.2.2])]) (cells := #[.int .i64 r1.1.1, .int .i64 r1.1.2.1, str r1.1.2.2]) rfl (wants0 rfl) rfl rfl rfl rfl rfl (by kernel_rfl) ([r1.1] : List ty4) rfl (fun _ _ _ _ ho => (Has.encs ho (Has.pair (Has.sc rfl) (Has.pair (Has.sc rfl) (Has.sc rfl) rfl) rfl) rfl rfl)) (fun b2 => ?_)
    obtain ⟨hc1, he1⟩ := inv_chk he1
    refine T.appBf .list 3 0 rfl rfl rfl rfl rfl (wants0 rfl) rfl rfl rfl rfl rfl rfl hc1 (fun _ _ => rfl) (fun A2 c2 => ?_)
    refine st ?_
    obtain ⟨hc2, he1⟩ := inv_chk he1
    refine T.cut .list 2 rfl rfl rfl (wants0 rfl) rfl rfl (.inr ⟨_, _, rfl, rfl⟩) (.inl ⟨rfl, rfl⟩) hc2.1 hc2.2.1 hc2.2.2 ?_
    refine sx ?_
    obtain rfl := inv_some he1
    exact jn [0, 4] 5 (hm1 (subl s2.1 r1.2 ((s2.1.length : Int)), (s2.2 ++ (([r1.1] : List ty4)))) rfl (((cutA x2.1.1 x2.1.2 r1.2 1), (x2.1.2 - (r1.2 : Int).toNat)), (A2, c2)))
  ·refine T.exit ?_
   refine sx ?_
   obtain rfl := inv_some he1
   obtain rfl := hx1 _ rfl
   refine sx ?_
   exact jn [1] 2 (J1 s2.2 (x2.2.1, x2.2.2) hr)
end Go.Proofs.YtpogdeibkghhaaaDoor
