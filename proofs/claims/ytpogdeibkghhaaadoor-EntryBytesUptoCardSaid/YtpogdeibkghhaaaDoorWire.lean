/- Wire: what the functions compute, and that the program computes it; printed by a program of ours. -/
import Derived.Test.YtpogdeibkghhaaaDoorRef
import Derived.Test.YtpogdeibkghhaaaDoorNam
set_option linter.unusedVariables false
set_option linter.unusedSimpArgs false
namespace Go.Proofs.YtpogdeibkghhaaaDoor
open Go.RowKit
set_option maxRecDepth 100000
set_option maxHeartbeats 4000000
variable {B : World} {hs : List MP} {w : World}
noncomputable def bytes_Equal.impl (l0 : List UInt8) (l1 : List UInt8) : Option Bool :=
  some (decide (l0 = l1))
theorem bytes_Equal.c {i0 c0 : Nat} {A0 : Option Addr} {l0 : List UInt8} {i1 c1 : Nat} {A1 : Option Addr} {l1 : List UInt8} (hB : Base B) (hS : St B (hs) w) (h0 : (hs)[i0]? = some (Ro E8 A0 c0 l0)) (h1 : (hs)[i1]? = some (Ro E8 A1 c1 l1)) {r : Bool} (hr : bytes_Equal.impl l0 l1 = some r) :
    Calls Tryd.prog 25 #[.slice A0 l0.length c0, .slice A1 l1.length c1] w fun e w' => ∃ x : Unit, e = .returned (.bool r) ∧ St B (hs) w' := by
 unfold bytes_Equal.impl at hr
 refine calls_T Tryd.func25 rfl rfl rfl hS ?_
 refine T.front i0 h0 ?_
 refine T.front (i1 + 1) h1 ?_
 refine sq ?_
 refine T.strRo .list 1 rfl rfl (wants0 rfl) rfl rfl rfl ?_
 refine st ?_
 refine T.strRo .list 0 rfl rfl (wants0 rfl) rfl rfl rfl ?_
 refine T.strEq .list rfl (wants0 rfl) rfl (l := l0) (l' := l1) rfl rfl ?_
 refine st ?_
 obtain rfl := inv_some hr
 refine pk [] 2 ?_
 refine T.ret1 rfl rfl (fun w hS => ⟨(), rfl, hS⟩)

noncomputable def wire_Uint.k2 (s2 : List UInt8) : Option (List UInt8) :=
  some s2
noncomputable def wire_Uint.st1 (s1 : Int) (a0 : Int) (s3 : ty1) : Option (ty1 ⊕ (List UInt8)) :=
  (if ((decide (s3.2 < s1))) = true then chk (0 ≤ IntKind.i64.wrap (7 * (IntKind.i64.wrap ((IntKind.i64.wrap (s1 - 1)) - s3.2)))) (chk (0 ≤ s3.2 ∧ s3.2 < (s3.1.length : Int)) ((if ((decide (s3.2 < (IntKind.i64.wrap (s1 - 1))))) = true then chk (0 ≤ s3.2 ∧ s3.2 < ((((s3.1).set (s3.2 : Int).toNat (u8 (IntKind.u8.wrap (bitsOf .and .i64 (shrI .i64 a0 (IntKind.i64.wrap (7 * (IntKind.i64.wrap ((IntKind.i64.wrap (s1 - 1)) - s3.2))))) 127))))).length : Int)) (chk (0 ≤ s3.2 ∧ s3.2 < ((((s3.1).set (s3.2 : Int).toNat (u8 (IntKind.u8.wrap (bitsOf .and .i64 (shrI .i64 a0 (IntKind.i64.wrap (7 * (IntKind.i64.wrap ((IntKind.i64.wrap (s1 - 1)) - s3.2))))) 127))))).length : Int)) (some (.inl (((((s3.1).set (s3.2 : Int).toNat (u8 (IntKind.u8.wrap (bitsOf .and .i64 (shrI .i64 a0 (IntKind.i64.wrap (7 * (IntKind.i64.wrap ((IntKind.i64.wrap (s1 - 1)) - s3.2))))) 127))))).set (s3.2 : Int).toNat (u8 (bitsOf .or .u8 ((((((s3.1).set (s3.2 : Int).toNat (u8 (IntKind.u8.wrap (bitsOf .and .i64 (shrI .i64 a0 (IntKind.i64.wrap (7 * (IntKind.i64.wrap ((IntKind.i64.wrap (s1 - 1)) - s3.2))))) 127))))).getD (s3.2 : Int).toNat default).toNat : Int)) 128))), IntKind.i64.wrap (s3.2 + 1))))) else some (.inl (((s3.1).set (s3.2 : Int).toNat (u8 (IntKind.u8.wrap (bitsOf .and .i64 (shrI .i64 a0 (IntKind.i64.wrap (7 * (IntKind.i64.wrap ((IntKind.i64.wrap (s1 - 1)) - s3.2))))) 127)))), IntKind.i64.wrap (s3.2 + 1)))))) else some (.inr s3.1))
noncomputable def wire_Uint.k1 (a0 : Int) (s1 : Int) : Option (List UInt8) :=
  chk (0 ≤ s1 ∧ s1 * 1 ≤ 140737488355328) ((loop (wire_Uint.st1 s1 a0) (List.replicate (s1 : Int).toNat (0 : UInt8), 0)).bind (fun e1 => wire_Uint.k2 e1))
noncomputable def wire_Uint.st2 (s4 : Int × Int) : Option ((Int × Int) ⊕ Int) :=
  (if ((decide ((0 : Int) < s4.2))) = true then some (.inl (IntKind.i64.wrap (s4.1 + 1), shrI .i64 s4.2 7)) else some (.inr s4.1))
noncomputable def wire_Uint.impl (a0 : Int) : Option (List UInt8) :=
  (if ((decide (a0 < 0))) = true then some ([] : List UInt8) else (loop (wire_Uint.st2) (1, shrI .i64 a0 7)).bind (fun e2 => wire_Uint.k1 a0 e2))
theorem wire_Uint.c {a0 : Int} (hB : Base B) (hS : St B (hs) w) {r : List UInt8} (hr : wire_Uint.impl a0 = some r) :
    Calls Tryd.prog 18 #[.int .i64 a0] w fun e w' => ∃ x : ty3, e = .returned (.slice x.1 r.length x.2) ∧ St B (Bf E8 5 x.1 x.2 r :: hs) w' := by
 unfold wire_Uint.impl at hr
 refine calls_T Tryd.func18 rfl rfl rfl hS ?_
 refine sq ?_
 refine A.cd hr rfl (fun hb1 hr => ?_) (fun hb1 hr => ?_)
 ·refine sq ?_
  obtain rfl := inv_some hr
  refine T.nilBf E8 5 ?_
  refine pk [0] 1 ?_
  refine T.ret1 rfl rfl (fun w hS => ⟨(none, 0), rfl, hS⟩)
 ·refine st ?_
  refine T.seq ?_
  refine st ?_
  refine T.seqJ (fun (s1 : Int) (x1 : Unit) => [(0, .int .i64 a0), (3, .int .i64 s1)]) (fun s1 x1 => hs) (fun s1 => wire_Uint.k1 a0 s1 = some r) (fun s1 x1 hk1 => ?_) (fun J1 => ?_)
  ·unfold wire_Uint.k1 at hk1
   refine sq ?_
   obtain ⟨hc1, hk1⟩ := inv_chk hk1
   refine T.make .list (enc := b8) (h1' := fun _ => rfl) (z0 := (0 : UInt8)) (by rfl) rfl (wants0 rfl) rfl rfl rfl rfl hc1 (fun b1 => ?_)
   refine st ?_
   refine T.seqJ (fun (s2 : List UInt8) (x2 : ty3) => [(5, .slice x2.1 s2.length x2.2)]) (fun s2 x2 => Bf E8 5 x2.1 x2.2 s2 :: hs) (fun s2 => wire_Uint.k2 s2 = some r) (fun s2 x2 hk2 => ?_) (fun J2 => ?_)
   ·unfold wire_Uint.k2 at hk2
    refine sq ?_
    obtain rfl := inv_some hk2
    refine pk [0] 1 ?_
    refine T.ret1 rfl rfl (fun w hS => ⟨(x2.1, x2.2), rfl, hS⟩)
   ·refine sq ?_
    obtain ⟨e1, hl1, hk1⟩ := inv_bind hk1
    refine jn [0] 1 (T.loop (s0 := (List.replicate (s1 : Int).toNat (0 : UInt8), 0)) (env := fun s3 x3 => [(0, .int .i64 a0), (3, .int .i64 s1), (5, .slice x3.1 s3.1.length x3.2), (19, .int .i64 s1), (20, .int .i64 s3.2)]) (hs := fun (s3 : ty1) (x3 : ty3) => Bf E8 5 x3.1 x3.2 s3.1 :: hs) hl1 (some ⟨b1, 0, none⟩, (s1 : Int).toNat) (fun K1 s3 x3 o1 he1 hm1 hx1 => ?_))
    unfold wire_Uint.st1 at he1
    refine sq ?_
    refine A.cd he1 rfl (fun hb2 he1 => ?_) (fun hb2 he1 => ?_)
    ·refine sq ?_
     obtain ⟨hc2, he1⟩ := inv_chk he1
     refine T.shr .list rfl (wants0 rfl) rfl rfl rfl hc2 ?_
     refine st ?_
     refine T.conv .list rfl (wants0 rfl) rfl rfl rfl ?_
     obtain ⟨hc3, he1⟩ := inv_chk he1
     refine T.idxBf .list 0 rfl rfl (wants0 rfl) rfl rfl rfl hc3.1 hc3.2 (Nat.le_refl _) ?_
     refine T.stBf .list 0 rfl rfl (wants0 rfl) rfl rfl rfl (b8_wrap _) hc3.1 hc3.2 rfl ?_
     refine sq ?_
     refine A.cd he1 rfl (fun hb3 he1 => ?_) (fun hb3 he1 => ?_)
     ·refine st ?_
      refine T.env1 39 rfl (slc (n' := (((s3.1).set (s3.2 : Int).toNat (u8 (IntKind.u8.wrap (bitsOf .and .i64 (shrI .i64 a0 (IntKind.i64.wrap (7 * (IntKind.i64.wrap ((IntKind.i64.wrap (s1 - 1)) - s3.2))))) 127))))).length) (by simp only [List.length_set])) ?_
      obtain ⟨hc4, he1⟩ := inv_chk he1
      refine T.idxBf .list 0 rfl rfl (wants0 rfl) rfl rfl rfl hc4.1 hc4.2 (Nat.le_refl _) ?_
      refine T.ldBf1 .list 0 rfl rfl (wants0 rfl) rfl rfl hc4.1 hc4.2 ?_
      refine st ?_
      obtain ⟨hc5, he1⟩ := inv_chk he1
      refine T.idxBf .list 0 rfl rfl (wants0 rfl) rfl rfl rfl hc5.1 hc5.2 (Nat.le_refl _) ?_
      refine T.stBf .list 0 rfl rfl (wants0 rfl) rfl rfl rfl (b8_bits _ _ _) hc5.1 hc5.2 rfl ?_
      refine sx ?_
      refine T.region ?_
      refine sx ?_
      obtain rfl := inv_some he1
      refine T.env1 5 rfl (slc (n' := (((((s3.1).set (s3.2 : Int).toNat (u8 (IntKind.u8.wrap (bitsOf .and .i64 (shrI .i64 a0 (IntKind.i64.wrap (7 * (IntKind.i64.wrap ((IntKind.i64.wrap (s1 - 1)) - s3.2))))) 127))))).set (s3.2 : Int).toNat (u8 (bitsOf .or .u8 ((((((s3.1).set (s3.2 : Int).toNat (u8 (IntKind.u8.wrap (bitsOf .and .i64 (shrI .i64 a0 (IntKind.i64.wrap (7 * (IntKind.i64.wrap ((IntKind.i64.wrap (s1 - 1)) - s3.2))))) 127))))).getD (s3.2 : Int).toNat default).toNat : Int)) 128)))).length) (by simp only [List.length_set])) ?_
      exact jn [0] 1 (hm1 (((((s3.1).set (s3.2 : Int).toNat (u8 (IntKind.u8.wrap (bitsOf .and .i64 (shrI .i64 a0 (IntKind.i64.wrap (7 * (IntKind.i64.wrap ((IntKind.i64.wrap (s1 - 1)) - s3.2))))) 127))))).set (s3.2 : Int).toNat (u8 (bitsOf .or .u8 ((((((s3.1).set (s3.2 : Int).toNat (u8 (IntKind.u8.wrap (bitsOf .and .i64 (shrI .i64 a0 (IntKind.i64.wrap (7 * (IntKind.i64.wrap ((IntKind.i64.wrap (s1 - 1)) - s3.2))))) 127))))).getD (s3.2 : Int).toNat default).toNat : Int)) 128))), IntKind.i64.wrap (s3.2 + 1)) rfl (x3.1, x3.2))
     ·refine T.skip ?_
      refine sx ?_
      refine T.region ?_
      refine sx ?_
      obtain rfl := inv_some he1
      refine T.env1 5 rfl (slc (n' := (((s3.1).set (s3.2 : Int).toNat (u8 (IntKind.u8.wrap (bitsOf .and .i64 (shrI .i64 a0 (IntKind.i64.wrap (7 * (IntKind.i64.wrap ((IntKind.i64.wrap (s1 - 1)) - s3.2))))) 127))))).length) (by simp only [List.length_set])) ?_
      exact jn [0] 1 (hm1 (((s3.1).set (s3.2 : Int).toNat (u8 (IntKind.u8.wrap (bitsOf .and .i64 (shrI .i64 a0 (IntKind.i64.wrap (7 * (IntKind.i64.wrap ((IntKind.i64.wrap (s1 - 1)) - s3.2))))) 127)))), IntKind.i64.wrap (s3.2 + 1)) rfl (x3.1, x3.2))
    ·refine T.exit ?_
     refine sx ?_
     obtain rfl := inv_some he1
     obtain rfl := hx1 _ rfl
     refine sx ?_
     exact jn [0] 1 (J2 s3.1 (x3.1, x3.2) hk1)
  ·refine sq ?_
   refine T.shr .list rfl (wants0 rfl) rfl rfl rfl (by decide) ?_
   refine st ?_
   obtain ⟨e2, hl2, hr⟩ := inv_bind hr
   refine jn [] 0 (T.loop (s0 := (1, shrI .i64 a0 7)) (env := fun s4 x4 => [(0, .int .i64 a0), (3, .int .i64 s4.1), (4, .int .i64 s4.2)]) (hs := fun (s4 : Int × Int) (x4 : Unit) => hs) hl2 () (fun K2 s4 x4 o2 he2 hm2 hx2 => ?_))
   unfold wire_Uint.st2 at he2
   refine sq ?_
   refine A.cd he2 rfl (fun hb4 he2 => ?_) (fun hb4 he2 => ?_)
   ·refine sq ?_
    refine T.shr .list rfl (wants0 rfl) rfl rfl rfl (by decide) ?_
    refine sx ?_
    obtain rfl := inv_some he2
    exact jn [] 0 (hm2 (IntKind.i64.wrap (s4.1 + 1), shrI .i64 s4.2 7) rfl ())
   ·refine T.exit ?_
    refine sx ?_
    obtain rfl := inv_some he2
    obtain rfl := hx2 _ rfl
    refine sx ?_
    exact jn [] 0 (J1 s4.1 () hr)

noncomputable def wire_Bytes.impl (l0 : List UInt8) : Option (List UInt8) :=
  (wire_Uint.impl ((l0.length : Int))).bind fun r1 => chk ((r1.length + l0.length) * 1 ≤ 140737488355328) (some (r1 ++ l0))
theorem wire_Bytes.c {i0 c0 : Nat} {A0 : Option Addr} {l0 : List UInt8} (hB : Base B) (hS : St B (hs) w) (h0 : (hs)[i0]? = some (Ro E8 A0 c0 l0)) {r : List UInt8} (hr : wire_Bytes.impl l0 = some r) :
    Calls Tryd.prog 20 #[.slice A0 l0.length c0] w fun e w' => ∃ x : ty3, e = .returned (.slice x.1 r.length x.2) ∧ St B (Bf E8 5 x.1 x.2 r :: hs) w' := by
 unfold wire_Bytes.impl at hr
 refine calls_T Tryd.func20 rfl rfl rfl hS ?_
 refine T.front i0 h0 ?_
 refine sq ?_
 obtain ⟨r1, hg1, hr⟩ := inv_bind hr
 refine A.c1 rfl rfl Tryd.func18 rfl (fun w hS => wire_Uint.c hB hS  hg1) (fun x1 => ?_)
 refine st ?_
 obtain ⟨hc1, hr⟩ := inv_chk hr
 refine T.appRo .list 0 1 rfl rfl rfl rfl rfl (wants0 rfl) rfl rfl rfl rfl rfl rfl hc1 (fun _ _ => rfl) (fun A2 c2 => ?_)
 refine st ?_
 obtain rfl := inv_some hr
 refine pk [0] 2 ?_
 refine T.ret1 rfl rfl (fun w hS => ⟨(A2, c2), rfl, hS⟩)

noncomputable def wire_ReadUint.k2 (s2 : Unit) : Option (Int × Int × Int) :=
  some (0, 0, 11)
noncomputable def wire_ReadUint.k3 (l0 : List UInt8) (a1 : Int) (s3 : Int × Int) (s4 : Bool) : Option ((Int × Int) ⊕ ((Int × Int × Int) ⊕ Unit)) :=
  (if s4 = true then some (.inr (.inl (0, 0, 11))) else (if ((decide (((((l0.getD (IntKind.i64.wrap (a1 + s3.2) : Int).toNat default).toNat : Int))) < 128))) = true then some (.inr (.inl (bitsOf .or .i64 (shlI .i64 s3.1 7) (IntKind.i64.wrap (bitsOf .and .u8 (((l0.getD (IntKind.i64.wrap (a1 + s3.2) : Int).toNat default).toNat : Int)) 127)), IntKind.i64.wrap ((IntKind.i64.wrap (a1 + s3.2)) + 1), 0))) else some (.inl (bitsOf .or .i64 (shlI .i64 s3.1 7) (IntKind.i64.wrap (bitsOf .and .u8 (((l0.getD (IntKind.i64.wrap (a1 + s3.2) : Int).toNat default).toNat : Int)) 127)), IntKind.i64.wrap (s3.2 + 1)))))
noncomputable def wire_ReadUint.st1 (l0 : List UInt8) (a1 : Int) (s3 : Int × Int) : Option ((Int × Int) ⊕ ((Int × Int × Int) ⊕ Unit)) :=
  (if ((decide (s3.2 < 9))) = true then (if ((decide ((((l0.length : Int))) ≤ (IntKind.i64.wrap (a1 + s3.2))))) = true then some (.inr (.inl (0, 0, 10))) else chk (0 ≤ (IntKind.i64.wrap (a1 + s3.2)) ∧ (IntKind.i64.wrap (a1 + s3.2)) < (l0.length : Int)) ((if ((decide (s3.2 = 0))) = true then wire_ReadUint.k3 l0 a1 s3 (decide (((((l0.getD (IntKind.i64.wrap (a1 + s3.2) : Int).toNat default).toNat : Int))) = 128)) else wire_ReadUint.k3 l0 a1 s3 false))) else some (.inr (.inr ())))
noncomputable def wire_ReadUint.k1 (l0 : List UInt8) (a1 : Int) (s1 : Bool) : Option (Int × Int × Int) :=
  (if s1 = true then some (0, 0, 1) else (loop (wire_ReadUint.st1 l0 a1) (0, 0)).bind (fun e1 => match e1 with | .inl v => some v | .inr v => wire_ReadUint.k2 v))
noncomputable def wire_ReadUint.impl (l0 : List UInt8) (a1 : Int) : Option (Int × Int × Int) :=
  (if ((decide (a1 < 0))) = true then wire_ReadUint.k1 l0 a1 true else wire_ReadUint.k1 l0 a1 (decide ((((l0.length : Int))) < a1)))
theorem wire_ReadUint.c {i0 c0 : Nat} {A0 : Option Addr} {l0 : List UInt8} {a1 : Int} (hB : Base B) (hS : St B (hs) w) (h0 : (hs)[i0]? = some (Ro E8 A0 c0 l0)) {r : Int × Int × Int} (hr : wire_ReadUint.impl l0 a1 = some r) :
    Calls Tryd.prog 45 #[.slice A0 l0.length c0, .int .i64 a1] w fun e w' => ∃ x : Unit, e = .returned (.tuple #[.int .i64 r.1, .int .i64 r.2.1, .int .i64 r.2.2]) ∧ St B (hs) w' := by
 unfold wire_ReadUint.impl at hr
 refine calls_T Tryd.func45 rfl rfl rfl hS ?_
 refine T.front i0 h0 ?_
 refine T.seq ?_
 refine st ?_
 refine T.seq ?_
 refine T.seqJ (fun (s1 : Bool) (x1 : Unit) => [(0, .slice A0 l0.length c0), (1, .int .i64 a1), (4, .int .i64 0), (16, .bool s1)]) (fun s1 x1 => Ro E8 A0 c0 l0 :: hs) (fun s1 => wire_ReadUint.k1 l0 a1 s1 = some r) (fun s1 x1 hk1 => ?_) (fun J1 => ?_)
 ·unfold wire_ReadUint.k1 at hk1
  refine A.cd hk1 rfl (fun hb1 hk1 => ?_) (fun hb1 hk1 => ?_)
  ·refine sq ?_
   obtain rfl := inv_some hk1
   refine pk [] 1 ?_
   refine T.ret3 rfl rfl rfl rfl (fun w hS => ⟨(), rfl, hS⟩)
  ·refine st ?_
   refine T.seqJ (fun (s2 : Unit) (x2 : Unit) => []) (fun s2 x2 => hs) (fun s2 => wire_ReadUint.k2 s2 = some r) (fun s2 x2 hk2 => ?_) (fun J2 => ?_)
   ·unfold wire_ReadUint.k2 at hk2
    refine sq ?_
    obtain rfl := inv_some hk2
    refine pk [] 0 ?_
    refine T.ret3 rfl rfl rfl rfl (fun w hS => ⟨(), rfl, hS⟩)
   ·refine sq ?_
    obtain ⟨e1, hl1, hk1⟩ := inv_bind hk1
    refine jn [0] 1 (T.loop (s0 := (0, 0)) (env := fun s3 x3 => [(0, .slice A0 l0.length c0), (1, .int .i64 a1), (4, .int .i64 s3.1), (17, .int .i64 s3.2)]) (hs := fun (s3 : Int × Int) (x3 : Unit) => Ro E8 A0 c0 l0 :: hs) hl1 () (fun K1 s3 x3 o1 he1 hm1 hx1 => ?_))
    unfold wire_ReadUint.st1 at he1
    refine sq ?_
    refine A.cd he1 rfl (fun hb2 he1 => ?_) (fun hb2 he1 => ?_)
    ·refine sq ?_
     refine A.cd he1 rfl (fun hb3 he1 => ?_) (fun hb3 he1 => ?_)
     ·refine sq ?_
      obtain rfl := inv_some he1
      obtain rfl := hx1 _ rfl
      refine st ?_
      obtain rfl := inv_some hk1
      refine pk [] 1 ?_
      refine T.ret3 rfl rfl rfl rfl (fun w hS => ⟨(), rfl, hS⟩)
     ·refine sq ?_
      obtain ⟨hc1, he1⟩ := inv_chk he1
      refine T.idxRo .list 0 rfl rfl (wants0 rfl) rfl rfl rfl hc1.1 hc1.2 (Nat.le_refl _) ?_
      refine T.ldRo1 .list 0 rfl rfl (wants0 rfl) rfl rfl hc1.1 hc1.2 ?_
      refine st ?_
      refine T.seq ?_
      refine T.seqJ (fun (s4 : Bool) (x4 : Unit) => [(0, .slice A0 l0.length c0), (1, .int .i64 a1), (4, .int .i64 s3.1), (7, .int .i64 s3.2), (8, .int .u8 (((l0.getD (IntKind.i64.wrap (a1 + s3.2) : Int).toNat default).toNat : Int))), (17, .int .i64 s3.2), (37, .bool s4)]) (fun s4 x4 => Ro E8 A0 c0 l0 :: hs) (fun s4 => wire_ReadUint.k3 l0 a1 s3 s4 = some o1) (fun s4 x4 hk3 => ?_) (fun J3 => ?_)
      ·unfold wire_ReadUint.k3 at hk3
       refine A.cd hk3 rfl (fun hb4 hk3 => ?_) (fun hb4 hk3 => ?_)
       ·refine sq ?_
        obtain rfl := inv_some hk3
        obtain rfl := hx1 _ rfl
        refine st ?_
        obtain rfl := inv_some hk1
        refine pk [] 1 ?_
        refine T.ret3 rfl rfl rfl rfl (fun w hS => ⟨(), rfl, hS⟩)
       ·refine sq ?_
        refine T.shl .list rfl (wants0 rfl) rfl rfl rfl (by decide) ?_
        refine st ?_
        refine T.conv .list rfl (wants0 rfl) rfl rfl rfl ?_
        refine sq ?_
        refine A.cd hk3 rfl (fun hb5 hk3 => ?_) (fun hb5 hk3 => ?_)
        ·refine sq ?_
         obtain rfl := inv_some hk3
         obtain rfl := hx1 _ rfl
         refine st ?_
         obtain rfl := inv_some hk1
         refine pk [] 1 ?_
         refine T.ret3 rfl rfl rfl rfl (fun w hS => ⟨(), rfl, hS⟩)
        ·refine T.skip ?_
         refine sx ?_
         refine T.region ?_
         refine sx ?_
         obtain rfl := inv_some hk3
         exact jn [0] 1 (hm1 (bitsOf .or .i64 (shlI .i64 s3.1 7) (IntKind.i64.wrap (bitsOf .and .u8 (((l0.getD (IntKind.i64.wrap (a1 + s3.2) : Int).toNat default).toNat : Int)) 127)), IntKind.i64.wrap (s3.2 + 1)) rfl ())
      ·refine st ?_
       refine br he1 (fun hb6 he1 => ?_) (fun hb6 he1 => ?_)
       ·refine sx ?_
        exact jn [0] 1 (J3 (decide (((((l0.getD (IntKind.i64.wrap (a1 + s3.2) : Int).toNat default).toNat : Int))) = 128)) () he1)
       ·refine sx ?_
        exact jn [0] 1 (J3 false () he1)
    ·refine T.exit ?_
     refine sx ?_
     obtain rfl := inv_some he1
     obtain rfl := hx1 _ rfl
     refine sx ?_
     exact T.le EnvLe.nil (T.pick [] 1 rfl rfl nla rfl (J2 () () hk1))
 ·refine st ?_
  refine br hr (fun hb7 hr => ?_) (fun hb7 hr => ?_)
  ·refine sx ?_
   exact jn [0] 1 (J1 true () hr)
  ·refine sx ?_
   exact jn [0] 1 (J1 (decide ((((l0.length : Int))) < a1)) () hr)

noncomputable def wire_ReadBytes.impl (l0 : List UInt8) (a1 : Int) (a2 : Int) : Option (List UInt8 × Int × Int) :=
  (wire_ReadUint.impl l0 a1).bind fun r1 => (if ((!(decide (r1.2.2 = 0)))) = true then some (([] : List UInt8), 0, r1.2.2) else (if ((decide (a2 < 0))) = true then some (([] : List UInt8), 0, 1) else (if ((decide (a2 < r1.1))) = true then some (([] : List UInt8), 0, 3) else (if ((decide (((IntKind.i64.wrap (((l0.length : Int)) - r1.2.1))) < r1.1))) = true then some (([] : List UInt8), 0, 10) else chk (0 ≤ r1.2.1 ∧ r1.2.1 ≤ (IntKind.i64.wrap (r1.2.1 + r1.1)) ∧ (IntKind.i64.wrap (r1.2.1 + r1.1)) ≤ (l0.length : Int)) (chk (((([] : List UInt8)).length + (subl l0 r1.2.1 (IntKind.i64.wrap (r1.2.1 + r1.1))).length) * 1 ≤ 140737488355328) (some (((([] : List UInt8)) ++ (subl l0 r1.2.1 (IntKind.i64.wrap (r1.2.1 + r1.1)))), IntKind.i64.wrap (r1.2.1 + r1.1), 0)))))))
theorem wire_ReadBytes.c {i0 c0 : Nat} {A0 : Option Addr} {l0 : List UInt8} {a1 : Int} {a2 : Int} (hB : Base B) (hS : St B (hs) w) (h0 : (hs)[i0]? = some (Ro E8 A0 c0 l0)) {r : List UInt8 × Int × Int} (hr : wire_ReadBytes.impl l0 a1 a2 = some r) :
    Calls Tryd.prog 68 #[.slice A0 l0.length c0, .int .i64 a1, .int .i64 a2] w fun e w' => ∃ x : ty3, e = .returned (.tuple #[.slice x.1 r.1.length x.2, .int .i64 r.2.1, .int .i64 r.2.2]) ∧ St B (Bf E8 5 x.1 x.2 r.1 :: hs) w' := by
 unfold wire_ReadBytes.impl at hr
 refine calls_T Tryd.func68 rfl rfl rfl hS ?_
 refine T.front i0 h0 ?_
 refine sq ?_
 obtain ⟨r1, hg1, hr⟩ := inv_bind hr
 refine A.c2 rfl rfl rfl Tryd.func45 rfl (fun w hS => wire_ReadUint.c hB hS (i0 := 0) rfl hg1) (fun x1 => ?_)
 refine sq ?_
 refine A.cd hr rfl (fun hb1 hr => ?_) (fun hb1 hr => ?_)
 ·refine sq ?_
  obtain rfl := inv_some hr
  refine T.nilBf E8 5 ?_
  refine pk [0] 2 ?_
  refine T.ret3 rfl rfl rfl rfl (fun w hS => ⟨(none, 0), rfl, hS⟩)
 ·refine sq ?_
  refine A.cd hr rfl (fun hb2 hr => ?_) (fun hb2 hr => ?_)
  ·refine sq ?_
   obtain rfl := inv_some hr
   refine T.nilBf E8 5 ?_
   refine pk [0] 2 ?_
   refine T.ret3 rfl rfl rfl rfl (fun w hS => ⟨(none, 0), rfl, hS⟩)
  ·refine sq ?_
   refine A.cd hr rfl (fun hb3 hr => ?_) (fun hb3 hr => ?_)
   ·refine sq ?_
    obtain rfl := inv_some hr
    refine T.nilBf E8 5 ?_
    refine pk [0] 2 ?_
    refine T.ret3 rfl rfl rfl rfl (fun w hS => ⟨(none, 0), rfl, hS⟩)
   ·refine sq ?_
    refine A.cd hr rfl (fun hb4 hr => ?_) (fun hb4 hr => ?_)
    ·refine sq ?_
     obtain rfl := inv_some hr
     refine T.nilBf E8 5 ?_
     refine pk [0] 2 ?_
     refine T.ret3 rfl rfl rfl rfl (fun w hS => ⟨(none, 0), rfl, hS⟩)
    ·refine sq ?_
     obtain ⟨hc1, hr⟩ := inv_chk hr
     refine T.cut .list 0 rfl rfl rfl (wants0 rfl) rfl rfl (.inr ⟨_, _, rfl, rfl⟩) (.inr ⟨_, _, rfl, rfl⟩) hc1.1 hc1.2.1 hc1.2.2 ?_
     refine T.nilBf E8 5 ?_
     obtain ⟨hc2, hr⟩ := inv_chk hr
     refine T.appRo .list 0 1 rfl rfl rfl rfl rfl (wants0 rfl) rfl rfl rfl rfl rfl rfl hc2 (fun _ _ => rfl) (fun A4 c4 => ?_)
     refine st ?_
     obtain rfl := inv_some hr
     refine pk [0] 3 ?_
     refine T.ret3 rfl rfl rfl rfl (fun w hS => ⟨(A4, c4), rfl, hS⟩)
end Go.Proofs.YtpogdeibkghhaaaDoor
