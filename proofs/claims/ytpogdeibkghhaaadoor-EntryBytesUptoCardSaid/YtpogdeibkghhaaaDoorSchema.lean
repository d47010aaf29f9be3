/- Schema: what the functions compute, and that the program computes it; printed by a program of ours. -/
import Derived.Test.YtpogdeibkghhaaaDoorWire
import Derived.Test.YtpogdeibkghhaaaDoorNam
set_option linter.unusedVariables false
set_option linter.unusedSimpArgs false
namespace Go.Proofs.YtpogdeibkghhaaaDoor
open Go.RowKit
set_option maxRecDepth 100000
set_option maxHeartbeats 4000000
variable {B : World} {hs : List MP} {w : World}
noncomputable def schema_Name.k1 (s1 : Int) : Option Bool :=
  (if ((decide ((1 : Int) ≤ s1))) = true then some (decide (s1 ≤ 8)) else some false)
noncomputable def schema_Name.k2 (s2 : Int × Nat) (l0 : List UInt8) (s3 : Bool) : Option ((Int × Nat) ⊕ (Bool ⊕ Int)) :=
  (if s3 = true then some (.inr (.inl false)) else some (.inl (IntKind.i64.wrap (s2.1 + 1), (s2.2 + (runeAt l0 s2.2).2))))
noncomputable def schema_Name.st1 (l0 : List UInt8) (s2 : Int × Nat) : Option ((Int × Nat) ⊕ (Bool ⊕ Int)) :=
  (if ((decide (s2.2 < l0.length))) = true then (if ((decide (((((runeAt l0 s2.2).1 : Int))) < 97))) = true then schema_Name.k2 s2 l0 true else schema_Name.k2 s2 l0 (decide ((122 : Int) < (((runeAt l0 s2.2).1 : Int))))) else some (.inr (.inr s2.1)))
noncomputable def schema_Name.impl (l0 : List UInt8) : Option Bool :=
  (loop (schema_Name.st1 l0) (0, 0)).bind (fun e1 => match e1 with | .inl v => some v | .inr v => schema_Name.k1 v)
theorem schema_Name.c {l0 : List UInt8} (hB : Base B) (hS : St B (hs) w) {r : Bool} (hr : schema_Name.impl l0 = some r) :
    Calls Tryd.prog 84 #[str l0] w fun e w' => ∃ x : Unit, e = .returned (.bool r) ∧ St B (hs) w' := by
 unfold schema_Name.impl at hr
 refine calls_T Tryd.func84 rfl rfl rfl hS ?_
 refine T.seq ?_
 refine st ?_
 refine T.seq ?_
 refine st ?_
 refine T.seqJ (fun (s1 : Int) (x1 : Unit) => [(3, .int .i64 s1)]) (fun s1 x1 => hs) (fun s1 => schema_Name.k1 s1 = some r) (fun s1 x1 hk1 => ?_) (fun J1 => ?_)
 ·unfold schema_Name.k1 at hk1
  refine sq ?_
  refine br hk1 (fun hb1 hk1 => ?_) (fun hb1 hk1 => ?_)
  ·refine st ?_
   obtain rfl := inv_some hk1
   refine pk [] 0 ?_
   refine T.ret1 rfl rfl (fun w hS => ⟨(), rfl, hS⟩)
  ·refine st ?_
   obtain rfl := inv_some hk1
   refine pk [] 0 ?_
   refine T.ret1 rfl rfl (fun w hS => ⟨(), rfl, hS⟩)
 ·refine sq ?_
  refine T.range .list rfl (wants0 rfl) rfl (l := l0) rfl (fun b1 => ?_)
  refine st ?_
  obtain ⟨e1, hl1, hr⟩ := inv_bind hr
  refine jn [0] 1 (T.loop (s0 := (0, 0)) (env := fun s2 x2 => [(3, .int .i64 s2.1), (7, .pointer (some ⟨b1, 0, none⟩))]) (hs := fun (s2 : Int × Nat) (x2 : Unit) => It b1 l0 s2.2 :: hs) hl1 () (fun K1 s2 x2 o1 he1 hm1 hx1 => ?_))
  unfold schema_Name.st1 at he1
  refine sq ?_
  refine br he1 (fun hb2 he1 => ?_) (fun hb2 he1 => ?_)
  ·refine T.nextMore .list 0 rfl rfl (wants0 rfl) rfl rfl hb2 rfl ?_
   refine sq ?_
   refine T.condT rfl rfl ?_
   refine st ?_
   refine T.seq ?_
   refine st ?_
   refine T.seq ?_
   refine T.seqJ (fun (s3 : Bool) (x3 : Unit) => [(3, .int .i64 s2.1), (7, .pointer (some ⟨b1, 0, none⟩)), (16, .bool s3)]) (fun s3 x3 => It b1 l0 ((s2.2 + (runeAt l0 s2.2).2)) :: hs) (fun s3 => schema_Name.k2 s2 l0 s3 = some o1) (fun s3 x3 hk2 => ?_) (fun J2 => ?_)
   ·unfold schema_Name.k2 at hk2
    refine A.cd hk2 rfl (fun hb3 hk2 => ?_) (fun hb3 hk2 => ?_)
    ·refine sq ?_
     obtain rfl := inv_some hk2
     obtain rfl := hx1 _ rfl
     refine st ?_
     obtain rfl := inv_some hr
     refine pk [] 1 ?_
     refine T.ret1 rfl rfl (fun w hS => ⟨(), rfl, hS⟩)
    ·refine T.skip ?_
     refine sx ?_
     refine T.region ?_
     refine sx ?_
     obtain rfl := inv_some hk2
     exact jn [0] 1 (hm1 (IntKind.i64.wrap (s2.1 + 1), (s2.2 + (runeAt l0 s2.2).2)) rfl ())
   ·refine st ?_
    refine br he1 (fun hb4 he1 => ?_) (fun hb4 he1 => ?_)
    ·refine sx ?_
     exact jn [0] 1 (J2 true () he1)
    ·refine sx ?_
     exact jn [0] 1 (J2 (decide ((122 : Int) < (((runeAt l0 s2.2).1 : Int)))) () he1)
  ·refine T.nextOver .list 0 rfl rfl (wants0 rfl) rfl rfl hb2 ?_
   refine sq ?_
   refine T.condF rfl rfl ?_
   refine T.exit ?_
   refine sx ?_
   obtain rfl := inv_some he1
   obtain rfl := hx1 _ rfl
   refine sx ?_
   exact jn [] 1 (J1 s2.1 () hr)

noncomputable def schema_column.k1 (a0 : ty5) (s1 : Bool) : Option Bool :=
  (if s1 = true then (schema_Name.impl a0.1).bind fun r2 => (if r2 = true then some (decide (a0.2.2 = 0)) else some false) else some false)
noncomputable def schema_column.impl (a0 : ty5) : Option Bool :=
  (if ((decide (a0.2.1 = 2))) = true then (schema_Name.impl a0.1).bind fun r1 => (if r1 = true then (if ((decide ((1 : Int) ≤ a0.2.2))) = true then some (decide (a0.2.2 ≤ 8)) else some false) else some false) else (if ((decide (a0.2.1 = 1))) = true then schema_column.k1 a0 (decide (a0.2.1 = 1)) else schema_column.k1 a0 (decide (a0.2.1 = 3))))
theorem schema_column.c {a0 : ty5} (hB : Base B) (hS : St B (hs) w) {r : Bool} (hr : schema_column.impl a0 = some r) :
    Calls Tryd.prog 87 #[.agg #[str a0.1, .int .i64 a0.2.1, .int .i64 a0.2.2]] w fun e w' => ∃ x : Unit, e = .returned (.bool r) ∧ St B (hs) w' := by
 unfold schema_column.impl at hr
 refine calls_T Tryd.func87 rfl rfl rfl hS ?_
 refine sq ?_
 refine A.bx rfl rfl (fun b1 => ?_)
 refine sq ?_
 refine A.cd hr rfl (fun hb1 hr => ?_) (fun hb1 hr => ?_)
 ·refine sq ?_
  obtain ⟨r1, hg1, hr⟩ := inv_bind hr
  refine A.c1 rfl rfl Tryd.func84 rfl (fun w hS => schema_Name.c hB hS  hg1) (fun x1 => ?_)
  refine st ?_
  refine br hr (fun hb2 hr => ?_) (fun hb2 hr => ?_)
  ·refine st ?_
   refine br hr (fun hb3 hr => ?_) (fun hb3 hr => ?_)
   ·refine st ?_
    obtain rfl := inv_some hr
    refine pk [] 1 ?_
    refine T.ret1 rfl rfl (fun w hS => ⟨(), rfl, hS⟩)
   ·refine st ?_
    obtain rfl := inv_some hr
    refine pk [] 1 ?_
    refine T.ret1 rfl rfl (fun w hS => ⟨(), rfl, hS⟩)
  ·refine st ?_
   obtain rfl := inv_some hr
   refine pk [] 1 ?_
   refine T.ret1 rfl rfl (fun w hS => ⟨(), rfl, hS⟩)
 ·refine T.seqJ (fun (s1 : Bool) (x2 : Unit) => [(1, .pointer (some ⟨b1, 0, none⟩)), (20, .bool s1)]) (fun s1 x2 => Cl b1 129 [str a0.1, .int .i64 a0.2.1, .int .i64 a0.2.2] :: hs) (fun s1 => schema_column.k1 a0 s1 = some r) (fun s1 x2 hk1 => ?_) (fun J1 => ?_)
  ·unfold schema_column.k1 at hk1
   refine A.cd hk1 rfl (fun hb4 hk1 => ?_) (fun hb4 hk1 => ?_)
   ·refine sq ?_
    obtain ⟨r2, hg2, hk1⟩ := inv_bind hk1
    refine A.c1 rfl rfl Tryd.func84 rfl (fun w hS => schema_Name.c hB hS  hg2) (fun x3 => ?_)
    refine st ?_
    refine br hk1 (fun hb5 hk1 => ?_) (fun hb5 hk1 => ?_)
    ·refine st ?_
     obtain rfl := inv_some hk1
     refine pk [] 1 ?_
     refine T.ret1 rfl rfl (fun w hS => ⟨(), rfl, hS⟩)
    ·refine st ?_
     obtain rfl := inv_some hk1
     refine pk [] 1 ?_
     refine T.ret1 rfl rfl (fun w hS => ⟨(), rfl, hS⟩)
   ·refine sq ?_
    obtain rfl := inv_some hk1
    refine pk [] 1 ?_
    refine T.ret1 rfl rfl (fun w hS => ⟨(), rfl, hS⟩)
  ·refine sq ?_
   refine A.cd hr rfl (fun hb6 hr => ?_) (fun hb6 hr => ?_)
   ·refine T.skip ?_
    refine sx ?_
    exact jn [0] 1 (J1 (decide (a0.2.1 = 1)) () hr)
   ·refine T.region ?_
    refine sx ?_
    exact jn [0] 1 (J1 (decide (a0.2.1 = 3)) () hr)

noncomputable def schema_Right_1.impl (a0 : ty5) (ok0 : List UInt8 × Int × Int) : Option Bool :=
  some (decide (a0.1 = ok0.1))
theorem schema_Right_1.c {a0 : ty5} {pk0 : Nat} {ok0 : List UInt8 × Int × Int} (hB : Base B) (hS : St B (Cl pk0 129 [str ok0.1, .int .i64 ok0.2.1, .int .i64 ok0.2.2] :: hs) w) {r : Bool} (hr : schema_Right_1.impl a0 ok0 = some r) :
    Calls Tryd.prog 86 #[.agg #[str a0.1, .int .i64 a0.2.1, .int .i64 a0.2.2], .pointer (some ⟨pk0, 0, none⟩)] w fun e w' => ∃ x : Unit, e = .returned (.bool r) ∧ St B (Cl pk0 129 [str ok0.1, .int .i64 ok0.2.1, .int .i64 ok0.2.2] :: hs) w' := by
 unfold schema_Right_1.impl at hr
 refine calls_T Tryd.func86 rfl rfl rfl hS ?_
 refine sq ?_
 refine A.bx rfl rfl (fun b1 => ?_)
 refine sq ?_
 refine T.strEq .list rfl (wants0 rfl) rfl (l := a0.1) (l' := ok0.1) rfl rfl ?_
 refine st ?_
 obtain rfl := inv_some hr
 refine pk [1] 2 ?_
 refine T.ret1 rfl rfl (fun w hS => ⟨(), rfl, hS⟩)

noncomputable def slices_IndexFunc_api_Column_api_Column__schema_Right_1.k1 (s1 : Unit) : Option Int :=
  some (-1)
noncomputable def slices_IndexFunc_api_Column_api_Column__schema_Right_1.st1 (l0 : List ty5) (o1c0 : List UInt8 × Int × Int) (s2 : Int) : Option (Int ⊕ (Int ⊕ Unit)) :=
  (if ((decide (s2 < ((l0.length : Int))))) = true then chk (0 ≤ s2 ∧ s2 < (l0.length : Int)) ((schema_Right_1.impl ((l0.getD (s2 : Int).toNat default)) ((o1c0.1, o1c0.2.1, o1c0.2.2))).bind fun r1 => (if r1 = true then some (.inr (.inl s2)) else some (.inl (IntKind.i64.wrap (s2 + 1))))) else some (.inr (.inr ())))
noncomputable def slices_IndexFunc_api_Column_api_Column__schema_Right_1.impl (l0 : List ty5) (o1c0 : List UInt8 × Int × Int) : Option Int :=
  (loop (slices_IndexFunc_api_Column_api_Column__schema_Right_1.st1 l0 o1c0) 0).bind (fun e1 => match e1 with | .inl v => some v | .inr v => slices_IndexFunc_api_Column_api_Column__schema_Right_1.k1 v)
theorem slices_IndexFunc_api_Column_api_Column__schema_Right_1.c {i0 c0 : Nat} {A0 : Option Addr} {l0 : List ty5} {p1c0 : Nat} {o1c0 : List UInt8 × Int × Int} (hB : Base B) (hS : St B (Cl p1c0 129 [str o1c0.1, .int .i64 o1c0.2.1, .int .i64 o1c0.2.2] :: hs) w) (h0 : (Cl p1c0 129 [str o1c0.1, .int .i64 o1c0.2.1, .int .i64 o1c0.2.2] :: hs)[i0]? = some (Ro el9 A0 c0 l0)) {r : Int} (hr : slices_IndexFunc_api_Column_api_Column__schema_Right_1.impl l0 o1c0 = some r) :
    Calls Tryd.prog 97 #[.slice A0 l0.length c0, .func (.func 86) #[] #[.pointer (some ⟨p1c0, 0, none⟩)]] w fun e w' => ∃ x : Unit, e = .returned (.int .i64 r) ∧ St B (Cl p1c0 129 [str o1c0.1, .int .i64 o1c0.2.1, .int .i64 o1c0.2.2] :: hs) w' := by
 unfold slices_IndexFunc_api_Column_api_Column__schema_Right_1.impl at hr
 refine calls_T Tryd.func97 rfl rfl rfl hS ?_
 refine T.front i0 h0 ?_
 refine T.seq ?_
 refine st ?_
 refine T.seqJ (fun (s1 : Unit) (x1 : Unit) => []) (fun s1 x1 => Cl p1c0 129 [str o1c0.1, .int .i64 o1c0.2.1, .int .i64 o1c0.2.2] :: hs) (fun s1 => slices_IndexFunc_api_Column_api_Column__schema_Right_1.k1 s1 = some r) (fun s1 x1 hk1 => ?_) (fun J1 => ?_)
 ·unfold slices_IndexFunc_api_Column_api_Column__schema_Right_1.k1 at hk1
  refine sq ?_
  obtain rfl := inv_some hk1
  refine pk [0] 1 ?_
  refine T.ret1 rfl rfl (fun w hS => ⟨(), rfl, hS⟩)
 ·refine sq ?_
  obtain ⟨e1, hl1, hr⟩ := inv_bind hr
  refine jn [0, 1] 2 (T.loop (s0 := 0) (env := fun s2 x2 => [(0, .slice A0 l0.length c0), (1, .func (.func 86) #[] #[.pointer (some ⟨p1c0, 0, none⟩)]), (7, .int .i64 ((l0.length : Int))), (8, .int .i64 s2)]) (hs := fun (s2 : Int) (x2 : Unit) => Ro el9 A0 c0 l0 :: Cl p1c0 129 [str o1c0.1, .int .i64 o1c0.2.1, .int .i64 o1c0.2.2] :: hs) hl1 () (fun K1 s2 x2 o1 he1 hm1 hx1 => ?_))
  unfold slices_IndexFunc_api_Column_api_Column__schema_Right_1.st1 at he1
  refine sq ?_
  refine A.cd he1 rfl (fun hb1 he1 => ?_) (fun hb1 he1 => ?_)
  ·refine sq ?_
   obtain ⟨hc1, he1⟩ := inv_chk he1
   refine T.idxRo .list 0 rfl rfl (wants0 rfl) rfl rfl rfl hc1.1 hc1.2 (Nat.le_refl _) ?_
   refine T.ldFRo 0 .list Fd.self (Sh.pair Sh.sc (Sh.pair Sh.sc Sh.sc)) rfl (.inl rfl) rfl rfl hc1.1 hc1.2 rfl (wants0 rfl) rfl rfl rfl (v := fun x3 => .agg #[str ((((l0.getD (s2 : Int).toNat default)).1)), .int .i64 ((((l0.getD (s2 : Int).toNat default)).2.1)), .int .i64 ((((l0.getD (s2 : Int).toNat default)).2.2))]) (hs' := fun x3 => Ro el9 A0 c0 l0 :: Cl p1c0 129 [str o1c0.1, .int .i64 o1c0.2.1, .int .i64 o1c0.2.2] :: hs) (fun _ => rfl) (fun _ => rfl) (fun x3 => ?_)
   refine T.pick [1, 0] 2 rfl rfl nla (hs' := Cl p1c0 129 [str o1c0.1, .int .i64 o1c0.2.1, .int .i64 o1c0.2.2] :: Ro el9 A0 c0 l0 :: hs) rfl ?_
   obtain ⟨r1, hg1, he1⟩ := inv_bind he1
   refine T.call .list (wants0 rfl) rfl (run_callV (vs := [_]) (caps := [.pointer (some ⟨p1c0, 0, none⟩)]) (args := [_, .pointer (some ⟨p1c0, 0, none⟩)]) rfl rfl Tryd.func86 rfl (by decide) rfl rfl) (fun w hS => schema_Right_1.c hB hS (a0 := (l0.getD (s2 : Int).toNat default)) (ok0 := (o1c0.1, o1c0.2.1, o1c0.2.2))  hg1) (fun x4 => ?_)
   refine st ?_
   refine A.cd he1 rfl (fun hb2 he1 => ?_) (fun hb2 he1 => ?_)
   ·refine sq ?_
    obtain rfl := inv_some he1
    obtain rfl := hx1 _ rfl
    refine st ?_
    obtain rfl := inv_some hr
    refine pk [0] 2 ?_
    refine T.ret1 rfl rfl (fun w hS => ⟨(), rfl, hS⟩)
   ·refine T.skip ?_
    refine sx ?_
    refine T.region ?_
    refine sx ?_
    obtain rfl := inv_some he1
    exact jn [1, 0] 2 (hm1 (IntKind.i64.wrap (s2 + 1)) rfl ())
  ·refine T.exit ?_
   refine sx ?_
   obtain rfl := inv_some he1
   obtain rfl := hx1 _ rfl
   refine sx ?_
   exact T.le EnvLe.nil (T.pick [1] 2 rfl rfl nla rfl (J1 () () hr))

noncomputable def slices_ContainsFunc_api_Column_api_Column__schema_Right_1.impl (l0 : List ty5) (o1c0 : List UInt8 × Int × Int) : Option Bool :=
  (slices_IndexFunc_api_Column_api_Column__schema_Right_1.impl l0 ((o1c0.1, o1c0.2.1, o1c0.2.2))).bind fun r1 => some (decide ((0 : Int) ≤ r1))
theorem slices_ContainsFunc_api_Column_api_Column__schema_Right_1.c {i0 c0 : Nat} {A0 : Option Addr} {l0 : List ty5} {p1c0 : Nat} {o1c0 : List UInt8 × Int × Int} (hB : Base B) (hS : St B (Cl p1c0 129 [str o1c0.1, .int .i64 o1c0.2.1, .int .i64 o1c0.2.2] :: hs) w) (h0 : (Cl p1c0 129 [str o1c0.1, .int .i64 o1c0.2.1, .int .i64 o1c0.2.2] :: hs)[i0]? = some (Ro el9 A0 c0 l0)) {r : Bool} (hr : slices_ContainsFunc_api_Column_api_Column__schema_Right_1.impl l0 o1c0 = some r) :
    Calls Tryd.prog 85 #[.slice A0 l0.length c0, .func (.func 86) #[] #[.pointer (some ⟨p1c0, 0, none⟩)]] w fun e w' => ∃ x : Unit, e = .returned (.bool r) ∧ St B (Cl p1c0 129 [str o1c0.1, .int .i64 o1c0.2.1, .int .i64 o1c0.2.2] :: hs) w' := by
 unfold slices_ContainsFunc_api_Column_api_Column__schema_Right_1.impl at hr
 refine calls_T Tryd.func85 rfl rfl rfl hS ?_
 refine T.front i0 h0 ?_
 refine sq ?_
 refine T.pick [1, 0] 2 rfl rfl nla (hs' := Cl p1c0 129 [str o1c0.1, .int .i64 o1c0.2.1, .int .i64 o1c0.2.2] :: Ro el9 A0 c0 l0 :: hs) rfl ?_
 obtain ⟨r1, hg1, hr⟩ := inv_bind hr
 refine A.c2 rfl rfl rfl Tryd.func97 rfl (fun w hS => slices_IndexFunc_api_Column_api_Column__schema_Right_1.c hB hS (i0 := 1) (o1c0 := (o1c0.1, o1c0.2.1, o1c0.2.2)) rfl hg1) (fun x1 => ?_)
 refine st ?_
 obtain rfl := inv_some hr
 refine pk [0] 2 ?_
 refine T.ret1 rfl rfl (fun w hS => ⟨(), rfl, hS⟩)

noncomputable def schema_Right_2.impl (a0 : ty0) (ok0 : ty0) : Option Bool :=
  some (decide (ok0.1 = a0.1))
theorem schema_Right_2.c {a0 : ty0} {pk0 : Nat} {ok0 : ty0} (hB : Base B) (hS : St B (Cl pk0 131 [.int .i64 ok0.1, .bool ok0.2] :: hs) w) {r : Bool} (hr : schema_Right_2.impl a0 ok0 = some r) :
    Calls Tryd.prog 89 #[.agg #[.int .i64 a0.1, .bool a0.2], .pointer (some ⟨pk0, 0, none⟩)] w fun e w' => ∃ x : Unit, e = .returned (.bool r) ∧ St B (Cl pk0 131 [.int .i64 ok0.1, .bool ok0.2] :: hs) w' := by
 unfold schema_Right_2.impl at hr
 refine calls_T Tryd.func89 rfl rfl rfl hS ?_
 refine sq ?_
 refine A.bx rfl rfl (fun b1 => ?_)
 refine sq ?_
 obtain rfl := inv_some hr
 refine pk [1] 2 ?_
 refine T.ret1 rfl rfl (fun w hS => ⟨(), rfl, hS⟩)

noncomputable def slices_IndexFunc_api_Index_api_Index__schema_Right_2.k1 (s1 : Unit) : Option Int :=
  some (-1)
noncomputable def slices_IndexFunc_api_Index_api_Index__schema_Right_2.st1 (l0 : List ty0) (o1c0 : ty0) (s2 : Int) : Option (Int ⊕ (Int ⊕ Unit)) :=
  (if ((decide (s2 < ((l0.length : Int))))) = true then chk (0 ≤ s2 ∧ s2 < (l0.length : Int)) ((schema_Right_2.impl ((l0.getD (s2 : Int).toNat default)) ((o1c0.1, o1c0.2))).bind fun r1 => (if r1 = true then some (.inr (.inl s2)) else some (.inl (IntKind.i64.wrap (s2 + 1))))) else some (.inr (.inr ())))
noncomputable def slices_IndexFunc_api_Index_api_Index__schema_Right_2.impl (l0 : List ty0) (o1c0 : ty0) : Option Int :=
  (loop (slices_IndexFunc_api_Index_api_Index__schema_Right_2.st1 l0 o1c0) 0).bind (fun e1 => match e1 with | .inl v => some v | .inr v => slices_IndexFunc_api_Index_api_Index__schema_Right_2.k1 v)
theorem slices_IndexFunc_api_Index_api_Index__schema_Right_2.c {i0 c0 : Nat} {A0 : Option Addr} {l0 : List ty0} {p1c0 : Nat} {o1c0 : ty0} (hB : Base B) (hS : St B (Cl p1c0 131 [.int .i64 o1c0.1, .bool o1c0.2] :: hs) w) (h0 : (Cl p1c0 131 [.int .i64 o1c0.1, .bool o1c0.2] :: hs)[i0]? = some (Ro el11 A0 c0 l0)) {r : Int} (hr : slices_IndexFunc_api_Index_api_Index__schema_Right_2.impl l0 o1c0 = some r) :
    Calls Tryd.prog 98 #[.slice A0 l0.length c0, .func (.func 89) #[] #[.pointer (some ⟨p1c0, 0, none⟩)]] w fun e w' => ∃ x : Unit, e = .returned (.int .i64 r) ∧ St B (Cl p1c0 131 [.int .i64 o1c0.1, .bool o1c0.2] :: hs) w' := by
 unfold slices_IndexFunc_api_Index_api_Index__schema_Right_2.impl at hr
 refine calls_T Tryd.func98 rfl rfl rfl hS ?_
 refine T.front i0 h0 ?_
 refine T.seq ?_
 refine st ?_
 refine T.seqJ (fun (s1 : Unit) (x1 : Unit) => []) (fun s1 x1 => Cl p1c0 131 [.int .i64 o1c0.1, .bool o1c0.2] :: hs) (fun s1 => slices_IndexFunc_api_Index_api_Index__schema_Right_2.k1 s1 = some r) (fun s1 x1 hk1 => ?_) (fun J1 => ?_)
 ·unfold slices_IndexFunc_api_Index_api_Index__schema_Right_2.k1 at hk1
  refine sq ?_
  obtain rfl := inv_some hk1
  refine pk [0] 1 ?_
  refine T.ret1 rfl rfl (fun w hS => ⟨(), rfl, hS⟩)
 ·refine sq ?_
  obtain ⟨e1, hl1, hr⟩ := inv_bind hr
  refine jn [0, 1] 2 (T.loop (s0 := 0) (env := fun s2 x2 => [(0, .slice A0 l0.length c0), (1, .func (.func 89) #[] #[.pointer (some ⟨p1c0, 0, none⟩)]), (7, .int .i64 ((l0.length : Int))), (8, .int .i64 s2)]) (hs := fun (s2 : Int) (x2 : Unit) => Ro el11 A0 c0 l0 :: Cl p1c0 131 [.int .i64 o1c0.1, .bool o1c0.2] :: hs) hl1 () (fun K1 s2 x2 o1 he1 hm1 hx1 => ?_))
  unfold slices_IndexFunc_api_Index_api_Index__schema_Right_2.st1 at he1
  refine sq ?_
  refine A.cd he1 rfl (fun hb1 he1 => ?_) (fun hb1 he1 => ?_)
  ·refine sq ?_
   obtain ⟨hc1, he1⟩ := inv_chk he1
   refine T.idxRo .list 0 rfl rfl (wants0 rfl) rfl rfl rfl hc1.1 hc1.2 (Nat.le_refl _) ?_
   refine T.ldFRo 0 .list Fd.self (Sh.pair Sh.sc Sh.sc) rfl (.inl rfl) rfl rfl hc1.1 hc1.2 rfl (wants0 rfl) rfl rfl rfl (v := fun x3 => .agg #[.int .i64 ((((l0.getD (s2 : Int).toNat default)).1)), .bool ((((l0.getD (s2 : Int).toNat default)).2))]) (hs' := fun x3 => Ro el11 A0 c0 l0 :: Cl p1c0 131 [.int .i64 o1c0.1, .bool o1c0.2] :: hs) (fun _ => rfl) (fun _ => rfl) (fun x3 => ?_)
   refine T.pick [1, 0] 2 rfl rfl nla (hs' := Cl p1c0 131 [.int .i64 o1c0.1, .bool o1c0.2] :: Ro el11 A0 c0 l0 :: hs) rfl ?_
   obtain ⟨r1, hg1, he1⟩ := inv_bind he1
   refine T.call .list (wants0 rfl) rfl (run_callV (vs := [_]) (caps := [.pointer (some ⟨p1c0, 0, none⟩)]) (args := [_, .pointer (some ⟨p1c0, 0, none⟩)]) rfl rfl Tryd.func89 rfl (by decide) rfl rfl) (fun w hS => schema_Right_2.c hB hS (a0 := (l0.getD (s2 : Int).toNat default)) (ok0 := (o1c0.1, o1c0.2))  hg1) (fun x4 => ?_)
   refine st ?_
   refine A.cd he1 rfl (fun hb2 he1 => ?_) (fun hb2 he1 => ?_)
   ·refine sq ?_
    obtain rfl := inv_some he1
    obtain rfl := hx1 _ rfl
    refine st ?_
    obtain rfl := inv_some hr
    refine pk [0] 2 ?_
    refine T.ret1 rfl rfl (fun w hS => ⟨(), rfl, hS⟩)
   ·refine T.skip ?_
    refine sx ?_
    refine T.region ?_
    refine sx ?_
    obtain rfl := inv_some he1
    exact jn [1, 0] 2 (hm1 (IntKind.i64.wrap (s2 + 1)) rfl ())
  ·refine T.exit ?_
   refine sx ?_
   obtain rfl := inv_some he1
   obtain rfl := hx1 _ rfl
   refine sx ?_
   exact T.le EnvLe.nil (T.pick [1] 2 rfl rfl nla rfl (J1 () () hr))

noncomputable def slices_ContainsFunc_api_Index_api_Index__schema_Right_2.impl (l0 : List ty0) (o1c0 : ty0) : Option Bool :=
  (slices_IndexFunc_api_Index_api_Index__schema_Right_2.impl l0 ((o1c0.1, o1c0.2))).bind fun r1 => some (decide ((0 : Int) ≤ r1))
theorem slices_ContainsFunc_api_Index_api_Index__schema_Right_2.c {i0 c0 : Nat} {A0 : Option Addr} {l0 : List ty0} {p1c0 : Nat} {o1c0 : ty0} (hB : Base B) (hS : St B (Cl p1c0 131 [.int .i64 o1c0.1, .bool o1c0.2] :: hs) w) (h0 : (Cl p1c0 131 [.int .i64 o1c0.1, .bool o1c0.2] :: hs)[i0]? = some (Ro el11 A0 c0 l0)) {r : Bool} (hr : slices_ContainsFunc_api_Index_api_Index__schema_Right_2.impl l0 o1c0 = some r) :
    Calls Tryd.prog 88 #[.slice A0 l0.length c0, .func (.func 89) #[] #[.pointer (some ⟨p1c0, 0, none⟩)]] w fun e w' => ∃ x : Unit, e = .returned (.bool r) ∧ St B (Cl p1c0 131 [.int .i64 o1c0.1, .bool o1c0.2] :: hs) w' := by
 unfold slices_ContainsFunc_api_Index_api_Index__schema_Right_2.impl at hr
 refine calls_T Tryd.func88 rfl rfl rfl hS ?_
 refine T.front i0 h0 ?_
 refine sq ?_
 refine T.pick [1, 0] 2 rfl rfl nla (hs' := Cl p1c0 131 [.int .i64 o1c0.1, .bool o1c0.2] :: Ro el11 A0 c0 l0 :: hs) rfl ?_
 obtain ⟨r1, hg1, hr⟩ := inv_bind hr
 refine A.c2 rfl rfl rfl Tryd.func98 rfl (fun w hS => slices_IndexFunc_api_Index_api_Index__schema_Right_2.c hB hS (i0 := 1) (o1c0 := (o1c0.1, o1c0.2)) rfl hg1) (fun x1 => ?_)
 refine st ?_
 obtain rfl := inv_some hr
 refine pk [0] 2 ?_
 refine T.ret1 rfl rfl (fun w hS => ⟨(), rfl, hS⟩)

noncomputable def schema_Right.k3 (s3 : Unit) : Option Int :=
  some 0
noncomputable def schema_Right.k4 (s4 : Int) (s5 : Bool) : Option (Int ⊕ (Int ⊕ Unit)) :=
  (if s5 = true then some (.inr (.inl 61)) else some (.inl (IntKind.i64.wrap (s4 + 1))))
noncomputable def schema_Right.st1 (a0 : ty6) (s4 : Int) : Option (Int ⊕ (Int ⊕ Unit)) :=
  (if ((decide (s4 < ((a0.2.2.length : Int))))) = true then chk (0 ≤ s4 ∧ s4 < (a0.2.2.length : Int)) (chk (0 ≤ s4 ∧ s4 ≤ (a0.2.2.length : Int)) ((slices_ContainsFunc_api_Index_api_Index__schema_Right_2.impl (subl a0.2.2 0 s4) (((((a0.2.2.getD (s4 : Int).toNat default)).1), (((a0.2.2.getD (s4 : Int).toNat default)).2)))).bind fun r1 => (if r1 = true then schema_Right.k4 s4 true else (if ((decide ((((((a0.2.2.getD (s4 : Int).toNat default)).1))) < 1))) = true then schema_Right.k4 s4 true else schema_Right.k4 s4 (decide ((((a0.2.1.length : Int))) ≤ ((((a0.2.2.getD (s4 : Int).toNat default)).1)))))))) else some (.inr (.inr ())))
noncomputable def schema_Right.k2 (a0 : ty6) (s2 : Unit) : Option Int :=
  (loop (schema_Right.st1 a0) 0).bind (fun e1 => match e1 with | .inl v => some v | .inr v => schema_Right.k3 v)
noncomputable def schema_Right.k5 (s6 : Int) (s7 : Bool) : Option (Int ⊕ (Int ⊕ Unit)) :=
  (if s7 = true then some (.inr (.inl 61)) else some (.inl (IntKind.i64.wrap (s6 + 1))))
noncomputable def schema_Right.st2 (a0 : ty6) (s6 : Int) : Option (Int ⊕ (Int ⊕ Unit)) :=
  (if ((decide (s6 < ((a0.2.1.length : Int))))) = true then chk (0 ≤ s6 ∧ s6 < (a0.2.1.length : Int)) (chk (0 ≤ s6 ∧ s6 ≤ (a0.2.1.length : Int)) ((slices_ContainsFunc_api_Column_api_Column__schema_Right_1.impl (subl a0.2.1 0 s6) (((((a0.2.1.getD (s6 : Int).toNat default)).1), (((a0.2.1.getD (s6 : Int).toNat default)).2.1), (((a0.2.1.getD (s6 : Int).toNat default)).2.2)))).bind fun r2 => (if r2 = true then schema_Right.k5 s6 true else (schema_column.impl (((((a0.2.1.getD (s6 : Int).toNat default)).1), (((a0.2.1.getD (s6 : Int).toNat default)).2.1), (((a0.2.1.getD (s6 : Int).toNat default)).2.2)))).bind fun r3 => schema_Right.k5 s6 (!r3)))) else some (.inr (.inr ())))
noncomputable def schema_Right.k1 (a0 : ty6) (s1 : Bool) : Option Int :=
  (if s1 = true then some 61 else (loop (schema_Right.st2 a0) 0).bind (fun e2 => match e2 with | .inl v => some v | .inr v => schema_Right.k2 a0 v))
noncomputable def schema_Right.impl (a0 : ty6) : Option Int :=
  (schema_Name.impl a0.1).bind fun r4 => (if r4 = true then (if ((decide ((((a0.2.1.length : Int))) < 1))) = true then schema_Right.k1 a0 true else (if ((decide ((3 : Int) < ((a0.2.1.length : Int))))) = true then schema_Right.k1 a0 true else schema_Right.k1 a0 (decide ((3 : Int) < ((a0.2.2.length : Int)))))) else schema_Right.k1 a0 true)
theorem schema_Right.c {a0 : ty6} {i0a c0a : Nat} {A0a : Option Addr} {i0b c0b : Nat} {A0b : Option Addr} (hB : Base B) (hS : St B (hs) w) (h0a : (hs)[i0a]? = some (Ro el9 A0a c0a a0.2.1)) (h0b : (hs)[i0b]? = some (Ro el11 A0b c0b a0.2.2)) {r : Int} (hr : schema_Right.impl a0 = some r) :
    Calls Tryd.prog 71 #[.agg #[str a0.1, .slice A0a a0.2.1.length c0a, .slice A0b a0.2.2.length c0b]] w fun e w' => ∃ x : Unit, e = .returned (.int .i64 r) ∧ St B (hs) w' := by
 unfold schema_Right.impl at hr
 refine calls_T Tryd.func71 rfl rfl rfl hS ?_
 refine T.front i0a h0a ?_
 refine T.front (i0b + 1) h0b ?_
 refine sq ?_
 refine A.bx rfl rfl (fun b1 => ?_)
 refine st ?_
 refine T.seq ?_
 refine T.seqJ (fun (s1 : Bool) (x1 : Unit) => [(1, .pointer (some ⟨b1, 0, none⟩)), (30, .bool s1)]) (fun s1 x1 => Cl b1 62 [str a0.1, .slice A0a a0.2.1.length c0a, .slice A0b a0.2.2.length c0b] :: Ro el9 A0a c0a a0.2.1 :: Ro el11 A0b c0b a0.2.2 :: hs) (fun s1 => schema_Right.k1 a0 s1 = some r) (fun s1 x1 hk1 => ?_) (fun J1 => ?_)
 ·unfold schema_Right.k1 at hk1
  refine A.cd hk1 rfl (fun hb1 hk1 => ?_) (fun hb1 hk1 => ?_)
  ·refine sq ?_
   obtain rfl := inv_some hk1
   refine pk [] 3 ?_
   refine T.ret1 rfl rfl (fun w hS => ⟨(), rfl, hS⟩)
  ·refine st ?_
   refine T.seqJ (fun (s2 : Unit) (x2 : Unit) => [(1, .pointer (some ⟨b1, 0, none⟩))]) (fun s2 x2 => Cl b1 62 [str a0.1, .slice A0a a0.2.1.length c0a, .slice A0b a0.2.2.length c0b] :: Ro el9 A0a c0a a0.2.1 :: Ro el11 A0b c0b a0.2.2 :: hs) (fun s2 => schema_Right.k2 a0 s2 = some r) (fun s2 x2 hk2 => ?_) (fun J2 => ?_)
   ·unfold schema_Right.k2 at hk2
    refine T.seqJ (fun (s3 : Unit) (x3 : Unit) => []) (fun s3 x3 => hs) (fun s3 => schema_Right.k3 s3 = some r) (fun s3 x3 hk3 => ?_) (fun J3 => ?_)
    ·unfold schema_Right.k3 at hk3
     refine sq ?_
     obtain rfl := inv_some hk3
     refine pk [] 0 ?_
     refine T.ret1 rfl rfl (fun w hS => ⟨(), rfl, hS⟩)
    ·refine sq ?_
     obtain ⟨e1, hl1, hk2⟩ := inv_bind hk2
     refine jn [0, 1, 2] 3 (T.loop (s0 := 0) (env := fun s4 x4 => [(1, .pointer (some ⟨b1, 0, none⟩)), (53, .slice A0b a0.2.2.length c0b), (54, .int .i64 ((a0.2.2.length : Int))), (55, .int .i64 s4)]) (hs := fun (s4 : Int) (x4 : Unit) => Cl b1 62 [str a0.1, .slice A0a a0.2.1.length c0a, .slice A0b a0.2.2.length c0b] :: Ro el9 A0a c0a a0.2.1 :: Ro el11 A0b c0b a0.2.2 :: hs) hl1 () (fun K1 s4 x4 o1 he1 hm1 hx1 => ?_))
     unfold schema_Right.st1 at he1
     refine sq ?_
     refine A.cd he1 rfl (fun hb2 he1 => ?_) (fun hb2 he1 => ?_)
     ·refine sq ?_
      obtain ⟨hc1, he1⟩ := inv_chk he1
      refine T.idxRo .list 2 rfl rfl (wants0 rfl) rfl rfl rfl hc1.1 hc1.2 (Nat.le_refl _) ?_
      refine T.ldFRo 2 .list Fd.self (Sh.pair Sh.sc Sh.sc) rfl (.inl rfl) rfl rfl hc1.1 hc1.2 rfl (wants0 rfl) rfl rfl rfl (v := fun x5 => .agg #[.int .i64 ((((a0.2.2.getD (s4 : Int).toNat default)).1)), .bool ((((a0.2.2.getD (s4 : Int).toNat default)).2))]) (hs' := fun x5 => Cl b1 62 [str a0.1, .slice A0a a0.2.1.length c0a, .slice A0b a0.2.2.length c0b] :: Ro el9 A0a c0a a0.2.1 :: Ro el11 A0b c0b a0.2.2 :: hs) (fun _ => rfl) (fun _ => rfl) (fun x5 => ?_)
      refine A.al rfl (fun b2 => ?_)
      refine sq ?_
      obtain ⟨hc2, he1⟩ := inv_chk he1
      refine T.cut0 .list 3 rfl rfl rfl (wants0 rfl) rfl rfl (.inl rfl) (.inr ⟨_, _, rfl, rfl⟩) hc2.1 hc2.2 ?_
      refine T.makeFunc .list (f := 89) (vs := [.pointer (some ⟨b2, 0, none⟩)]) rfl (wants0 rfl) rfl rfl ?_
      refine T.pick [1, 0, 2, 3, 4] 5 rfl rfl nla (hs' := Cl b2 131 [.int .i64 ((((a0.2.2.getD (s4 : Int).toNat default)).1)), .bool ((((a0.2.2.getD (s4 : Int).toNat default)).2))] :: Ro el11 A0b c0b (subl a0.2.2 0 s4) :: Cl b1 62 [str a0.1, .slice A0a a0.2.1.length c0a, .slice A0b a0.2.2.length c0b] :: Ro el9 A0a c0a a0.2.1 :: Ro el11 A0b c0b a0.2.2 :: hs) rfl ?_
      obtain ⟨r1, hg1, he1⟩ := inv_bind he1
      refine A.c2 rfl rfl rfl Tryd.func88 rfl (fun w hS => slices_ContainsFunc_api_Index_api_Index__schema_Right_2.c hB hS (i0 := 1) (o1c0 := ((((a0.2.2.getD (s4 : Int).toNat default)).1), (((a0.2.2.getD (s4 : Int).toNat default)).2))) rfl hg1) (fun x6 => ?_)
      refine st ?_
      refine T.seqJ (fun (s5 : Bool) (x7 : Unit) => [(1, .pointer (some ⟨b1, 0, none⟩)), (53, .slice A0b a0.2.2.length c0b), (54, .int .i64 ((a0.2.2.length : Int))), (55, .int .i64 s4), (79, .bool s5)]) (fun s5 x7 => Cl b1 62 [str a0.1, .slice A0a a0.2.1.length c0a, .slice A0b a0.2.2.length c0b] :: Ro el9 A0a c0a a0.2.1 :: Ro el11 A0b c0b a0.2.2 :: hs) (fun s5 => schema_Right.k4 s4 s5 = some o1) (fun s5 x7 hk4 => ?_) (fun J4 => ?_)
      ·unfold schema_Right.k4 at hk4
       refine A.cd hk4 rfl (fun hb3 hk4 => ?_) (fun hb3 hk4 => ?_)
       ·refine sq ?_
        obtain rfl := inv_some hk4
        obtain rfl := hx1 _ rfl
        refine st ?_
        obtain rfl := inv_some hk2
        refine pk [] 3 ?_
        refine T.ret1 rfl rfl (fun w hS => ⟨(), rfl, hS⟩)
       ·refine T.skip ?_
        refine sx ?_
        refine T.region ?_
        refine sx ?_
        obtain rfl := inv_some hk4
        exact jn [0, 1, 2] 3 (hm1 (IntKind.i64.wrap (s4 + 1)) rfl ())
      ·refine st ?_
       refine br he1 (fun hb4 he1 => ?_) (fun hb4 he1 => ?_)
       ·refine sx ?_
        exact jn [2, 3, 4] 5 (J4 true () he1)
       ·refine st ?_
        refine br he1 (fun hb5 he1 => ?_) (fun hb5 he1 => ?_)
        ·refine sx ?_
         exact jn [2, 3, 4] 5 (J4 true () he1)
        ·refine sx ?_
         exact jn [2, 3, 4] 5 (J4 (decide ((((a0.2.1.length : Int))) ≤ ((((a0.2.2.getD (s4 : Int).toNat default)).1)))) () he1)
     ·refine T.exit ?_
      refine sx ?_
      obtain rfl := inv_some he1
      obtain rfl := hx1 _ rfl
      refine sx ?_
      exact T.le EnvLe.nil (T.pick [] 3 rfl rfl nla rfl (J3 () () hk2))
   ·refine sq ?_
    obtain ⟨e2, hl2, hk1⟩ := inv_bind hk1
    refine jn [0, 1, 2] 3 (T.loop (s0 := 0) (env := fun s6 x8 => [(1, .pointer (some ⟨b1, 0, none⟩)), (32, .slice A0a a0.2.1.length c0a), (33, .int .i64 ((a0.2.1.length : Int))), (34, .int .i64 s6)]) (hs := fun (s6 : Int) (x8 : Unit) => Cl b1 62 [str a0.1, .slice A0a a0.2.1.length c0a, .slice A0b a0.2.2.length c0b] :: Ro el9 A0a c0a a0.2.1 :: Ro el11 A0b c0b a0.2.2 :: hs) hl2 () (fun K2 s6 x8 o2 he2 hm2 hx2 => ?_))
    unfold schema_Right.st2 at he2
    refine sq ?_
    refine A.cd he2 rfl (fun hb6 he2 => ?_) (fun hb6 he2 => ?_)
    ·refine sq ?_
     obtain ⟨hc3, he2⟩ := inv_chk he2
     refine T.idxRo .list 1 rfl rfl (wants0 rfl) rfl rfl rfl hc3.1 hc3.2 (Nat.le_refl _) ?_
     refine T.ldFRo 1 .list Fd.self (Sh.pair Sh.sc (Sh.pair Sh.sc Sh.sc)) rfl (.inl rfl) rfl rfl hc3.1 hc3.2 rfl (wants0 rfl) rfl rfl rfl (v := fun x9 => .agg #[str ((((a0.2.1.getD (s6 : Int).toNat default)).1)), .int .i64 ((((a0.2.1.getD (s6 : Int).toNat default)).2.1)), .int .i64 ((((a0.2.1.getD (s6 : Int).toNat default)).2.2))]) (hs' := fun x9 => Cl b1 62 [str a0.1, .slice A0a a0.2.1.length c0a, .slice A0b a0.2.2.length c0b] :: Ro el9 A0a c0a a0.2.1 :: Ro el11 A0b c0b a0.2.2 :: hs) (fun _ => rfl) (fun _ => rfl) (fun x9 => ?_)
     refine A.al rfl (fun b3 => ?_)
     refine sq ?_
     obtain ⟨hc4, he2⟩ := inv_chk he2
     refine T.cut0 .list 2 rfl rfl rfl (wants0 rfl) rfl rfl (.inl rfl) (.inr ⟨_, _, rfl, rfl⟩) hc4.1 hc4.2 ?_
     refine T.makeFunc .list (f := 86) (vs := [.pointer (some ⟨b3, 0, none⟩)]) rfl (wants0 rfl) rfl rfl ?_
     refine T.pick [1, 0, 2, 3, 4] 5 rfl rfl nla (hs' := Cl b3 129 [str ((((a0.2.1.getD (s6 : Int).toNat default)).1)), .int .i64 ((((a0.2.1.getD (s6 : Int).toNat default)).2.1)), .int .i64 ((((a0.2.1.getD (s6 : Int).toNat default)).2.2))] :: Ro el9 A0a c0a (subl a0.2.1 0 s6) :: Cl b1 62 [str a0.1, .slice A0a a0.2.1.length c0a, .slice A0b a0.2.2.length c0b] :: Ro el9 A0a c0a a0.2.1 :: Ro el11 A0b c0b a0.2.2 :: hs) rfl ?_
     obtain ⟨r2, hg2, he2⟩ := inv_bind he2
     refine A.c2 rfl rfl rfl Tryd.func85 rfl (fun w hS => slices_ContainsFunc_api_Column_api_Column__schema_Right_1.c hB hS (i0 := 1) (o1c0 := ((((a0.2.1.getD (s6 : Int).toNat default)).1), (((a0.2.1.getD (s6 : Int).toNat default)).2.1), (((a0.2.1.getD (s6 : Int).toNat default)).2.2))) rfl hg2) (fun x10 => ?_)
     refine st ?_
     refine T.seqJ (fun (s7 : Bool) (x11 : Unit) => [(1, .pointer (some ⟨b1, 0, none⟩)), (32, .slice A0a a0.2.1.length c0a), (33, .int .i64 ((a0.2.1.length : Int))), (34, .int .i64 s6), (50, .bool s7)]) (fun s7 x11 => Cl b1 62 [str a0.1, .slice A0a a0.2.1.length c0a, .slice A0b a0.2.2.length c0b] :: Ro el9 A0a c0a a0.2.1 :: Ro el11 A0b c0b a0.2.2 :: hs) (fun s7 => schema_Right.k5 s6 s7 = some o2) (fun s7 x11 hk5 => ?_) (fun J5 => ?_)
     ·unfold schema_Right.k5 at hk5
      refine A.cd hk5 rfl (fun hb7 hk5 => ?_) (fun hb7 hk5 => ?_)
      ·refine sq ?_
       obtain rfl := inv_some hk5
       obtain rfl := hx2 _ rfl
       refine st ?_
       obtain rfl := inv_some hk1
       refine pk [] 3 ?_
       refine T.ret1 rfl rfl (fun w hS => ⟨(), rfl, hS⟩)
      ·refine T.skip ?_
       refine sx ?_
       refine T.region ?_
       refine sx ?_
       obtain rfl := inv_some hk5
       exact jn [0, 1, 2] 3 (hm2 (IntKind.i64.wrap (s6 + 1)) rfl ())
     ·refine st ?_
      refine br he2 (fun hb8 he2 => ?_) (fun hb8 he2 => ?_)
      ·refine sx ?_
       exact jn [2, 3, 4] 5 (J5 true () he2)
      ·refine st ?_
       obtain ⟨r3, hg3, he2⟩ := inv_bind he2
       refine A.c1g rfl rfl hb8 rfl rfl Tryd.func87 rfl (fun w hS => schema_column.c hB hS (a0 := ((((a0.2.1.getD (s6 : Int).toNat default)).1), (((a0.2.1.getD (s6 : Int).toNat default)).2.1), (((a0.2.1.getD (s6 : Int).toNat default)).2.2)))  hg3) (fun x12 => ?_)
       refine T.not .list rfl (wants1 rfl rfl rfl hb8) rfl rfl ?_
       refine sx ?_
       exact jn [2, 3, 4] 5 (J5 (!r3) () he2)
    ·refine T.exit ?_
     refine sx ?_
     obtain rfl := inv_some he2
     obtain rfl := hx2 _ rfl
     refine sx ?_
     exact jn [0, 1, 2] 3 (J2 () () hk1)
 ·refine st ?_
  obtain ⟨r4, hg4, hr⟩ := inv_bind hr
  refine A.c1 rfl rfl Tryd.func84 rfl (fun w hS => schema_Name.c hB hS  hg4) (fun x13 => ?_)
  refine T.not .list rfl (wants0 rfl) rfl rfl ?_
  refine st ?_
  refine br hr (fun hb9 hr => ?_) (fun hb9 hr => ?_)
  ·refine st ?_
   refine br hr (fun hb10 hr => ?_) (fun hb10 hr => ?_)
   ·refine sx ?_
    exact jn [0, 2, 1] 3 (J1 true () hr)
   ·refine st ?_
    refine br hr (fun hb11 hr => ?_) (fun hb11 hr => ?_)
    ·refine sx ?_
     exact jn [0, 2, 1] 3 (J1 true () hr)
    ·refine sx ?_
     exact jn [0, 2, 1] 3 (J1 (decide ((3 : Int) < ((a0.2.2.length : Int)))) () hr)
  ·refine sx ?_
   exact jn [0, 2, 1] 3 (J1 true () hr)

noncomputable def schema_Encode.k3 (s3 : List UInt8) : Option ty1 :=
  some (s3, 0)
noncomputable def schema_Encode.k4 (s4 : ty1) (a0 : ty6) (s5 : Int) : Option (ty1 ⊕ (List UInt8)) :=
  chk (0 ≤ s5 ∧ s5 < 256) (chk ((s4.1.length + (([(u8 (IntKind.u8.wrap ((((a0.2.2.getD (s4.2 : Int).toNat default)).1)))), (u8 (s5))] : List UInt8)).length) * 1 ≤ 140737488355328) (some (.inl ((s4.1 ++ (([(u8 (IntKind.u8.wrap ((((a0.2.2.getD (s4.2 : Int).toNat default)).1)))), (u8 (s5))] : List UInt8))), IntKind.i64.wrap (s4.2 + 1)))))
noncomputable def schema_Encode.st1 (a0 : ty6) (s4 : ty1) : Option (ty1 ⊕ (List UInt8)) :=
  (if ((decide (s4.2 < ((a0.2.2.length : Int))))) = true then chk (0 ≤ s4.2 ∧ s4.2 < (a0.2.2.length : Int)) ((if ((((a0.2.2.getD (s4.2 : Int).toNat default)).2)) = true then schema_Encode.k4 s4 a0 1 else schema_Encode.k4 s4 a0 0)) else some (.inr s4.1))
noncomputable def schema_Encode.k2 (a0 : ty6) (s2 : List UInt8) : Option ty1 :=
  chk ((s2.length + (([(u8 (IntKind.u8.wrap ((a0.2.2.length : Int))))] : List UInt8)).length) * 1 ≤ 140737488355328) ((loop (schema_Encode.st1 a0) ((s2 ++ (([(u8 (IntKind.u8.wrap ((a0.2.2.length : Int))))] : List UInt8))), 0)).bind (fun e1 => schema_Encode.k3 e1))
noncomputable def schema_Encode.st2 (a0 : ty6) (s6 : ty1) : Option (ty1 ⊕ (List UInt8)) :=
  (if ((decide (s6.2 < ((a0.2.1.length : Int))))) = true then chk (0 ≤ s6.2 ∧ s6.2 < (a0.2.1.length : Int)) ((wire_Bytes.impl ((((a0.2.1.getD (s6.2 : Int).toNat default)).1))).bind fun r2 => chk ((s6.1.length + r2.length) * 1 ≤ 140737488355328) (chk ((((s6.1 ++ r2)).length + (([(u8 (IntKind.u8.wrap ((((a0.2.1.getD (s6.2 : Int).toNat default)).2.1)))), (u8 (IntKind.u8.wrap ((((a0.2.1.getD (s6.2 : Int).toNat default)).2.2))))] : List UInt8)).length) * 1 ≤ 140737488355328) (some (.inl ((((s6.1 ++ r2)) ++ (([(u8 (IntKind.u8.wrap ((((a0.2.1.getD (s6.2 : Int).toNat default)).2.1)))), (u8 (IntKind.u8.wrap ((((a0.2.1.getD (s6.2 : Int).toNat default)).2.2))))] : List UInt8))), IntKind.i64.wrap (s6.2 + 1)))))) else some (.inr s6.1))
noncomputable def schema_Encode.k1 (a0 : ty6) (s1 : List UInt8) : Option ty1 :=
  (loop (schema_Encode.st2 a0) (s1, 0)).bind (fun e2 => schema_Encode.k2 a0 e2)
noncomputable def schema_Encode.impl (a0 : ty6) : Option ty1 :=
  (schema_Right.impl a0).bind fun r1 => (if ((!(decide (r1 = 0)))) = true then some (([] : List UInt8), r1) else (wire_Bytes.impl a0.1).bind fun r3 => chk ((r3.length + (([(u8 (IntKind.u8.wrap ((a0.2.1.length : Int))))] : List UInt8)).length) * 1 ≤ 140737488355328) (schema_Encode.k1 a0 (r3 ++ (([(u8 (IntKind.u8.wrap ((a0.2.1.length : Int))))] : List UInt8)))))
theorem schema_Encode.c {a0 : ty6} {i0a c0a : Nat} {A0a : Option Addr} {i0b c0b : Nat} {A0b : Option Addr} (hB : Base B) (hS : St B (hs) w) (h0a : (hs)[i0a]? = some (Ro el9 A0a c0a a0.2.1)) (h0b : (hs)[i0b]? = some (Ro el11 A0b c0b a0.2.2)) {r : ty1} (hr : schema_Encode.impl a0 = some r) :
    Calls Tryd.prog 52 #[.agg #[str a0.1, .slice A0a a0.2.1.length c0a, .slice A0b a0.2.2.length c0b]] w fun e w' => ∃ x : ty3, e = .returned (.tuple #[.slice x.1 r.1.length x.2, .int .i64 r.2]) ∧ St B (Bf E8 5 x.1 x.2 r.1 :: hs) w' := by
 unfold schema_Encode.impl at hr
 refine calls_T Tryd.func52 rfl rfl rfl hS ?_
 refine T.front i0a h0a ?_
 refine T.front (i0b + 1) h0b ?_
 refine sq ?_
 refine A.bx rfl rfl (fun b1 => ?_)
 refine sq ?_
 obtain ⟨r1, hg1, hr⟩ := inv_bind hr
 refine A.c1 rfl rfl Tryd.func71 rfl (fun w hS => schema_Right.c hB hS (i0a := 2) (i0b := 1) (a0 := a0) rfl rfl hg1) (fun x1 => ?_)
 refine sq ?_
 refine A.cd hr rfl (fun hb1 hr => ?_) (fun hb1 hr => ?_)
 ·refine sq ?_
  obtain rfl := inv_some hr
  refine T.nilBf E8 5 ?_
  refine pk [0] 4 ?_
  refine T.ret2 rfl rfl rfl (fun w hS => ⟨(none, 0), rfl, hS⟩)
 ·refine st ?_
  refine T.seqJ (fun (s1 : List UInt8) (x2 : ty3) => [(1, .pointer (some ⟨b1, 0, none⟩)), (5, .slice x2.1 s1.length x2.2)]) (fun s1 x2 => Cl b1 62 [str a0.1, .slice A0a a0.2.1.length c0a, .slice A0b a0.2.2.length c0b] :: Ro el9 A0a c0a a0.2.1 :: Ro el11 A0b c0b a0.2.2 :: Bf E8 5 x2.1 x2.2 s1 :: hs) (fun s1 => schema_Encode.k1 a0 s1 = some r) (fun s1 x2 hk1 => ?_) (fun J1 => ?_)
  ·unfold schema_Encode.k1 at hk1
   refine T.seqJ (fun (s2 : List UInt8) (x3 : ty3) => [(1, .pointer (some ⟨b1, 0, none⟩)), (5, .slice x3.1 s2.length x3.2)]) (fun s2 x3 => Cl b1 62 [str a0.1, .slice A0a a0.2.1.length c0a, .slice A0b a0.2.2.length c0b] :: Ro el9 A0a c0a a0.2.1 :: Ro el11 A0b c0b a0.2.2 :: Bf E8 5 x3.1 x3.2 s2 :: hs) (fun s2 => schema_Encode.k2 a0 s2 = some r) (fun s2 x3 hk2 => ?_) (fun J2 => ?_)
   ·unfold schema_Encode.k2 at hk2
    refine sq ?_
    refine T.conv .list rfl (wants0 rfl) rfl rfl rfl ?_
    refine T.lit (E := E8) .list (vals := [(0, .int .u8 (IntKind.u8.wrap ((a0.2.2.length : Int))))]) (cells := #[.int .u8 (IntKind.u8.wrap ((a0.2.2.length : Int)))]) rfl (wants0 rfl) rfl rfl rfl rfl rfl (by kernel_rfl) ([(u8 (IntKind.u8.wrap ((a0.2.2.length : Int))))] : List UInt8) rfl (fun _ _ _ _ _ => (Encs.c1 (enc := b8) (h1 := fun _ => rfl) (b8_wrap _) rfl)) (fun b2 => ?_)
    obtain ⟨hc1, hk2⟩ := inv_chk hk2
    refine T.appBf .list 4 0 rfl rfl rfl rfl rfl (wants0 rfl) rfl rfl rfl rfl rfl rfl hc1 (fun _ _ => rfl) (fun A2 c2 => ?_)
    refine st ?_
    refine T.seqJ (fun (s3 : List UInt8) (x4 : ty3) => [(5, .slice x4.1 s3.length x4.2)]) (fun s3 x4 => Bf E8 5 x4.1 x4.2 s3 :: hs) (fun s3 => schema_Encode.k3 s3 = some r) (fun s3 x4 hk3 => ?_) (fun J3 => ?_)
    ·unfold schema_Encode.k3 at hk3
     refine sq ?_
     obtain rfl := inv_some hk3
     refine pk [0] 1 ?_
     refine T.ret2 rfl rfl rfl (fun w hS => ⟨(x4.1, x4.2), rfl, hS⟩)
    ·refine sq ?_
     obtain ⟨e1, hl1, hk2⟩ := inv_bind hk2
     refine jn [4, 3] 5 (T.loop (s0 := ((s2 ++ (([(u8 (IntKind.u8.wrap ((a0.2.2.length : Int))))] : List UInt8))), 0)) (env := fun s4 x5 => [(5, .slice x5.1 s4.1.length x5.2), (56, .slice A0b a0.2.2.length c0b), (57, .int .i64 ((a0.2.2.length : Int))), (58, .int .i64 s4.2)]) (hs := fun (s4 : ty1) (x5 : ty3) => Bf E8 5 x5.1 x5.2 s4.1 :: Ro el11 A0b c0b a0.2.2 :: hs) hl1 (A2, c2) (fun K1 s4 x5 o1 he1 hm1 hx1 => ?_))
     unfold schema_Encode.st1 at he1
     refine sq ?_
     refine A.cd he1 rfl (fun hb2 he1 => ?_) (fun hb2 he1 => ?_)
     ·refine sq ?_
      obtain ⟨hc2, he1⟩ := inv_chk he1
      refine T.idxRo .list 1 rfl rfl (wants0 rfl) rfl rfl rfl hc2.1 hc2.2 (Nat.le_refl _) ?_
      refine T.ldFRo 1 .list Fd.self (Sh.pair Sh.sc Sh.sc) rfl (.inl rfl) rfl rfl hc2.1 hc2.2 rfl (wants0 rfl) rfl rfl rfl (v := fun x6 => .agg #[.int .i64 ((((a0.2.2.getD (s4.2 : Int).toNat default)).1)), .bool ((((a0.2.2.getD (s4.2 : Int).toNat default)).2))]) (hs' := fun x6 => Bf E8 5 x5.1 x5.2 s4.1 :: Ro el11 A0b c0b a0.2.2 :: hs) (fun _ => rfl) (fun _ => rfl) (fun x6 => ?_)
      refine A.al rfl (fun b3 => ?_)
      refine st ?_
      refine T.seq ?_
      refine st ?_
      refine T.seqJ (fun (s5 : Int) (x7 : Unit) => [(5, .slice x5.1 s4.1.length x5.2), (9, .pointer (some ⟨b3, 0, none⟩)), (10, .int .u8 s5), (56, .slice A0b a0.2.2.length c0b), (57, .int .i64 ((a0.2.2.length : Int))), (58, .int .i64 s4.2)]) (fun s5 x7 => Bf E8 5 x5.1 x5.2 s4.1 :: Cl b3 131 [.int .i64 ((((a0.2.2.getD (s4.2 : Int).toNat default)).1)), .bool ((((a0.2.2.getD (s4.2 : Int).toNat default)).2))] :: Ro el11 A0b c0b a0.2.2 :: hs) (fun s5 => schema_Encode.k4 s4 a0 s5 = some o1) (fun s5 x7 hk4 => ?_) (fun J4 => ?_)
      ·unfold schema_Encode.k4 at hk4
       refine st ?_
       refine T.conv .list rfl (wants0 rfl) rfl rfl rfl ?_
       refine st ?_
       obtain ⟨hc3, hk4⟩ := inv_chk hk4
       refine T.lit (E := E8) .list (vals := [(0, .int .u8 (IntKind.u8.wrap ((((a0.2.2.getD (s4.2 : Int).toNat default)).1)))), (1, .int .u8 s5)]) (cells := #[.int .u8 (IntKind.u8.wrap ((((a0.2.2.getD (s4.2 : Int).toNat default)).1))), .int .u8 s5]) rfl (wants0 rfl) rfl rfl rfl rfl rfl (by kernel_rfl) ([(u8 (IntKind.u8.wrap ((((a0.2.2.getD (s4.2 : Int).toNat default)).1)))), (u8 (s5))] : List UInt8) rfl (fun _ _ _ _ _ => (Encs.c1 (enc := b8) (h1 := fun _ => rfl) (b8_wrap _) (Encs.c1 (enc := b8) (h1 := fun _ => rfl) (b8_u8 hc3.1 hc3.2) rfl))) (fun b4 => ?_)
       obtain ⟨hc4, hk4⟩ := inv_chk hk4
       refine T.appBf .list 1 0 rfl rfl rfl rfl rfl (wants0 rfl) rfl rfl rfl rfl rfl rfl hc4 (fun _ _ => rfl) (fun A3 c3 => ?_)
       refine sx ?_
       refine T.region ?_
       refine sx ?_
       obtain rfl := inv_some hk4
       exact jn [1, 3] 4 (hm1 ((s4.1 ++ (([(u8 (IntKind.u8.wrap ((((a0.2.2.getD (s4.2 : Int).toNat default)).1)))), (u8 (s5))] : List UInt8))), IntKind.i64.wrap (s4.2 + 1)) rfl (A3, c3))
      ·refine sq ?_
       refine A.cd he1 rfl (fun hb3 he1 => ?_) (fun hb3 he1 => ?_)
       ·refine T.region ?_
        refine sx ?_
        exact jn [1, 0, 2] 3 (J4 1 () he1)
       ·refine T.skip ?_
        refine sx ?_
        exact jn [1, 0, 2] 3 (J4 0 () he1)
     ·refine T.exit ?_
      refine sx ?_
      obtain rfl := inv_some he1
      obtain rfl := hx1 _ rfl
      refine sx ?_
      exact jn [0] 2 (J3 s4.1 (x5.1, x5.2) hk2)
   ·refine sq ?_
    obtain ⟨e2, hl2, hk1⟩ := inv_bind hk1
    refine jn [0, 1, 2, 3] 4 (T.loop (s0 := (s1, 0)) (env := fun s6 x8 => [(1, .pointer (some ⟨b1, 0, none⟩)), (5, .slice x8.1 s6.1.length x8.2), (27, .slice A0a a0.2.1.length c0a), (28, .int .i64 ((a0.2.1.length : Int))), (29, .int .i64 s6.2)]) (hs := fun (s6 : ty1) (x8 : ty3) => Cl b1 62 [str a0.1, .slice A0a a0.2.1.length c0a, .slice A0b a0.2.2.length c0b] :: Ro el9 A0a c0a a0.2.1 :: Ro el11 A0b c0b a0.2.2 :: Bf E8 5 x8.1 x8.2 s6.1 :: hs) hl2 (x2.1, x2.2) (fun K2 s6 x8 o2 he2 hm2 hx2 => ?_))
    unfold schema_Encode.st2 at he2
    refine sq ?_
    refine A.cd he2 rfl (fun hb4 he2 => ?_) (fun hb4 he2 => ?_)
    ·refine sq ?_
     obtain ⟨hc5, he2⟩ := inv_chk he2
     refine T.idxRo .list 1 rfl rfl (wants0 rfl) rfl rfl rfl hc5.1 hc5.2 (Nat.le_refl _) ?_
     refine T.ldFRo 1 .list Fd.self (Sh.pair Sh.sc (Sh.pair Sh.sc Sh.sc)) rfl (.inl rfl) rfl rfl hc5.1 hc5.2 rfl (wants0 rfl) rfl rfl rfl (v := fun x9 => .agg #[str ((((a0.2.1.getD (s6.2 : Int).toNat default)).1)), .int .i64 ((((a0.2.1.getD (s6.2 : Int).toNat default)).2.1)), .int .i64 ((((a0.2.1.getD (s6.2 : Int).toNat default)).2.2))]) (hs' := fun x9 => Cl b1 62 [str a0.1, .slice A0a a0.2.1.length c0a, .slice A0b a0.2.2.length c0b] :: Ro el9 A0a c0a a0.2.1 :: Ro el11 A0b c0b a0.2.2 :: Bf E8 5 x8.1 x8.2 s6.1 :: hs) (fun _ => rfl) (fun _ => rfl) (fun x9 => ?_)
     refine A.al rfl (fun b5 => ?_)
     refine st ?_
     refine T.dStart mixed ?_
     refine D.mv 0 ?_
     refine D.fi 1 ?_
     refine D.fi 6 ?_
     refine D.fi 9 ?_
     refine T.dAdd 15 (fun w => w.heap[b5]? = some (.cells [str ((((a0.2.1.getD (s6.2 : Int).toNat default)).1)), .int .i64 ((((a0.2.1.getD (s6.2 : Int).toNat default)).2.1)), .int .i64 ((((a0.2.1.getD (s6.2 : Int).toNat default)).2.2))].toArray 129 (0, 0))) (Cl.stays 0 rfl) ?_
     refine D.ld 0 2 (str ((((a0.2.1.getD (s6.2 : Int).toNat default)).1))) ?_
     refine D.ld 0 7 (.int .i64 ((((a0.2.1.getD (s6.2 : Int).toNat default)).2.1))) ?_
     refine T.conv (.dPure (i := 8) rfl (by kernel_rfl) (fun d _ _ _ _ h => by cases d <;> exact h)) rfl (wants0 rfl) rfl rfl rfl ?_
     refine D.ld 0 10 (.int .i64 ((((a0.2.1.getD (s6.2 : Int).toNat default)).2.2))) ?_
     refine T.conv (.dPure (i := 11) rfl (by kernel_rfl) (fun d _ _ _ _ h => by cases d <;> exact h)) rfl (wants0 rfl) rfl rfl rfl ?_
     obtain ⟨r2, hg2, he2⟩ := inv_bind he2
     obtain ⟨hc6, he2⟩ := inv_chk he2
     obtain ⟨hc7, he2⟩ := inv_chk he2
     refine T.d2 (i := 3) (j := 12) (by kernel_rfl) ?_ ?_ 
     ·refine T.bytesOf (.dOne rfl (by kernel_rfl)) rfl (wants0 rfl) rfl (l := ((((a0.2.1.getD (s6.2 : Int).toNat default)).1))) rfl (fun q1 => ?_)
      refine T.dNext (phi_cons (.inr (Cl.stays 1 rfl)) phi_nil) ?_
      refine T.d2 (i := 4) (j := 12) (by kernel_rfl) ?_ ?_ 
      ·refine D.c1 rfl (by kernel_rfl) rfl rfl Tryd.func20 rfl (fun w hS => wire_Bytes.c hB hS (i0 := 0) rfl hg2) (fun x10 => ?_)
       refine T.dNext (phi_cons (.inr (Cl.stays 2 rfl)) phi_nil) ?_
       refine T.d2 (i := 5) (j := 12) (by kernel_rfl) ?_ ?_ 
       ·refine T.appBf (.dOne rfl (by kernel_rfl)) 6 0 rfl rfl rfl rfl rfl (wants0 rfl) rfl rfl rfl rfl rfl rfl hc6 (fun _ _ => rfl) (fun A4 c4 => ?_)
        refine T.dNext (phi_cons (.inr (Cl.stays 2 rfl)) phi_nil) ?_
        refine D.on 12 ?_
        refine T.lit (E := E8) (.dOne rfl (by kernel_rfl)) (vals := [(0, .int .u8 (IntKind.u8.wrap ((((a0.2.1.getD (s6.2 : Int).toNat default)).2.1)))), (1, .int .u8 (IntKind.u8.wrap ((((a0.2.1.getD (s6.2 : Int).toNat default)).2.2))))]) (cells := #[.int .u8 (IntKind.u8.wrap ((((a0.2.1.getD (s6.2 : Int).toNat default)).2.1))), .int .u8 (IntKind.u8.wrap ((((a0.2.1.getD (s6.2 : Int).toNat default)).2.2)))]) rfl (wants0 rfl) rfl rfl rfl rfl rfl (by kernel_rfl) ([(u8 (IntKind.u8.wrap ((((a0.2.1.getD (s6.2 : Int).toNat default)).2.1)))), (u8 (IntKind.u8.wrap ((((a0.2.1.getD (s6.2 : Int).toNat default)).2.2))))] : List UInt8) rfl (fun _ _ _ _ _ => (Encs.c1 (enc := b8) (h1 := fun _ => rfl) (b8_wrap _) (Encs.c1 (enc := b8) (h1 := fun _ => rfl) (b8_wrap _) rfl))) (fun b6 => ?_)
        refine T.dNext (phi_cons (.inr (Cl.stays 3 rfl)) phi_nil) ?_
        refine D.on 13 ?_
        refine T.appBf (.dOne rfl (by kernel_rfl)) 7 0 rfl rfl rfl rfl rfl (wants0 rfl) rfl rfl rfl rfl rfl rfl hc7 (fun _ _ => rfl) (fun A5 c5 => ?_)
        refine T.dNext (phi_cons (.inr (Cl.stays 3 rfl)) phi_nil) ?_
        refine D.asg 14 ?_
        refine T.dDone (by kernel_rfl) ?_
        refine sx ?_
        refine T.region ?_
        refine sx ?_
        obtain rfl := inv_some he2
        exact jn [4, 5, 6, 7] 8 (hm2 ((((s6.1 ++ r2)) ++ (([(u8 (IntKind.u8.wrap ((((a0.2.1.getD (s6.2 : Int).toNat default)).2.1)))), (u8 (IntKind.u8.wrap ((((a0.2.1.getD (s6.2 : Int).toNat default)).2.2))))] : List UInt8))), IntKind.i64.wrap (s6.2 + 1)) rfl (A5, c5))
       ·refine T.lit (E := E8) (.dOne rfl (by kernel_rfl)) (vals := [(0, .int .u8 (IntKind.u8.wrap ((((a0.2.1.getD (s6.2 : Int).toNat default)).2.1)))), (1, .int .u8 (IntKind.u8.wrap ((((a0.2.1.getD (s6.2 : Int).toNat default)).2.2))))]) (cells := #[.int .u8 (IntKind.u8.wrap ((((a0.2.1.getD (s6.2 : Int).toNat default)).2.1))), .int .u8 (IntKind.u8.wrap ((((a0.2.1.getD (s6.2 : Int).toNat default)).2.2)))]) rfl (wants0 rfl) rfl rfl rfl rfl rfl (by kernel_rfl) ([(u8 (IntKind.u8.wrap ((((a0.2.1.getD (s6.2 : Int).toNat default)).2.1)))), (u8 (IntKind.u8.wrap ((((a0.2.1.getD (s6.2 : Int).toNat default)).2.2))))] : List UInt8) rfl (fun _ _ _ _ _ => (Encs.c1 (enc := b8) (h1 := fun _ => rfl) (b8_wrap _) (Encs.c1 (enc := b8) (h1 := fun _ => rfl) (b8_wrap _) rfl))) (fun b6 => ?_)
        refine T.dNext (phi_cons (.inr (Cl.stays 3 rfl)) phi_nil) ?_
        refine D.on 5 ?_
        refine T.appBf (.dOne rfl (by kernel_rfl)) 7 1 rfl rfl rfl rfl rfl (wants0 rfl) rfl rfl rfl rfl rfl rfl hc6 (fun _ _ => rfl) (fun A4 c4 => ?_)
        refine T.dNext (phi_cons (.inr (Cl.stays 3 rfl)) phi_nil) ?_
        refine D.on 13 ?_
        refine T.appBf (.dOne rfl (by kernel_rfl)) 7 0 rfl rfl rfl rfl rfl (wants0 rfl) rfl rfl rfl rfl rfl rfl hc7 (fun _ _ => rfl) (fun A5 c5 => ?_)
        refine T.dNext (phi_cons (.inr (Cl.stays 3 rfl)) phi_nil) ?_
        refine D.asg 14 ?_
        refine T.dDone (by kernel_rfl) ?_
        refine sx ?_
        refine T.region ?_
        refine sx ?_
        obtain rfl := inv_some he2
        exact jn [4, 5, 6, 7] 8 (hm2 ((((s6.1 ++ r2)) ++ (([(u8 (IntKind.u8.wrap ((((a0.2.1.getD (s6.2 : Int).toNat default)).2.1)))), (u8 (IntKind.u8.wrap ((((a0.2.1.getD (s6.2 : Int).toNat default)).2.2))))] : List UInt8))), IntKind.i64.wrap (s6.2 + 1)) rfl (A5, c5))
      ·refine T.lit (E := E8) (.dOne rfl (by kernel_rfl)) (vals := [(0, .int .u8 (IntKind.u8.wrap ((((a0.2.1.getD (s6.2 : Int).toNat default)).2.1)))), (1, .int .u8 (IntKind.u8.wrap ((((a0.2.1.getD (s6.2 : Int).toNat default)).2.2))))]) (cells := #[.int .u8 (IntKind.u8.wrap ((((a0.2.1.getD (s6.2 : Int).toNat default)).2.1))), .int .u8 (IntKind.u8.wrap ((((a0.2.1.getD (s6.2 : Int).toNat default)).2.2)))]) rfl (wants0 rfl) rfl rfl rfl rfl rfl (by kernel_rfl) ([(u8 (IntKind.u8.wrap ((((a0.2.1.getD (s6.2 : Int).toNat default)).2.1)))), (u8 (IntKind.u8.wrap ((((a0.2.1.getD (s6.2 : Int).toNat default)).2.2))))] : List UInt8) rfl (fun _ _ _ _ _ => (Encs.c1 (enc := b8) (h1 := fun _ => rfl) (b8_wrap _) (Encs.c1 (enc := b8) (h1 := fun _ => rfl) (b8_wrap _) rfl))) (fun b6 => ?_)
       refine T.dNext (phi_cons (.inr (Cl.stays 2 rfl)) phi_nil) ?_
       refine D.on 4 ?_
       refine D.c1 rfl (by kernel_rfl) rfl rfl Tryd.func20 rfl (fun w hS => wire_Bytes.c hB hS (i0 := 1) rfl hg2) (fun x10 => ?_)
       refine T.dNext (phi_cons (.inr (Cl.stays 3 rfl)) phi_nil) ?_
       refine D.on 5 ?_
       refine T.appBf (.dOne rfl (by kernel_rfl)) 7 0 rfl rfl rfl rfl rfl (wants0 rfl) rfl rfl rfl rfl rfl rfl hc6 (fun _ _ => rfl) (fun A4 c4 => ?_)
       refine T.dNext (phi_cons (.inr (Cl.stays 3 rfl)) phi_nil) ?_
       refine D.on 13 ?_
       refine T.appBf (.dOne rfl (by kernel_rfl)) 7 1 rfl rfl rfl rfl rfl (wants0 rfl) rfl rfl rfl rfl rfl rfl hc7 (fun _ _ => rfl) (fun A5 c5 => ?_)
       refine T.dNext (phi_cons (.inr (Cl.stays 3 rfl)) phi_nil) ?_
       refine D.asg 14 ?_
       refine T.dDone (by kernel_rfl) ?_
       refine sx ?_
       refine T.region ?_
       refine sx ?_
       obtain rfl := inv_some he2
       exact jn [4, 5, 6, 7] 8 (hm2 ((((s6.1 ++ r2)) ++ (([(u8 (IntKind.u8.wrap ((((a0.2.1.getD (s6.2 : Int).toNat default)).2.1)))), (u8 (IntKind.u8.wrap ((((a0.2.1.getD (s6.2 : Int).toNat default)).2.2))))] : List UInt8))), IntKind.i64.wrap (s6.2 + 1)) rfl (A5, c5))
     ·refine T.lit (E := E8) (.dOne rfl (by kernel_rfl)) (vals := [(0, .int .u8 (IntKind.u8.wrap ((((a0.2.1.getD (s6.2 : Int).toNat default)).2.1)))), (1, .int .u8 (IntKind.u8.wrap ((((a0.2.1.getD (s6.2 : Int).toNat default)).2.2))))]) (cells := #[.int .u8 (IntKind.u8.wrap ((((a0.2.1.getD (s6.2 : Int).toNat default)).2.1))), .int .u8 (IntKind.u8.wrap ((((a0.2.1.getD (s6.2 : Int).toNat default)).2.2)))]) rfl (wants0 rfl) rfl rfl rfl rfl rfl (by kernel_rfl) ([(u8 (IntKind.u8.wrap ((((a0.2.1.getD (s6.2 : Int).toNat default)).2.1)))), (u8 (IntKind.u8.wrap ((((a0.2.1.getD (s6.2 : Int).toNat default)).2.2))))] : List UInt8) rfl (fun _ _ _ _ _ => (Encs.c1 (enc := b8) (h1 := fun _ => rfl) (b8_wrap _) (Encs.c1 (enc := b8) (h1 := fun _ => rfl) (b8_wrap _) rfl))) (fun b6 => ?_)
      refine T.dNext (phi_cons (.inr (Cl.stays 1 rfl)) phi_nil) ?_
      refine D.on 3 ?_
      refine T.bytesOf (.dOne rfl (by kernel_rfl)) rfl (wants0 rfl) rfl (l := ((((a0.2.1.getD (s6.2 : Int).toNat default)).1))) rfl (fun q1 => ?_)
      refine T.dNext (phi_cons (.inr (Cl.stays 2 rfl)) phi_nil) ?_
      refine D.on 4 ?_
      refine D.c1 rfl (by kernel_rfl) rfl rfl Tryd.func20 rfl (fun w hS => wire_Bytes.c hB hS (i0 := 0) rfl hg2) (fun x10 => ?_)
      refine T.dNext (phi_cons (.inr (Cl.stays 3 rfl)) phi_nil) ?_
      refine D.on 5 ?_
      refine T.appBf (.dOne rfl (by kernel_rfl)) 7 0 rfl rfl rfl rfl rfl (wants0 rfl) rfl rfl rfl rfl rfl rfl hc6 (fun _ _ => rfl) (fun A4 c4 => ?_)
      refine T.dNext (phi_cons (.inr (Cl.stays 3 rfl)) phi_nil) ?_
      refine D.on 13 ?_
      refine T.appBf (.dOne rfl (by kernel_rfl)) 7 2 rfl rfl rfl rfl rfl (wants0 rfl) rfl rfl rfl rfl rfl rfl hc7 (fun _ _ => rfl) (fun A5 c5 => ?_)
      refine T.dNext (phi_cons (.inr (Cl.stays 3 rfl)) phi_nil) ?_
      refine D.asg 14 ?_
      refine T.dDone (by kernel_rfl) ?_
      refine sx ?_
      refine T.region ?_
      refine sx ?_
      obtain rfl := inv_some he2
      exact jn [4, 5, 6, 7] 8 (hm2 ((((s6.1 ++ r2)) ++ (([(u8 (IntKind.u8.wrap ((((a0.2.1.getD (s6.2 : Int).toNat default)).2.1)))), (u8 (IntKind.u8.wrap ((((a0.2.1.getD (s6.2 : Int).toNat default)).2.2))))] : List UInt8))), IntKind.i64.wrap (s6.2 + 1)) rfl (A5, c5))
    ·refine T.exit ?_
     refine sx ?_
     obtain rfl := inv_some he2
     obtain rfl := hx2 _ rfl
     refine sx ?_
     exact jn [0, 1, 2, 3] 4 (J2 s6.1 (x8.1, x8.2) hk1)
  ·refine T.dStart mixed ?_
   refine D.fi 0 ?_
   refine D.fi 4 ?_
   refine T.dAdd 11 (fun w => w.heap[b1]? = some (.cells [str a0.1, .slice A0a a0.2.1.length c0a, .slice A0b a0.2.2.length c0b].toArray 62 (0, 0))) (Cl.stays 0 rfl) ?_
   refine D.ld 0 1 (str a0.1) ?_
   refine D.ld 0 5 (.slice A0a a0.2.1.length c0a) ?_
   refine T.lenSlice (.dPure (i := 6) rfl (by kernel_rfl) (fun d _ _ _ _ h => by cases d <;> exact h)) rfl (wants0 rfl) rfl rfl ?_
   refine T.conv (.dPure (i := 7) rfl (by kernel_rfl) (fun d _ _ _ _ h => by cases d <;> exact h)) rfl (wants0 rfl) rfl rfl rfl ?_
   obtain ⟨r3, hg3, hr⟩ := inv_bind hr
   obtain ⟨hc8, hr⟩ := inv_chk hr
   refine T.d2 (i := 2) (j := 8) (by kernel_rfl) ?_ ?_ 
   ·refine T.bytesOf (.dOne rfl (by kernel_rfl)) rfl (wants0 rfl) rfl (l := a0.1) rfl (fun q2 => ?_)
    refine T.dNext (phi_cons (.inr (Cl.stays 1 rfl)) phi_nil) ?_
    refine T.d2 (i := 3) (j := 8) (by kernel_rfl) ?_ ?_ 
    ·refine D.c1 rfl (by kernel_rfl) rfl rfl Tryd.func20 rfl (fun w hS => wire_Bytes.c hB hS (i0 := 0) rfl hg3) (fun x11 => ?_)
     refine T.dNext (phi_cons (.inr (Cl.stays 2 rfl)) phi_nil) ?_
     refine D.on 8 ?_
     refine T.lit (E := E8) (.dOne rfl (by kernel_rfl)) (vals := [(0, .int .u8 (IntKind.u8.wrap ((a0.2.1.length : Int))))]) (cells := #[.int .u8 (IntKind.u8.wrap ((a0.2.1.length : Int)))]) rfl (wants0 rfl) rfl rfl rfl rfl rfl (by kernel_rfl) ([(u8 (IntKind.u8.wrap ((a0.2.1.length : Int))))] : List UInt8) rfl (fun _ _ _ _ _ => (Encs.c1 (enc := b8) (h1 := fun _ => rfl) (b8_wrap _) rfl)) (fun b7 => ?_)
     refine T.dNext (phi_cons (.inr (Cl.stays 3 rfl)) phi_nil) ?_
     refine D.on 9 ?_
     refine T.appBf (.dOne rfl (by kernel_rfl)) 1 0 rfl rfl rfl rfl rfl (wants0 rfl) rfl rfl rfl rfl rfl rfl hc8 (fun _ _ => rfl) (fun A6 c6 => ?_)
     refine T.dNext (phi_cons (.inr (Cl.stays 3 rfl)) phi_nil) ?_
     refine D.asg 10 ?_
     refine T.dDone (by kernel_rfl) ?_
     refine sx ?_
     exact jn [3, 5, 4, 1] 6 (J1 (r3 ++ (([(u8 (IntKind.u8.wrap ((a0.2.1.length : Int))))] : List UInt8))) (A6, c6) hr)
    ·refine T.lit (E := E8) (.dOne rfl (by kernel_rfl)) (vals := [(0, .int .u8 (IntKind.u8.wrap ((a0.2.1.length : Int))))]) (cells := #[.int .u8 (IntKind.u8.wrap ((a0.2.1.length : Int)))]) rfl (wants0 rfl) rfl rfl rfl rfl rfl (by kernel_rfl) ([(u8 (IntKind.u8.wrap ((a0.2.1.length : Int))))] : List UInt8) rfl (fun _ _ _ _ _ => (Encs.c1 (enc := b8) (h1 := fun _ => rfl) (b8_wrap _) rfl)) (fun b7 => ?_)
     refine T.dNext (phi_cons (.inr (Cl.stays 2 rfl)) phi_nil) ?_
     refine D.on 3 ?_
     refine D.c1 rfl (by kernel_rfl) rfl rfl Tryd.func20 rfl (fun w hS => wire_Bytes.c hB hS (i0 := 1) rfl hg3) (fun x11 => ?_)
     refine T.dNext (phi_cons (.inr (Cl.stays 3 rfl)) phi_nil) ?_
     refine D.on 9 ?_
     refine T.appBf (.dOne rfl (by kernel_rfl)) 0 1 rfl rfl rfl rfl rfl (wants0 rfl) rfl rfl rfl rfl rfl rfl hc8 (fun _ _ => rfl) (fun A6 c6 => ?_)
     refine T.dNext (phi_cons (.inr (Cl.stays 3 rfl)) phi_nil) ?_
     refine D.asg 10 ?_
     refine T.dDone (by kernel_rfl) ?_
     refine sx ?_
     exact jn [3, 5, 4, 0] 6 (J1 (r3 ++ (([(u8 (IntKind.u8.wrap ((a0.2.1.length : Int))))] : List UInt8))) (A6, c6) hr)
   ·refine T.lit (E := E8) (.dOne rfl (by kernel_rfl)) (vals := [(0, .int .u8 (IntKind.u8.wrap ((a0.2.1.length : Int))))]) (cells := #[.int .u8 (IntKind.u8.wrap ((a0.2.1.length : Int)))]) rfl (wants0 rfl) rfl rfl rfl rfl rfl (by kernel_rfl) ([(u8 (IntKind.u8.wrap ((a0.2.1.length : Int))))] : List UInt8) rfl (fun _ _ _ _ _ => (Encs.c1 (enc := b8) (h1 := fun _ => rfl) (b8_wrap _) rfl)) (fun b7 => ?_)
    refine T.dNext (phi_cons (.inr (Cl.stays 1 rfl)) phi_nil) ?_
    refine D.on 2 ?_
    refine T.bytesOf (.dOne rfl (by kernel_rfl)) rfl (wants0 rfl) rfl (l := a0.1) rfl (fun q2 => ?_)
    refine T.dNext (phi_cons (.inr (Cl.stays 2 rfl)) phi_nil) ?_
    refine D.on 3 ?_
    refine D.c1 rfl (by kernel_rfl) rfl rfl Tryd.func20 rfl (fun w hS => wire_Bytes.c hB hS (i0 := 0) rfl hg3) (fun x11 => ?_)
    refine T.dNext (phi_cons (.inr (Cl.stays 3 rfl)) phi_nil) ?_
    refine D.on 9 ?_
    refine T.appBf (.dOne rfl (by kernel_rfl)) 0 2 rfl rfl rfl rfl rfl (wants0 rfl) rfl rfl rfl rfl rfl rfl hc8 (fun _ _ => rfl) (fun A6 c6 => ?_)
    refine T.dNext (phi_cons (.inr (Cl.stays 3 rfl)) phi_nil) ?_
    refine D.asg 10 ?_
    refine T.dDone (by kernel_rfl) ?_
    refine sx ?_
    exact jn [3, 5, 4, 0] 6 (J1 (r3 ++ (([(u8 (IntKind.u8.wrap ((a0.2.1.length : Int))))] : List UInt8))) (A6, c6) hr)

noncomputable def schema_reader_name.k1 (o0 : ty2) (r1 : List UInt8 × Int × Int) (s1 : Bool) : Option (List UInt8 × ty2) :=
  (if s1 = true then some (([] : List UInt8), (o0.1, o0.2.1, true)) else some (r1.1, (o0.1, r1.2.1, o0.2.2)))
noncomputable def schema_reader_name.impl (o0 : ty2) : Option (List UInt8 × ty2) :=
  (wire_ReadBytes.impl o0.1 o0.2.1 8).bind fun r1 => (if o0.2.2 = true then schema_reader_name.k1 o0 r1 true else schema_reader_name.k1 o0 r1 (!(decide (r1.2.2 = 0))))
theorem schema_reader_name.c {p0 : Nat} {o0 : ty2} {i0a c0a : Nat} {A0a : Option Addr} (hB : Base B) (hS : St B (Cl p0 125 [.slice A0a o0.1.length c0a, .int .i64 o0.2.1, .bool o0.2.2] :: hs) w) (h0a : (Cl p0 125 [.slice A0a o0.1.length c0a, .int .i64 o0.2.1, .bool o0.2.2] :: hs)[i0a]? = some (Ro E8 A0a c0a o0.1)) {r : List UInt8 × ty2} (hr : schema_reader_name.impl o0 = some r) :
    Calls Tryd.prog 69 #[.pointer (some ⟨p0, 0, none⟩)] w fun e w' => ∃ x : Unit, e = .returned (str r.1) ∧ St B (Cl p0 125 [.slice A0a o0.1.length c0a, .int .i64 r.2.2.1, .bool r.2.2.2] :: hs) w' := by
 unfold schema_reader_name.impl at hr
 refine calls_T Tryd.func69 rfl rfl rfl hS ?_
 refine T.front i0a h0a ?_
 refine sq ?_
 refine T.plan [(0, 0), (1, 0), (2, 0), (4, 0), (5, 0), (6, 0), (3, 1), (7, 1), (8, 2), (9, 0), (10, 0), (11, 0), (12, 0), (13, 0), (14, 0), (15, 0)] mixed (by kernel_rfl) (by kernel_rfl) rfl (fun d _ _ _ _ h => by cases d <;> exact h) ?_
 refine T.move (.plan rfl) rfl (wants0 rfl) rfl rfl ?_
 refine T.nilCheck (.plan rfl) rfl (wants0 rfl) rfl rfl ?_
 refine T.field (.plan rfl) rfl (wants0 rfl) rfl rfl ?_
 refine T.move (.plan rfl) rfl (wants0 rfl) rfl rfl ?_
 refine T.nilCheck (.plan rfl) rfl (wants0 rfl) rfl rfl ?_
 refine T.field (.plan rfl) rfl (wants0 rfl) rfl rfl ?_
 refine T.load (.plan rfl) 1 rfl rfl (wants0 rfl) rfl rfl rfl ?_
 refine T.load (.plan rfl) 1 rfl rfl (wants0 rfl) rfl rfl rfl ?_
 obtain ⟨r1, hg1, hr⟩ := inv_bind hr
 refine T.call (.plan rfl) (wants0 rfl) rfl (run_callF (vs := [_, _, _]) rfl Tryd.func68 rfl (by decide) rfl) (fun w hS => wire_ReadBytes.c hB hS (i0 := 0) rfl hg1) (fun x1 => ?_)
 refine T.move (.plan rfl) rfl (wants0 rfl) rfl rfl ?_
 refine T.extract (.plan rfl) rfl (wants0 rfl) rfl rfl rfl ?_
 refine T.extract (.plan rfl) rfl (wants0 rfl) rfl rfl rfl ?_
 refine T.extract (.plan rfl) rfl (wants0 rfl) rfl rfl rfl ?_
 refine T.assign (.plan rfl) rfl (wants0 rfl) rfl rfl ?_
 refine T.assign (.plan rfl) rfl (wants0 rfl) rfl rfl ?_
 refine T.assign (.plan rfl) rfl (wants0 rfl) rfl rfl ?_
 refine T.planEnd ?_
 refine st ?_
 refine T.seq ?_
 refine T.seqJ (fun (s1 : Bool) (x2 : Unit) => [(0, .pointer (some ⟨p0, 0, none⟩)), (3, .slice x1.1 r1.1.length x1.2), (4, .int .i64 r1.2.1), (26, .bool s1)]) (fun s1 x2 => Cl p0 125 [.slice A0a o0.1.length c0a, .int .i64 o0.2.1, .bool o0.2.2] :: Ro E8 A0a c0a o0.1 :: Bf E8 5 x1.1 x1.2 r1.1 :: hs) (fun s1 => schema_reader_name.k1 o0 r1 s1 = some r) (fun s1 x2 hk1 => ?_) (fun J1 => ?_)
 ·unfold schema_reader_name.k1 at hk1
  refine A.cd hk1 rfl (fun hb1 hk1 => ?_) (fun hb1 hk1 => ?_)
  ·refine sq ?_
   obtain rfl := inv_some hk1
   refine pk [0] 3 ?_
   refine T.ret1 rfl rfl (fun w hS => ⟨(), rfl, hS⟩)
  ·refine sq ?_
   refine T.strBf .list 2 rfl rfl (wants0 rfl) rfl rfl rfl ?_
   refine st ?_
   obtain rfl := inv_some hk1
   refine pk [0] 3 ?_
   refine T.ret1 rfl rfl (fun w hS => ⟨(), rfl, hS⟩)
 ·refine st ?_
  refine br hr (fun hb2 hr => ?_) (fun hb2 hr => ?_)
  ·refine sx ?_
   exact jn [2, 1, 0] 3 (J1 true () hr)
  ·refine sx ?_
   exact jn [2, 1, 0] 3 (J1 (!(decide (r1.2.2 = 0))) () hr)

noncomputable def schema_reader_byte.k1 (o0 : ty2) (s1 : Bool) : Option (Int × ty2) :=
  (if s1 = true then some (0, (o0.1, o0.2.1, true)) else chk (0 ≤ (IntKind.i64.wrap ((IntKind.i64.wrap (o0.2.1 + 1)) - 1)) ∧ (IntKind.i64.wrap ((IntKind.i64.wrap (o0.2.1 + 1)) - 1)) < (o0.1.length : Int)) (some (IntKind.i64.wrap (((o0.1.getD (IntKind.i64.wrap ((IntKind.i64.wrap (o0.2.1 + 1)) - 1) : Int).toNat default).toNat : Int)), (o0.1, IntKind.i64.wrap (o0.2.1 + 1), o0.2.2))))
noncomputable def schema_reader_byte.impl (o0 : ty2) (a1 : Int) : Option (Int × ty2) :=
  (if o0.2.2 = true then schema_reader_byte.k1 o0 true else (if ((decide ((((o0.1.length : Int))) ≤ o0.2.1))) = true then schema_reader_byte.k1 o0 true else chk (0 ≤ o0.2.1 ∧ o0.2.1 < (o0.1.length : Int)) (schema_reader_byte.k1 o0 (decide (a1 < (IntKind.i64.wrap (((o0.1.getD (o0.2.1 : Int).toNat default).toNat : Int))))))))
theorem schema_reader_byte.c {p0 : Nat} {o0 : ty2} {i0a c0a : Nat} {A0a : Option Addr} {a1 : Int} (hB : Base B) (hS : St B (Cl p0 125 [.slice A0a o0.1.length c0a, .int .i64 o0.2.1, .bool o0.2.2] :: hs) w) (h0a : (Cl p0 125 [.slice A0a o0.1.length c0a, .int .i64 o0.2.1, .bool o0.2.2] :: hs)[i0a]? = some (Ro E8 A0a c0a o0.1)) {r : Int × ty2} (hr : schema_reader_byte.impl o0 a1 = some r) :
    Calls Tryd.prog 70 #[.pointer (some ⟨p0, 0, none⟩), .int .i64 a1] w fun e w' => ∃ x : Unit, e = .returned (.int .i64 r.1) ∧ St B (Cl p0 125 [.slice A0a o0.1.length c0a, .int .i64 r.2.2.1, .bool r.2.2.2] :: hs) w' := by
 unfold schema_reader_byte.impl at hr
 refine calls_T Tryd.func70 rfl rfl rfl hS ?_
 refine T.front i0a h0a ?_
 refine T.seq ?_
 refine st ?_
 refine T.seq ?_
 refine T.seqJ (fun (s1 : Bool) (x1 : Unit) => [(0, .pointer (some ⟨p0, 0, none⟩)), (35, .bool s1)]) (fun s1 x1 => Cl p0 125 [.slice A0a o0.1.length c0a, .int .i64 o0.2.1, .bool o0.2.2] :: Ro E8 A0a c0a o0.1 :: hs) (fun s1 => schema_reader_byte.k1 o0 s1 = some r) (fun s1 x1 hk1 => ?_) (fun J1 => ?_)
 ·unfold schema_reader_byte.k1 at hk1
  refine A.cd hk1 rfl (fun hb1 hk1 => ?_) (fun hb1 hk1 => ?_)
  ·refine sq ?_
   obtain rfl := inv_some hk1
   refine pk [0] 2 ?_
   refine T.ret1 rfl rfl (fun w hS => ⟨(), rfl, hS⟩)
  ·refine sq ?_
   refine T.plan [(0, 0), (1, 0), (2, 0), (4, 0), (5, 0), (6, 0), (3, 1), (7, 1), (8, 0), (9, 0), (10, 1), (11, 0), (12, 0)] mixed (by kernel_rfl) (by kernel_rfl) rfl (fun d _ _ _ _ h => by cases d <;> exact h) ?_
   refine T.move (.plan rfl) rfl (wants0 rfl) rfl rfl ?_
   refine T.nilCheck (.plan rfl) rfl (wants0 rfl) rfl rfl ?_
   refine T.field (.plan rfl) rfl (wants0 rfl) rfl rfl ?_
   refine T.move (.plan rfl) rfl (wants0 rfl) rfl rfl ?_
   refine T.nilCheck (.plan rfl) rfl (wants0 rfl) rfl rfl ?_
   refine T.field (.plan rfl) rfl (wants0 rfl) rfl rfl ?_
   refine T.load (.plan rfl) 0 rfl rfl (wants0 rfl) rfl rfl rfl ?_
   refine T.load (.plan rfl) 0 rfl rfl (wants0 rfl) rfl rfl rfl ?_
   refine T.bin (.plan rfl) rfl (wants0 rfl) rfl rfl rfl rfl ?_
   obtain ⟨hc1, hk1⟩ := inv_chk hk1
   refine T.idxRo (.plan rfl) 1 rfl rfl (wants0 rfl) rfl rfl rfl hc1.1 hc1.2 (Nat.le_refl _) ?_
   refine T.ldRo1 (.plan rfl) 1 rfl rfl (wants0 rfl) rfl rfl hc1.1 hc1.2 ?_
   refine T.conv (.plan rfl) rfl (wants0 rfl) rfl rfl rfl ?_
   refine T.assign (.plan rfl) rfl (wants0 rfl) rfl rfl ?_
   refine T.planEnd ?_
   refine st ?_
   obtain rfl := inv_some hk1
   refine pk [0] 2 ?_
   refine T.ret1 rfl rfl (fun w hS => ⟨(), rfl, hS⟩)
 ·refine T.plan [(0, 0), (1, 0), (2, 0), (3, 1), (4, 0), (5, 0), (6, 0), (7, 0), (9, 0), (10, 0), (11, 0), (8, 1), (12, 1), (13, 0), (14, 0), (15, 0), (16, 0), (17, 0), (18, 0), (19, 0), (21, 0), (22, 0), (23, 0), (28, 0), (20, 1), (24, 1), (25, 0), (26, 1), (27, 0), (29, 0), (30, 0)] mixed (by kernel_rfl) (by kernel_rfl) rfl (fun d _ _ _ _ h => by cases d <;> exact h) ?_
  refine T.move (.plan rfl) rfl (wants0 rfl) rfl rfl ?_
  refine T.nilCheck (.plan rfl) rfl (wants0 rfl) rfl rfl ?_
  refine T.field (.plan rfl) rfl (wants0 rfl) rfl rfl ?_
  refine T.load (.plan rfl) 1 rfl rfl (wants0 rfl) rfl rfl rfl ?_
  refine T.move (.plan rfl) rfl (wants0 rfl) rfl rfl ?_
  refine br hr (fun hb2 hr => ?_) (fun hb2 hr => ?_)
  ·refine T.leave (.plan rfl) (wantsNot rfl rfl rfl hb2) rfl ?_
   refine T.leave (.plan rfl) (wantsNot rfl rfl rfl hb2) rfl ?_
   refine T.leave (.plan rfl) (wantsNot rfl rfl rfl hb2) rfl ?_
   refine T.leave (.plan rfl) (wantsNot rfl rfl rfl hb2) rfl ?_
   refine T.leave (.plan rfl) (wantsNot rfl rfl rfl hb2) rfl ?_
   refine T.leave (.plan rfl) (wantsNot rfl rfl rfl hb2) rfl ?_
   refine T.leave (.plan rfl) (wantsNot rfl rfl rfl hb2) rfl ?_
   refine T.leave (.plan rfl) (wantsNot rfl rfl rfl hb2) rfl ?_
   refine T.leave (.plan rfl) (wantsNot rfl rfl rfl hb2) rfl ?_
   refine T.leave (.plan rfl) (wantsNot rfl rfl rfl hb2) rfl ?_
   refine T.pickT (.plan rfl) rfl (wants0 rfl) rfl rfl hb2 rfl ?_
   refine T.move (.plan rfl) rfl (wants0 rfl) rfl rfl ?_
   refine T.leave (.plan rfl) (wantsNot rfl rfl rfl rfl) rfl ?_
   refine T.leave (.plan rfl) (wantsNot rfl rfl rfl rfl) rfl ?_
   refine T.leave (.plan rfl) (wantsNot rfl rfl rfl rfl) rfl ?_
   refine T.leave (.plan rfl) (wantsNot rfl rfl rfl rfl) rfl ?_
   refine T.leave (.plan rfl) (wantsNot rfl rfl rfl rfl) rfl ?_
   refine T.leave (.plan rfl) (wantsNot rfl rfl rfl rfl) rfl ?_
   refine T.leave (.plan rfl) (wantsNot rfl rfl rfl rfl) rfl ?_
   refine T.leave (.plan rfl) (wantsNot rfl rfl rfl rfl) rfl ?_
   refine T.leave (.plan rfl) (wantsNot rfl rfl rfl rfl) rfl ?_
   refine T.leave (.plan rfl) (wantsNot rfl rfl rfl rfl) rfl ?_
   refine T.leave (.plan rfl) (wantsNot rfl rfl rfl rfl) rfl ?_
   refine T.leave (.plan rfl) (wantsNot rfl rfl rfl rfl) rfl ?_
   refine T.leave (.plan rfl) (wantsNot rfl rfl rfl rfl) rfl ?_
   refine T.pickT (.plan rfl) rfl (wants0 rfl) rfl rfl rfl rfl ?_
   refine T.planEnd ?_
   refine sx ?_
   exact jn [1, 0] 2 (J1 true () hr)
  ·refine T.move (.plan rfl) rfl (wants1 rfl rfl rfl hb2) rfl rfl ?_
   refine T.nilCheck (.plan rfl) rfl (wants1 rfl rfl rfl hb2) rfl rfl ?_
   refine T.field (.plan rfl) rfl (wants1 rfl rfl rfl hb2) rfl rfl ?_
   refine T.move (.plan rfl) rfl (wants1 rfl rfl rfl hb2) rfl rfl ?_
   refine T.nilCheck (.plan rfl) rfl (wants1 rfl rfl rfl hb2) rfl rfl ?_
   refine T.field (.plan rfl) rfl (wants1 rfl rfl rfl hb2) rfl rfl ?_
   refine T.load (.plan rfl) 1 rfl rfl (wants1 rfl rfl rfl hb2) rfl rfl rfl ?_
   refine T.load (.plan rfl) 1 rfl rfl (wants1 rfl rfl rfl hb2) rfl rfl rfl ?_
   refine T.lenSlice (.plan rfl) rfl (wants1 rfl rfl rfl hb2) rfl rfl ?_
   refine T.bin (.plan rfl) rfl (wants1 rfl rfl rfl hb2) rfl rfl rfl rfl ?_
   refine T.pickF (.plan rfl) rfl (wants0 rfl) rfl rfl hb2 rfl ?_
   refine T.move (.plan rfl) rfl (wants0 rfl) rfl rfl ?_
   refine br hr (fun hb3 hr => ?_) (fun hb3 hr => ?_)
   ·refine T.leave (.plan rfl) (wantsNot rfl rfl rfl hb3) rfl ?_
    refine T.leave (.plan rfl) (wantsNot rfl rfl rfl hb3) rfl ?_
    refine T.leave (.plan rfl) (wantsNot rfl rfl rfl hb3) rfl ?_
    refine T.leave (.plan rfl) (wantsNot rfl rfl rfl hb3) rfl ?_
    refine T.leave (.plan rfl) (wantsNot rfl rfl rfl hb3) rfl ?_
    refine T.leave (.plan rfl) (wantsNot rfl rfl rfl hb3) rfl ?_
    refine T.leave (.plan rfl) (wantsNot rfl rfl rfl hb3) rfl ?_
    refine T.leave (.plan rfl) (wantsNot rfl rfl rfl hb3) rfl ?_
    refine T.leave (.plan rfl) (wantsNot rfl rfl rfl hb3) rfl ?_
    refine T.leave (.plan rfl) (wantsNot rfl rfl rfl hb3) rfl ?_
    refine T.leave (.plan rfl) (wantsNot rfl rfl rfl hb3) rfl ?_
    refine T.leave (.plan rfl) (wantsNot rfl rfl rfl hb3) rfl ?_
    refine T.leave (.plan rfl) (wantsNot rfl rfl rfl hb3) rfl ?_
    refine T.pickT (.plan rfl) rfl (wants0 rfl) rfl rfl hb3 rfl ?_
    refine T.planEnd ?_
    refine sx ?_
    exact jn [1, 0] 2 (J1 true () hr)
   ·refine T.move (.plan rfl) rfl (wants1 rfl rfl rfl hb3) rfl rfl ?_
    refine T.nilCheck (.plan rfl) rfl (wants1 rfl rfl rfl hb3) rfl rfl ?_
    refine T.field (.plan rfl) rfl (wants1 rfl rfl rfl hb3) rfl rfl ?_
    refine T.move (.plan rfl) rfl (wants1 rfl rfl rfl hb3) rfl rfl ?_
    refine T.nilCheck (.plan rfl) rfl (wants1 rfl rfl rfl hb3) rfl rfl ?_
    refine T.field (.plan rfl) rfl (wants1 rfl rfl rfl hb3) rfl rfl ?_
    refine T.move (.plan rfl) rfl (wants1 rfl rfl rfl hb3) rfl rfl ?_
    refine T.load (.plan rfl) 1 rfl rfl (wants1 rfl rfl rfl hb3) rfl rfl rfl ?_
    refine T.load (.plan rfl) 1 rfl rfl (wants1 rfl rfl rfl hb3) rfl rfl rfl ?_
    obtain ⟨hc2, hr⟩ := inv_chk hr
    refine T.idxRo (.plan rfl) 0 rfl rfl (wants1 rfl rfl rfl hb3) rfl rfl rfl hc2.1 hc2.2 (Nat.le_refl _) ?_
    refine T.ldRo1 (.plan rfl) 0 rfl rfl (wants1 rfl rfl rfl hb3) rfl rfl hc2.1 hc2.2 ?_
    refine T.conv (.plan rfl) rfl (wants1 rfl rfl rfl hb3) rfl rfl rfl ?_
    refine T.bin (.plan rfl) rfl (wants1 rfl rfl rfl hb3) rfl rfl rfl rfl ?_
    refine T.pickF (.plan rfl) rfl (wants0 rfl) rfl rfl hb3 rfl ?_
    refine T.planEnd ?_
    refine sx ?_
    exact jn [1, 0] 2 (J1 (decide (a1 < (IntKind.i64.wrap (((o0.1.getD (o0.2.1 : Int).toNat default).toNat : Int))))) () hr)

noncomputable def schema_Decode.k3 (r1 : List UInt8 × ty2) (s1 : Int × Bool × (List ty5)) (s2 : Int × Bool × (List ty0)) (s3 : Bool) : Option (ty6 × Int) :=
  (if s3 = true then some ((([] : List UInt8), ([] : List ty5), ([] : List ty0)), 11) else some ((r1.1, s1.2.2, s2.2.2), 0))
noncomputable def schema_Decode.k2 (r1 : List UInt8 × ty2) (s1 : Int × Bool × (List ty5)) (l0 : List UInt8) (s2 : Int × Bool × (List ty0)) : Option (ty6 × Int) :=
  (if s2.2.1 = true then schema_Decode.k3 r1 s1 s2 true else (if ((decide (s2.1 = ((l0.length : Int))))) = true then (schema_Right.impl ((r1.1, s1.2.2, s2.2.2))).bind fun r2 => schema_Decode.k3 r1 s1 s2 (!(decide (r2 = 0))) else schema_Decode.k3 r1 s1 s2 true))
noncomputable def schema_Decode.st1 (r3 : Int × ty2) (l0 : List UInt8) (s4 : Int × Bool × (List ty0) × Int) : Option ((Int × Bool × (List ty0) × Int) ⊕ (Int × Bool × (List ty0))) :=
  (if ((decide (s4.2.2.2 < r3.1))) = true then (schema_reader_byte.impl ((l0, s4.1, s4.2.1)) 3).bind fun r4 => (schema_reader_byte.impl ((l0, r4.2.2.1, r4.2.2.2)) 1).bind fun r5 => chk ((s4.2.2.1.length + (([(r4.1, (decide (r5.1 = 1)))] : List ty0)).length) * 16 ≤ 140737488355328) (some (.inl (r5.2.2.1, r5.2.2.2, (s4.2.2.1 ++ (([(r4.1, (decide (r5.1 = 1)))] : List ty0))), IntKind.i64.wrap (s4.2.2.2 + 1)))) else some (.inr (s4.1, s4.2.1, s4.2.2.1)))
noncomputable def schema_Decode.k1 (l0 : List UInt8) (r1 : List UInt8 × ty2) (s1 : Int × Bool × (List ty5)) : Option (ty6 × Int) :=
  (schema_reader_byte.impl ((l0, s1.1, s1.2.1)) 3).bind fun r3 => (loop (schema_Decode.st1 r3 l0) (r3.2.2.1, r3.2.2.2, ([] : List ty0), 0)).bind (fun e1 => schema_Decode.k2 r1 s1 l0 e1)
noncomputable def schema_Decode.st2 (r6 : Int × ty2) (l0 : List UInt8) (s5 : Int × Bool × (List ty5) × Int) : Option ((Int × Bool × (List ty5) × Int) ⊕ (Int × Bool × (List ty5))) :=
  (if ((decide (s5.2.2.2 < r6.1))) = true then (schema_reader_name.impl ((l0, s5.1, s5.2.1))).bind fun r7 => (schema_reader_byte.impl ((l0, r7.2.2.1, r7.2.2.2)) 3).bind fun r8 => (schema_reader_byte.impl ((l0, r8.2.2.1, r8.2.2.2)) 8).bind fun r9 => chk ((s5.2.2.1.length + (([(r7.1, r8.1, r9.1)] : List ty5)).length) * 32 ≤ 140737488355328) (some (.inl (r9.2.2.1, r9.2.2.2, (s5.2.2.1 ++ (([(r7.1, r8.1, r9.1)] : List ty5))), IntKind.i64.wrap (s5.2.2.2 + 1)))) else some (.inr (s5.1, s5.2.1, s5.2.2.1)))
noncomputable def schema_Decode.impl (l0 : List UInt8) : Option (ty6 × Int) :=
  (schema_reader_name.impl ((l0, 0, false))).bind fun r1 => (schema_reader_byte.impl ((l0, r1.2.2.1, r1.2.2.2)) 3).bind fun r6 => (loop (schema_Decode.st2 r6 l0) (r6.2.2.1, r6.2.2.2, ([] : List ty5), 0)).bind (fun e2 => schema_Decode.k1 l0 r1 e2)
theorem schema_Decode.c {i0 c0 : Nat} {A0 : Option Addr} {l0 : List UInt8} (hB : Base B) (hS : St B (hs) w) (h0 : (hs)[i0]? = some (Ro E8 A0 c0 l0)) {r : ty6 × Int} (hr : schema_Decode.impl l0 = some r) :
    Calls Tryd.prog 49 #[.slice A0 l0.length c0] w fun e w' => ∃ x : ty3 × ty3, e = .returned (.tuple #[.agg #[str r.1.1, .slice x.1.1 r.1.2.1.length x.1.2, .slice x.2.1 r.1.2.2.length x.2.2], .int .i64 r.2]) ∧ St B (Ro el9 x.1.1 x.1.2 r.1.2.1 :: Ro el11 x.2.1 x.2.2 r.1.2.2 :: hs) w' := by
 unfold schema_Decode.impl at hr
 refine calls_T Tryd.func49 rfl rfl rfl hS ?_
 refine T.front i0 h0 ?_
 refine sq ?_
 refine A.al rfl (fun b1 => ?_)
 refine sq ?_
 refine T.build .list (vals := [(0, .slice A0 l0.length c0)]) (cells := #[.slice A0 l0.length c0, .int .i64 0, .bool false]) rfl (wants0 rfl) rfl rfl (run_buildStruct (sizes := [1, 1, 1]) (by kernel_rfl) (by kernel_rfl)) ?_
 refine A.bx rfl rfl (fun b2 => ?_)
 refine sq ?_
 refine T.pick [0, 1, 2] 3 rfl rfl nla (hs' := Cl b2 125 [.slice A0 l0.length c0, .int .i64 0, .bool false] :: Cl b1 62 [str (([] : List UInt8)), .slice none 0 0, .slice none 0 0] :: Ro E8 A0 c0 l0 :: hs) rfl ?_
 obtain ⟨r1, hg1, hr⟩ := inv_bind hr
 refine A.c1 rfl rfl Tryd.func69 rfl (fun w hS => schema_reader_name.c hB hS (i0a := 2) (o0 := (l0, 0, false)) rfl hg1) (fun x1 => ?_)
 refine T.build .list (vals := [(0, str r1.1)]) (cells := #[str r1.1, .slice none 0 0, .slice none 0 0]) rfl (wants0 rfl) rfl rfl (run_buildStruct (sizes := [1, 1, 1]) (by kernel_rfl) (by kernel_rfl)) ?_
 refine A.al rfl (fun b3 => ?_)
 refine st ?_
 refine T.seqJ (fun (s1 : Int × Bool × (List ty5)) (x2 : ty3) => [(0, .slice A0 l0.length c0), (2, .pointer (some ⟨b1, 0, none⟩)), (4, .pointer (some ⟨b2, 0, none⟩)), (5, .pointer (some ⟨b3, 0, none⟩))]) (fun s1 x2 => Ro E8 A0 c0 l0 :: Cl b1 62 [str (([] : List UInt8)), .slice none 0 0, .slice none 0 0] :: Cl b2 125 [.slice A0 l0.length c0, .int .i64 s1.1, .bool s1.2.1] :: Cl b3 62 [str r1.1, .slice x2.1 s1.2.2.length x2.2, .slice none 0 0] :: Bf el9 129 x2.1 x2.2 s1.2.2 :: hs) (fun s1 => schema_Decode.k1 l0 r1 s1 = some r) (fun s1 x2 hk1 => ?_) (fun J1 => ?_)
 ·unfold schema_Decode.k1 at hk1
  refine T.seqJ (fun (s2 : Int × Bool × (List ty0)) (x3 : ty3) => [(0, .slice A0 l0.length c0), (2, .pointer (some ⟨b1, 0, none⟩)), (4, .pointer (some ⟨b2, 0, none⟩)), (5, .pointer (some ⟨b3, 0, none⟩))]) (fun s2 x3 => Ro E8 A0 c0 l0 :: Cl b1 62 [str (([] : List UInt8)), .slice none 0 0, .slice none 0 0] :: Cl b2 125 [.slice A0 l0.length c0, .int .i64 s2.1, .bool s2.2.1] :: Cl b3 62 [str r1.1, .slice x2.1 s1.2.2.length x2.2, .slice x3.1 s2.2.2.length x3.2] :: Bf el9 129 x2.1 x2.2 s1.2.2 :: Bf el11 131 x3.1 x3.2 s2.2.2 :: hs) (fun s2 => schema_Decode.k2 r1 s1 l0 s2 = some r) (fun s2 x3 hk2 => ?_) (fun J2 => ?_)
  ·unfold schema_Decode.k2 at hk2
   refine T.seq ?_
   refine T.seqJ (fun (s3 : Bool) (x4 : Unit) => [(2, .pointer (some ⟨b1, 0, none⟩)), (5, .pointer (some ⟨b3, 0, none⟩)), (62, .bool s3)]) (fun s3 x4 => Cl b1 62 [str (([] : List UInt8)), .slice none 0 0, .slice none 0 0] :: Cl b3 62 [str r1.1, .slice x2.1 s1.2.2.length x2.2, .slice x3.1 s2.2.2.length x3.2] :: Bf el9 129 x2.1 x2.2 s1.2.2 :: Bf el11 131 x3.1 x3.2 s2.2.2 :: hs) (fun s3 => schema_Decode.k3 r1 s1 s2 s3 = some r) (fun s3 x4 hk3 => ?_) (fun J3 => ?_)
   ·unfold schema_Decode.k3 at hk3
    refine A.cd hk3 rfl (fun hb1 hk3 => ?_) (fun hb1 hk3 => ?_)
    ·refine sq ?_
     refine T.build .list (vals := []) (cells := #[str (([] : List UInt8)), .slice none 0 0, .slice none 0 0]) rfl (wants0 rfl) rfl rfl (run_buildStruct (sizes := [1, 1, 1]) (by kernel_rfl) (by kernel_rfl)) ?_
     refine st ?_
     obtain rfl := inv_some hk3
     refine T.nilRo el9 none 0 ?_
     refine T.nilRo el11 none 0 ?_
     refine T.out2 rfl (OutRun.cellN 2 rfl rfl (vs := [str (([] : List UInt8)), .slice none 0 0, .slice none 0 0]) rfl rfl) (OutRun.tmp rfl) (fun w hS => ⟨((none, 0), (none, 0)), rfl, hS.pick [1, 0] 6 rfl rfl nla rfl⟩)
    ·refine sq ?_
     obtain rfl := inv_some hk3
     refine T.freeze 2 rfl rfl rfl ?_
     refine T.freeze 3 rfl rfl rfl ?_
     refine T.out2 rfl (OutRun.cellN 0 rfl rfl (vs := [str r1.1, .slice x2.1 s1.2.2.length x2.2, .slice x3.1 s2.2.2.length x3.2]) rfl rfl) (OutRun.tmp rfl) (fun w hS => ⟨((x2.1, x2.2), (x3.1, x3.2)), rfl, hS.pick [2, 3] 4 rfl rfl nla rfl⟩)
   ·refine st ?_
    refine br hk2 (fun hb2 hk2 => ?_) (fun hb2 hk2 => ?_)
    ·refine sx ?_
     exact jn [1, 3, 4, 5] 6 (J3 true () hk2)
    ·refine st ?_
     refine br hk2 (fun hb3 hk2 => ?_) (fun hb3 hk2 => ?_)
     ·refine st ?_
      obtain ⟨r2, hg2, hk2⟩ := inv_bind hk2
      refine A.c1g rfl rfl (not_t hb3) rfl rfl Tryd.func71 rfl (fun w hS => (schema_Right.c (hB.up hS) (St.borrow (ros := [Ro el9 x2.1 x2.2 s1.2.2, Ro el11 x3.1 x3.2 s2.2.2]) (Ros.cons (hS.roBf 4 rfl rfl) (Ros.cons (hS.roBf 5 rfl rfl) Ros.nil))) (i0a := 0) (i0b := 1) (a0 := (r1.1, s1.2.2, s2.2.2)) rfl rfl hg2).mono fun e w' ⟨x, he, h1⟩ => ⟨x, he, hS.unborrow (post := []) h1 Frees.nil⟩) (fun x5 => ?_)
      refine sx ?_
      exact jn [1, 3, 4, 5] 6 (J3 (!(decide (r2 = 0))) () hk2)
     ·refine sx ?_
      exact jn [1, 3, 4, 5] 6 (J3 true () hk2)
  ·refine sq ?_
   refine T.pick [2, 0, 1, 3, 4] 5 rfl rfl nla (hs' := Cl b2 125 [.slice A0 l0.length c0, .int .i64 s1.1, .bool s1.2.1] :: Ro E8 A0 c0 l0 :: Cl b1 62 [str (([] : List UInt8)), .slice none 0 0, .slice none 0 0] :: Cl b3 62 [str r1.1, .slice x2.1 s1.2.2.length x2.2, .slice none 0 0] :: Bf el9 129 x2.1 x2.2 s1.2.2 :: hs) rfl ?_
   obtain ⟨r3, hg3, hk1⟩ := inv_bind hk1
   refine A.c2 rfl rfl rfl Tryd.func70 rfl (fun w hS => schema_reader_byte.c hB hS (i0a := 1) (o0 := (l0, s1.1, s1.2.1)) rfl hg3) (fun x6 => ?_)
   refine st ?_
   obtain ⟨e1, hl1, hk1⟩ := inv_bind hk1
   refine T.nilBf el11 131 ?_
   refine jn [2, 3, 1, 4, 5, 0] 6 (T.loop (s0 := (r3.2.2.1, r3.2.2.2, ([] : List ty0), 0)) (env := fun s4 x7 => [(0, .slice A0 l0.length c0), (2, .pointer (some ⟨b1, 0, none⟩)), (4, .pointer (some ⟨b2, 0, none⟩)), (5, .pointer (some ⟨b3, 0, none⟩)), (30, .int .i64 r3.1), (31, .int .i64 s4.2.2.2)]) (hs := fun (s4 : Int × Bool × (List ty0) × Int) (x7 : ty3) => Ro E8 A0 c0 l0 :: Cl b1 62 [str (([] : List UInt8)), .slice none 0 0, .slice none 0 0] :: Cl b2 125 [.slice A0 l0.length c0, .int .i64 s4.1, .bool s4.2.1] :: Cl b3 62 [str r1.1, .slice x2.1 s1.2.2.length x2.2, .slice x7.1 s4.2.2.1.length x7.2] :: Bf el9 129 x2.1 x2.2 s1.2.2 :: Bf el11 131 x7.1 x7.2 s4.2.2.1 :: hs) hl1 (none, 0) (fun K1 s4 x7 o1 he1 hm1 hx1 => ?_))
   unfold schema_Decode.st1 at he1
   refine sq ?_
   refine A.cd he1 rfl (fun hb4 he1 => ?_) (fun hb4 he1 => ?_)
   ·refine sq ?_
    refine T.dStart mixed ?_
    refine D.fi 0 ?_
    refine D.mv 2 ?_
    refine D.mv 4 ?_
    refine T.dAdd 11 (fun w => w.heap[b3]? = some (.cells [str r1.1, .slice x2.1 s1.2.2.length x2.2, .slice x7.1 s4.2.2.1.length x7.2].toArray 62 (0, 0))) (Cl.stays 3 rfl) ?_
    refine D.ld 0 1 (.slice x7.1 s4.2.2.1.length x7.2) ?_
    obtain ⟨r4, hg4, he1⟩ := inv_bind he1
    refine T.pick [2, 0, 1, 3, 4, 5] 6 rfl rfl nla (hs' := Cl b2 125 [.slice A0 l0.length c0, .int .i64 s4.1, .bool s4.2.1] :: Ro E8 A0 c0 l0 :: Cl b1 62 [str (([] : List UInt8)), .slice none 0 0, .slice none 0 0] :: Cl b3 62 [str r1.1, .slice x2.1 s1.2.2.length x2.2, .slice x7.1 s4.2.2.1.length x7.2] :: Bf el9 129 x2.1 x2.2 s1.2.2 :: Bf el11 131 x7.1 x7.2 s4.2.2.1 :: hs) rfl ?_
    refine D.on 3 ?_
    refine D.c2 rfl (by kernel_rfl) rfl rfl rfl Tryd.func70 rfl (fun w hS => schema_reader_byte.c hB hS (i0a := 1) (o0 := (l0, s4.1, s4.2.1)) rfl hg4) (fun x8 => ?_)
    refine T.dNext (phi_cons (.inr (Cl.stays 3 rfl)) phi_nil) ?_
    obtain ⟨r5, hg5, he1⟩ := inv_bind he1
    refine T.pick [0, 1, 2, 3, 4, 5] 6 rfl rfl nla (hs' := Cl b2 125 [.slice A0 l0.length c0, .int .i64 r4.2.2.1, .bool r4.2.2.2] :: Ro E8 A0 c0 l0 :: Cl b1 62 [str (([] : List UInt8)), .slice none 0 0, .slice none 0 0] :: Cl b3 62 [str r1.1, .slice x2.1 s1.2.2.length x2.2, .slice x7.1 s4.2.2.1.length x7.2] :: Bf el9 129 x2.1 x2.2 s1.2.2 :: Bf el11 131 x7.1 x7.2 s4.2.2.1 :: hs) rfl ?_
    refine D.on 5 ?_
    refine D.c2 rfl (by kernel_rfl) rfl rfl rfl Tryd.func70 rfl (fun w hS => schema_reader_byte.c hB hS (i0a := 1) (o0 := (l0, r4.2.2.1, r4.2.2.2)) rfl hg5) (fun x9 => ?_)
    refine T.dNext (phi_cons (.inr (Cl.stays 3 rfl)) phi_nil) ?_
    refine T.bin (.dPure (i := 6) rfl (by kernel_rfl) (fun d _ _ _ _ h => by cases d <;> exact h)) rfl (wants0 rfl) rfl rfl rfl rfl ?_
    refine T.build (.dPure (i := 7) rfl (by kernel_rfl) (fun d _ _ _ _ h => by cases d <;> exact h)) (vals := [(0, .int .i64 r4.1), (1, .bool ((decide (r5.1 = 1))))]) (cells := #[.int .i64 r4.1, .bool ((decide (r5.1 = 1)))]) rfl (wants0 rfl) rfl rfl (run_buildStruct (sizes := [1, 1]) (by kernel_rfl) (by kernel_rfl)) ?_
    refine D.on 8 ?_
    refine T.lit (E := Elt.pair E64 EBool) (.dOne rfl (by kernel_rfl)) (vals := [(0, .agg #[.int .i64 r4.1, .bool ((decide (r5.1 = 1)))])]) (cells := #[.int .i64 r4.1, .bool ((decide (r5.1 = 1)))]) rfl (wants0 rfl) rfl rfl rfl rfl rfl (by kernel_rfl) ([(r4.1, (decide (r5.1 = 1)))] : List ty0) rfl (fun _ _ _ _ ho => (Has.encs ho (Has.pair (Has.sc rfl) (Has.sc rfl) rfl) rfl rfl)) (fun b4 => ?_)
    refine T.dNext (phi_cons (.inr (Cl.stays 4 rfl)) phi_nil) ?_
    obtain ⟨hc1, he1⟩ := inv_chk he1
    refine D.on 9 ?_
    refine T.appBf (.dOne rfl (by kernel_rfl)) 6 0 rfl rfl rfl rfl rfl (wants0 rfl) rfl rfl rfl rfl rfl rfl hc1 (fun _ _ => rfl) (fun A2 c2 => ?_)
    refine T.dNext (phi_cons (.inr (Cl.stays 4 rfl)) phi_nil) ?_
    refine D.fi 10 ?_
    refine D.on 11 ?_
    refine T.store (.dOne rfl (by kernel_rfl)) 4 rfl rfl (wants0 rfl) rfl rfl rfl rfl (Nat.le_of_ble_eq_true rfl) rfl (cs' := [str r1.1, .slice x2.1 s1.2.2.length x2.2, .slice A2 (((s4.2.2.1 ++ (([(r4.1, (decide (r5.1 = 1)))] : List ty0)))).length) c2]) rfl rfl ?_
    refine T.dNext (phi_cons (.inl (by kernel_rfl)) phi_nil) ?_
    refine T.dDone (by kernel_rfl) ?_
    refine sx ?_
    refine T.region ?_
    refine sx ?_
    obtain rfl := inv_some he1
    exact jn [2, 3, 1, 4, 5, 6] 7 (hm1 (r5.2.2.1, r5.2.2.2, (s4.2.2.1 ++ (([(r4.1, (decide (r5.1 = 1)))] : List ty0))), IntKind.i64.wrap (s4.2.2.2 + 1)) rfl (A2, c2))
   ·refine T.exit ?_
    refine sx ?_
    obtain rfl := inv_some he1
    obtain rfl := hx1 _ rfl
    refine sx ?_
    exact jn [0, 1, 2, 3, 4, 5] 6 (J2 (s4.1, s4.2.1, s4.2.2.1) (x7.1, x7.2) hk1)
 ·refine sq ?_
  refine T.pick [1, 0, 2, 3] 4 rfl rfl nla (hs' := Cl b2 125 [.slice A0 l0.length c0, .int .i64 r1.2.2.1, .bool r1.2.2.2] :: Cl b3 62 [str r1.1, .slice none 0 0, .slice none 0 0] :: Cl b1 62 [str (([] : List UInt8)), .slice none 0 0, .slice none 0 0] :: Ro E8 A0 c0 l0 :: hs) rfl ?_
  obtain ⟨r6, hg6, hr⟩ := inv_bind hr
  refine A.c2 rfl rfl rfl Tryd.func70 rfl (fun w hS => schema_reader_byte.c hB hS (i0a := 3) (o0 := (l0, r1.2.2.1, r1.2.2.2)) rfl hg6) (fun x10 => ?_)
  refine st ?_
  obtain ⟨e2, hl2, hr⟩ := inv_bind hr
  refine T.nilBf el9 129 ?_
  refine jn [4, 3, 1, 2, 0] 5 (T.loop (s0 := (r6.2.2.1, r6.2.2.2, ([] : List ty5), 0)) (env := fun s5 x11 => [(0, .slice A0 l0.length c0), (2, .pointer (some ⟨b1, 0, none⟩)), (4, .pointer (some ⟨b2, 0, none⟩)), (5, .pointer (some ⟨b3, 0, none⟩)), (13, .int .i64 r6.1), (14, .int .i64 s5.2.2.2)]) (hs := fun (s5 : Int × Bool × (List ty5) × Int) (x11 : ty3) => Ro E8 A0 c0 l0 :: Cl b1 62 [str (([] : List UInt8)), .slice none 0 0, .slice none 0 0] :: Cl b2 125 [.slice A0 l0.length c0, .int .i64 s5.1, .bool s5.2.1] :: Cl b3 62 [str r1.1, .slice x11.1 s5.2.2.1.length x11.2, .slice none 0 0] :: Bf el9 129 x11.1 x11.2 s5.2.2.1 :: hs) hl2 (none, 0) (fun K2 s5 x11 o2 he2 hm2 hx2 => ?_))
  unfold schema_Decode.st2 at he2
  refine sq ?_
  refine A.cd he2 rfl (fun hb5 he2 => ?_) (fun hb5 he2 => ?_)
  ·refine sq ?_
   refine T.dStart mixed ?_
   refine D.fi 0 ?_
   refine D.mv 2 ?_
   refine D.mv 4 ?_
   refine D.mv 6 ?_
   refine T.dAdd 12 (fun w => w.heap[b3]? = some (.cells [str r1.1, .slice x11.1 s5.2.2.1.length x11.2, .slice none 0 0].toArray 62 (0, 0))) (Cl.stays 3 rfl) ?_
   refine D.ld 0 1 (.slice x11.1 s5.2.2.1.length x11.2) ?_
   obtain ⟨r7, hg7, he2⟩ := inv_bind he2
   refine T.pick [2, 0, 1, 3, 4] 5 rfl rfl nla (hs' := Cl b2 125 [.slice A0 l0.length c0, .int .i64 s5.1, .bool s5.2.1] :: Ro E8 A0 c0 l0 :: Cl b1 62 [str (([] : List UInt8)), .slice none 0 0, .slice none 0 0] :: Cl b3 62 [str r1.1, .slice x11.1 s5.2.2.1.length x11.2, .slice none 0 0] :: Bf el9 129 x11.1 x11.2 s5.2.2.1 :: hs) rfl ?_
   refine D.on 3 ?_
   refine D.c1 rfl (by kernel_rfl) rfl rfl Tryd.func69 rfl (fun w hS => schema_reader_name.c hB hS (i0a := 1) (o0 := (l0, s5.1, s5.2.1)) rfl hg7) (fun x12 => ?_)
   refine T.dNext (phi_cons (.inr (Cl.stays 3 rfl)) phi_nil) ?_
   obtain ⟨r8, hg8, he2⟩ := inv_bind he2
   refine T.pick [0, 1, 2, 3, 4] 5 rfl rfl nla (hs' := Cl b2 125 [.slice A0 l0.length c0, .int .i64 r7.2.2.1, .bool r7.2.2.2] :: Ro E8 A0 c0 l0 :: Cl b1 62 [str (([] : List UInt8)), .slice none 0 0, .slice none 0 0] :: Cl b3 62 [str r1.1, .slice x11.1 s5.2.2.1.length x11.2, .slice none 0 0] :: Bf el9 129 x11.1 x11.2 s5.2.2.1 :: hs) rfl ?_
   refine D.on 5 ?_
   refine D.c2 rfl (by kernel_rfl) rfl rfl rfl Tryd.func70 rfl (fun w hS => schema_reader_byte.c hB hS (i0a := 1) (o0 := (l0, r7.2.2.1, r7.2.2.2)) rfl hg8) (fun x13 => ?_)
   refine T.dNext (phi_cons (.inr (Cl.stays 3 rfl)) phi_nil) ?_
   obtain ⟨r9, hg9, he2⟩ := inv_bind he2
   refine T.pick [0, 1, 2, 3, 4] 5 rfl rfl nla (hs' := Cl b2 125 [.slice A0 l0.length c0, .int .i64 r8.2.2.1, .bool r8.2.2.2] :: Ro E8 A0 c0 l0 :: Cl b1 62 [str (([] : List UInt8)), .slice none 0 0, .slice none 0 0] :: Cl b3 62 [str r1.1, .slice x11.1 s5.2.2.1.length x11.2, .slice none 0 0] :: Bf el9 129 x11.1 x11.2 s5.2.2.1 :: hs) rfl ?_
   refine D.on 7 ?_
   refine D.c2 rfl (by kernel_rfl) rfl rfl rfl Tryd.func70 rfl (fun w hS => schema_reader_byte.c hB hS (i0a := 1) (o0 := (l0, r8.2.2.1, r8.2.2.2)) rfl hg9) (fun x14 => ?_)
   refine T.dNext (phi_cons (.inr (Cl.stays 3 rfl)) phi_nil) ?_
   refine T.build (.dPure (i := 8) rfl (by kernel_rfl) (fun d _ _ _ _ h => by cases d <;> exact h)) (vals := [(0, str r7.1), (1, .int .i64 r8.1), (2, .int .i64 r9.1)]) (cells := #[str r7.1, .int .i64 r8.1, .int .i64 r9.1]) rfl (wants0 rfl) rfl rfl (run_buildStruct (sizes := [1, 1, 1]) (by kernel_rfl) (by kernel_rfl)) ?_
   refine D.on 9 ?_
   refine T.lit (E := Elt.pair EStr el0) (.dOne rfl (by kernel_rfl)) (vals := [(0, .agg #[str r7.1, .int .i64 r8.1, .int .i64 r9.1])]) (cells := #[str r7.1, .int .i64 r8.1, .int .i64 r9.1]) rfl (wants0 rfl) rfl rfl rfl rfl rfl (by kernel_rfl) ([(r7.1, r8.1, r9.1)] : List ty5) rfl (fun _ _ _ _ ho => (Has.encs ho (Has.pair (Has.sc rfl) (Has.pair (Has.sc rfl) (Has.sc rfl) rfl) rfl) rfl rfl)) (fun b5 => ?_)
   refine T.dNext (phi_cons (.inr (Cl.stays 4 rfl)) phi_nil) ?_
   obtain ⟨hc2, he2⟩ := inv_chk he2
   refine D.on 10 ?_
   refine T.appBf (.dOne rfl (by kernel_rfl)) 5 0 rfl rfl rfl rfl rfl (wants0 rfl) rfl rfl rfl rfl rfl rfl hc2 (fun _ _ => rfl) (fun A3 c3 => ?_)
   refine T.dNext (phi_cons (.inr (Cl.stays 4 rfl)) phi_nil) ?_
   refine D.fi 11 ?_
   refine D.on 12 ?_
   refine T.store (.dOne rfl (by kernel_rfl)) 4 rfl rfl (wants0 rfl) rfl rfl rfl rfl (Nat.le_of_ble_eq_true rfl) rfl (cs' := [str r1.1, .slice A3 (((s5.2.2.1 ++ (([(r7.1, r8.1, r9.1)] : List ty5)))).length) c3, .slice none 0 0]) rfl rfl ?_
   refine T.dNext (phi_cons (.inl (by kernel_rfl)) phi_nil) ?_
   refine T.dDone (by kernel_rfl) ?_
   refine sx ?_
   refine T.region ?_
   refine sx ?_
   obtain rfl := inv_some he2
   exact jn [2, 3, 1, 4, 5] 6 (hm2 (r9.2.2.1, r9.2.2.2, (s5.2.2.1 ++ (([(r7.1, r8.1, r9.1)] : List ty5))), IntKind.i64.wrap (s5.2.2.2 + 1)) rfl (A3, c3))
  ·refine T.exit ?_
   refine sx ?_
   obtain rfl := inv_some he2
   obtain rfl := hx2 _ rfl
   refine sx ?_
   exact jn [0, 1, 2, 3, 4] 5 (J1 (s5.1, s5.2.1, s5.2.2.1) (x11.1, x11.2) hr)

noncomputable def schema_EncodeRow.k1 (l0 : List ty4) (s1 : Unit) : Option ty1 :=
  (keys_Key.impl l0).bind fun r1 => (if ((!(decide (r1.2 = 0)))) = true then some (([] : List UInt8), 62) else some (r1.1, 0))
noncomputable def schema_EncodeRow.k2 (s2 : Int) (s3 : Bool) : Option (Int ⊕ (ty1 ⊕ Unit)) :=
  (if s3 = true then some (.inr (.inl (([] : List UInt8), 62))) else some (.inl (IntKind.i64.wrap (s2 + 1))))
noncomputable def schema_EncodeRow.st1 (l0 : List ty4) (s2 : Int) : Option (Int ⊕ (ty1 ⊕ Unit)) :=
  (if ((decide (s2 < ((l0.length : Int))))) = true then chk (0 ≤ s2 ∧ s2 < (l0.length : Int)) ((if ((decide ((((((l0.getD (s2 : Int).toNat default)).1))) = 2))) = true then (keys_Runes.impl ((((l0.getD (s2 : Int).toNat default)).2.2))).bind fun r2 => schema_EncodeRow.k2 s2 (decide ((8 : Int) < r2)) else schema_EncodeRow.k2 s2 false)) else some (.inr (.inr ())))
noncomputable def schema_EncodeRow.impl (l0 : List ty4) : Option ty1 :=
  (if ((decide ((3 : Int) < ((l0.length : Int))))) = true then some (([] : List UInt8), 2) else (loop (schema_EncodeRow.st1 l0) 0).bind (fun e1 => match e1 with | .inl v => some v | .inr v => schema_EncodeRow.k1 l0 v))
theorem schema_EncodeRow.c {i0 c0 : Nat} {A0 : Option Addr} {l0 : List ty4} (hB : Base B) (hS : St B (hs) w) (h0 : (hs)[i0]? = some (Ro el2 A0 c0 l0)) {r : ty1} (hr : schema_EncodeRow.impl l0 = some r) :
    Calls Tryd.prog 19 #[.slice A0 l0.length c0] w fun e w' => ∃ x : ty3, e = .returned (.tuple #[.slice x.1 r.1.length x.2, .int .i64 r.2]) ∧ St B (Bf E8 5 x.1 x.2 r.1 :: hs) w' := by
 unfold schema_EncodeRow.impl at hr
 refine calls_T Tryd.func19 rfl rfl rfl hS ?_
 refine T.front i0 h0 ?_
 refine sq ?_
 refine A.cd hr rfl (fun hb1 hr => ?_) (fun hb1 hr => ?_)
 ·refine sq ?_
  obtain rfl := inv_some hr
  refine T.nilBf E8 5 ?_
  refine pk [0] 2 ?_
  refine T.ret2 rfl rfl rfl (fun w hS => ⟨(none, 0), rfl, hS⟩)
 ·refine st ?_
  refine T.seqJ (fun (s1 : Unit) (x1 : Unit) => [(0, .slice A0 l0.length c0)]) (fun s1 x1 => Ro el2 A0 c0 l0 :: hs) (fun s1 => schema_EncodeRow.k1 l0 s1 = some r) (fun s1 x1 hk1 => ?_) (fun J1 => ?_)
  ·unfold schema_EncodeRow.k1 at hk1
   refine sq ?_
   obtain ⟨r1, hg1, hk1⟩ := inv_bind hk1
   refine A.c1 rfl rfl Tryd.func43 rfl (fun w hS => keys_Key.c hB hS (i0 := 0) rfl hg1) (fun x2 => ?_)
   refine sq ?_
   refine A.cd hk1 rfl (fun hb2 hk1 => ?_) (fun hb2 hk1 => ?_)
   ·refine sq ?_
    obtain rfl := inv_some hk1
    refine T.nilBf E8 5 ?_
    refine pk [0] 3 ?_
    refine T.ret2 rfl rfl rfl (fun w hS => ⟨(none, 0), rfl, hS⟩)
   ·refine sq ?_
    obtain rfl := inv_some hk1
    refine pk [0] 2 ?_
    refine T.ret2 rfl rfl rfl (fun w hS => ⟨(x2.1, x2.2), rfl, hS⟩)
  ·refine sq ?_
   obtain ⟨e1, hl1, hr⟩ := inv_bind hr
   refine jn [0] 1 (T.loop (s0 := 0) (env := fun s2 x3 => [(0, .slice A0 l0.length c0), (11, .slice A0 l0.length c0), (12, .int .i64 ((l0.length : Int))), (13, .int .i64 s2)]) (hs := fun (s2 : Int) (x3 : Unit) => Ro el2 A0 c0 l0 :: hs) hl1 () (fun K1 s2 x3 o1 he1 hm1 hx1 => ?_))
   unfold schema_EncodeRow.st1 at he1
   refine sq ?_
   refine A.cd he1 rfl (fun hb3 he1 => ?_) (fun hb3 he1 => ?_)
   ·refine sq ?_
    obtain ⟨hc1, he1⟩ := inv_chk he1
    refine T.idxRo .list 0 rfl rfl (wants0 rfl) rfl rfl rfl hc1.1 hc1.2 (Nat.le_refl _) ?_
    refine T.ldFRo 0 .list Fd.self (Sh.pair Sh.sc (Sh.pair Sh.sc Sh.sc)) rfl (.inl rfl) rfl rfl hc1.1 hc1.2 rfl (wants0 rfl) rfl rfl rfl (v := fun x4 => .agg #[.int .i64 ((((l0.getD (s2 : Int).toNat default)).1)), .int .i64 ((((l0.getD (s2 : Int).toNat default)).2.1)), str ((((l0.getD (s2 : Int).toNat default)).2.2))]) (hs' := fun x4 => Ro el2 A0 c0 l0 :: hs) (fun _ => rfl) (fun _ => rfl) (fun x4 => ?_)
    refine A.al rfl (fun b1 => ?_)
    refine st ?_
    refine T.seqJ (fun (s3 : Bool) (x5 : Unit) => [(0, .slice A0 l0.length c0), (11, .slice A0 l0.length c0), (12, .int .i64 ((l0.length : Int))), (13, .int .i64 s2), (25, .bool s3)]) (fun s3 x5 => Ro el2 A0 c0 l0 :: hs) (fun s3 => schema_EncodeRow.k2 s2 s3 = some o1) (fun s3 x5 hk2 => ?_) (fun J2 => ?_)
    ·unfold schema_EncodeRow.k2 at hk2
     refine A.cd hk2 rfl (fun hb4 hk2 => ?_) (fun hb4 hk2 => ?_)
     ·refine sq ?_
      obtain rfl := inv_some hk2
      obtain rfl := hx1 _ rfl
      refine st ?_
      obtain rfl := inv_some hr
      refine T.nilBf E8 5 ?_
      refine pk [0] 2 ?_
      refine T.ret2 rfl rfl rfl (fun w hS => ⟨(none, 0), rfl, hS⟩)
     ·refine T.skip ?_
      refine sx ?_
      refine T.region ?_
      refine sx ?_
      obtain rfl := inv_some hk2
      exact jn [0] 1 (hm1 (IntKind.i64.wrap (s2 + 1)) rfl ())
    ·refine st ?_
     refine br he1 (fun hb5 he1 => ?_) (fun hb5 he1 => ?_)
     ·refine st ?_
      obtain ⟨r2, hg2, he1⟩ := inv_bind he1
      refine A.c1g rfl rfl hb5 rfl rfl Tryd.func42 rfl (fun w hS => keys_Runes.c hB hS  hg2) (fun x6 => ?_)
      refine sx ?_
      exact jn [1] 2 (J2 (decide ((8 : Int) < r2)) () he1)
     ·refine sx ?_
      exact jn [1] 2 (J2 false () he1)
   ·refine T.exit ?_
    refine sx ?_
    obtain rfl := inv_some he1
    obtain rfl := hx1 _ rfl
    refine sx ?_
    exact jn [0] 1 (J1 () () hr)

noncomputable def schema_DecodeRow.impl (l0 : List UInt8) : Option ((List ty4) × Int) :=
  (keys_Read.impl l0).bind fun r1 => (if ((!(decide (r1.2 = 0)))) = true then some (([] : List ty4), 11) else (schema_EncodeRow.impl r1.1).bind fun r2 => (if ((!(decide (r2.2 = 0)))) = true then some (([] : List ty4), 11) else some (r1.1, 0)))
theorem schema_DecodeRow.c {i0 c0 : Nat} {A0 : Option Addr} {l0 : List UInt8} (hB : Base B) (hS : St B (hs) w) (h0 : (hs)[i0]? = some (Ro E8 A0 c0 l0)) {r : (List ty4) × Int} (hr : schema_DecodeRow.impl l0 = some r) :
    Calls Tryd.prog 46 #[.slice A0 l0.length c0] w fun e w' => ∃ x : ty3, e = .returned (.tuple #[.slice x.1 r.1.length x.2, .int .i64 r.2]) ∧ St B (Bf el2 64 x.1 x.2 r.1 :: hs) w' := by
 unfold schema_DecodeRow.impl at hr
 refine calls_T Tryd.func46 rfl rfl rfl hS ?_
 refine T.front i0 h0 ?_
 refine sq ?_
 obtain ⟨r1, hg1, hr⟩ := inv_bind hr
 refine A.c1 rfl rfl Tryd.func67 rfl (fun w hS => keys_Read.c hB hS (i0 := 0) rfl hg1) (fun x1 => ?_)
 refine sq ?_
 refine A.cd hr rfl (fun hb1 hr => ?_) (fun hb1 hr => ?_)
 ·refine sq ?_
  obtain rfl := inv_some hr
  refine T.nilBf el2 64 ?_
  refine pk [0] 3 ?_
  refine T.ret2 rfl rfl rfl (fun w hS => ⟨(none, 0), rfl, hS⟩)
 ·refine sq ?_
  obtain ⟨r2, hg2, hr⟩ := inv_bind hr
  refine A.c1 rfl rfl Tryd.func19 rfl (fun w hS => (schema_EncodeRow.c (hB.up hS) (St.borrow (ros := [Ro el2 x1.1 x1.2 r1.1]) (Ros.cons (hS.roBf 0 rfl rfl) Ros.nil)) (i0 := 0) rfl hg2).mono fun e w' ⟨x, he, h1⟩ => ⟨x, he, hS.unborrow (post := [Bf E8 5 x.1 x.2 r2.1]) h1 (Frees.cons (Bf.free .sc) Frees.nil)⟩) (fun x2 => ?_)
  refine sq ?_
  refine A.cd hr rfl (fun hb2 hr => ?_) (fun hb2 hr => ?_)
  ·refine sq ?_
   obtain rfl := inv_some hr
   refine T.nilBf el2 64 ?_
   refine pk [0] 4 ?_
   refine T.ret2 rfl rfl rfl (fun w hS => ⟨(none, 0), rfl, hS⟩)
  ·refine sq ?_
   obtain rfl := inv_some hr
   refine pk [1] 3 ?_
   refine T.ret2 rfl rfl rfl (fun w hS => ⟨(x1.1, x1.2), rfl, hS⟩)

noncomputable def slices_Equal_api_Column_api_Column_.k1 (s1 : Unit) : Option Bool :=
  some true
noncomputable def slices_Equal_api_Column_api_Column_.st1 (l0 : List ty5) (l1 : List ty5) (s2 : Int) : Option (Int ⊕ (Bool ⊕ Unit)) :=
  (if ((decide (s2 < ((l0.length : Int))))) = true then chk (0 ≤ s2 ∧ s2 < (l0.length : Int)) (chk (0 ≤ s2 ∧ s2 < (l1.length : Int)) ((if ((!(decide ((l0.getD (s2 : Int).toNat default) = (l1.getD (s2 : Int).toNat default))))) = true then some (.inr (.inl false)) else some (.inl (IntKind.i64.wrap (s2 + 1)))))) else some (.inr (.inr ())))
noncomputable def slices_Equal_api_Column_api_Column_.impl (l0 : List ty5) (l1 : List ty5) : Option Bool :=
  (if ((!(decide ((((l0.length : Int))) = ((l1.length : Int)))))) = true then some false else (loop (slices_Equal_api_Column_api_Column_.st1 l0 l1) 0).bind (fun e1 => match e1 with | .inl v => some v | .inr v => slices_Equal_api_Column_api_Column_.k1 v))
theorem slices_Equal_api_Column_api_Column_.c {i0 c0 : Nat} {A0 : Option Addr} {l0 : List ty5} {i1 c1 : Nat} {A1 : Option Addr} {l1 : List ty5} (hB : Base B) (hS : St B (hs) w) (h0 : (hs)[i0]? = some (Ro el9 A0 c0 l0)) (h1 : (hs)[i1]? = some (Ro el9 A1 c1 l1)) {r : Bool} (hr : slices_Equal_api_Column_api_Column_.impl l0 l1 = some r) :
    Calls Tryd.prog 78 #[.slice A0 l0.length c0, .slice A1 l1.length c1] w fun e w' => ∃ x : Unit, e = .returned (.bool r) ∧ St B (hs) w' := by
 unfold slices_Equal_api_Column_api_Column_.impl at hr
 refine calls_T Tryd.func78 rfl rfl rfl hS ?_
 refine T.front i0 h0 ?_
 refine T.front (i1 + 1) h1 ?_
 refine sq ?_
 refine A.cd hr rfl (fun hb1 hr => ?_) (fun hb1 hr => ?_)
 ·refine sq ?_
  obtain rfl := inv_some hr
  refine pk [] 2 ?_
  refine T.ret1 rfl rfl (fun w hS => ⟨(), rfl, hS⟩)
 ·refine st ?_
  refine T.seqJ (fun (s1 : Unit) (x1 : Unit) => []) (fun s1 x1 => hs) (fun s1 => slices_Equal_api_Column_api_Column_.k1 s1 = some r) (fun s1 x1 hk1 => ?_) (fun J1 => ?_)
  ·unfold slices_Equal_api_Column_api_Column_.k1 at hk1
   refine sq ?_
   obtain rfl := inv_some hk1
   refine pk [] 0 ?_
   refine T.ret1 rfl rfl (fun w hS => ⟨(), rfl, hS⟩)
  ·refine sq ?_
   obtain ⟨e1, hl1, hr⟩ := inv_bind hr
   refine jn [1, 0] 2 (T.loop (s0 := 0) (env := fun s2 x2 => [(0, .slice A0 l0.length c0), (1, .slice A1 l1.length c1), (12, .int .i64 ((l0.length : Int))), (13, .int .i64 s2)]) (hs := fun (s2 : Int) (x2 : Unit) => Ro el9 A0 c0 l0 :: Ro el9 A1 c1 l1 :: hs) hl1 () (fun K1 s2 x2 o1 he1 hm1 hx1 => ?_))
   unfold slices_Equal_api_Column_api_Column_.st1 at he1
   refine sq ?_
   refine A.cd he1 rfl (fun hb2 he1 => ?_) (fun hb2 he1 => ?_)
   ·refine sq ?_
    refine T.plan [(0, 0), (1, 0), (2, 0), (4, 0), (5, 0), (6, 0), (3, 1), (7, 1), (8, 0)] mixed (by kernel_rfl) (by kernel_rfl) rfl (fun d _ _ _ _ h => by cases d <;> exact h) ?_
    refine T.move (.plan rfl) rfl (wants0 rfl) rfl rfl ?_
    refine T.move (.plan rfl) rfl (wants0 rfl) rfl rfl ?_
    obtain ⟨hc1, he1⟩ := inv_chk he1
    refine T.idxRo (.plan rfl) 0 rfl rfl (wants0 rfl) rfl rfl rfl hc1.1 hc1.2 (Nat.le_refl _) ?_
    refine T.move (.plan rfl) rfl (wants0 rfl) rfl rfl ?_
    refine T.move (.plan rfl) rfl (wants0 rfl) rfl rfl ?_
    obtain ⟨hc2, he1⟩ := inv_chk he1
    refine T.idxRo (.plan rfl) 1 rfl rfl (wants0 rfl) rfl rfl rfl hc2.1 hc2.2 (Nat.le_refl _) ?_
    refine T.ldFRo 0 (.plan rfl) Fd.self (Sh.pair Sh.sc (Sh.pair Sh.sc Sh.sc)) rfl (.inl rfl) rfl rfl hc1.1 hc1.2 rfl (wants0 rfl) rfl rfl rfl (v := fun x3 => .agg #[str ((((l0.getD (s2 : Int).toNat default)).1)), .int .i64 ((((l0.getD (s2 : Int).toNat default)).2.1)), .int .i64 ((((l0.getD (s2 : Int).toNat default)).2.2))]) (hs' := fun x3 => Ro el9 A0 c0 l0 :: Ro el9 A1 c1 l1 :: hs) (fun _ => rfl) (fun _ => rfl) (fun x3 => ?_)
    refine T.ldFRo 1 (.plan rfl) Fd.self (Sh.pair Sh.sc (Sh.pair Sh.sc Sh.sc)) rfl (.inl rfl) rfl rfl hc2.1 hc2.2 rfl (wants0 rfl) rfl rfl rfl (v := fun x4 => .agg #[str ((((l1.getD (s2 : Int).toNat default)).1)), .int .i64 ((((l1.getD (s2 : Int).toNat default)).2.1)), .int .i64 ((((l1.getD (s2 : Int).toNat default)).2.2))]) (hs' := fun x4 => Ro el9 A0 c0 l0 :: Ro el9 A1 c1 l1 :: hs) (fun _ => rfl) (fun _ => rfl) (fun x4 => ?_)
    refine T.neS (.plan rfl) rfl (wants0 rfl) rfl rfl rfl (by kernel_rfl) (by kernel_rfl) (by kernel_rfl) (l := [(9, 0), (3, 1), (3, 2)]) (by kernel_rfl) (.str rfl rfl (.int rfl rfl (.int rfl rfl .nil))) (b' := (decide ((l0.getD (s2 : Int).toNat default) = (l1.getD (s2 : Int).toNat default)))) (by rw [Bool.eq_iff_iff]; simp [Prod.ext_iff]) ?_
    refine T.planEnd ?_
    refine st ?_
    refine A.cd he1 rfl (fun hb3 he1 => ?_) (fun hb3 he1 => ?_)
    ·refine sq ?_
     obtain rfl := inv_some he1
     obtain rfl := hx1 _ rfl
     refine st ?_
     obtain rfl := inv_some hr
     refine pk [] 2 ?_
     refine T.ret1 rfl rfl (fun w hS => ⟨(), rfl, hS⟩)
    ·refine T.skip ?_
     refine sx ?_
     refine T.region ?_
     refine sx ?_
     obtain rfl := inv_some he1
     exact jn [0, 1] 2 (hm1 (IntKind.i64.wrap (s2 + 1)) rfl ())
   ·refine T.exit ?_
    refine sx ?_
    obtain rfl := inv_some he1
    obtain rfl := hx1 _ rfl
    refine sx ?_
    exact T.le EnvLe.nil (T.pick [] 2 rfl rfl nla rfl (J1 () () hr))

noncomputable def slices_Equal_api_Index_api_Index_.k1 (s1 : Unit) : Option Bool :=
  some true
noncomputable def slices_Equal_api_Index_api_Index_.st1 (l0 : List ty0) (l1 : List ty0) (s2 : Int) : Option (Int ⊕ (Bool ⊕ Unit)) :=
  (if ((decide (s2 < ((l0.length : Int))))) = true then chk (0 ≤ s2 ∧ s2 < (l0.length : Int)) (chk (0 ≤ s2 ∧ s2 < (l1.length : Int)) ((if ((!(decide ((l0.getD (s2 : Int).toNat default) = (l1.getD (s2 : Int).toNat default))))) = true then some (.inr (.inl false)) else some (.inl (IntKind.i64.wrap (s2 + 1)))))) else some (.inr (.inr ())))
noncomputable def slices_Equal_api_Index_api_Index_.impl (l0 : List ty0) (l1 : List ty0) : Option Bool :=
  (if ((!(decide ((((l0.length : Int))) = ((l1.length : Int)))))) = true then some false else (loop (slices_Equal_api_Index_api_Index_.st1 l0 l1) 0).bind (fun e1 => match e1 with | .inl v => some v | .inr v => slices_Equal_api_Index_api_Index_.k1 v))
theorem slices_Equal_api_Index_api_Index_.c {i0 c0 : Nat} {A0 : Option Addr} {l0 : List ty0} {i1 c1 : Nat} {A1 : Option Addr} {l1 : List ty0} (hB : Base B) (hS : St B (hs) w) (h0 : (hs)[i0]? = some (Ro el11 A0 c0 l0)) (h1 : (hs)[i1]? = some (Ro el11 A1 c1 l1)) {r : Bool} (hr : slices_Equal_api_Index_api_Index_.impl l0 l1 = some r) :
    Calls Tryd.prog 79 #[.slice A0 l0.length c0, .slice A1 l1.length c1] w fun e w' => ∃ x : Unit, e = .returned (.bool r) ∧ St B (hs) w' := by
 unfold slices_Equal_api_Index_api_Index_.impl at hr
 refine calls_T Tryd.func79 rfl rfl rfl hS ?_
 refine T.front i0 h0 ?_
 refine T.front (i1 + 1) h1 ?_
 refine sq ?_
 refine A.cd hr rfl (fun hb1 hr => ?_) (fun hb1 hr => ?_)
 ·refine sq ?_
  obtain rfl := inv_some hr
  refine pk [] 2 ?_
  refine T.ret1 rfl rfl (fun w hS => ⟨(), rfl, hS⟩)
 ·refine st ?_
  refine T.seqJ (fun (s1 : Unit) (x1 : Unit) => []) (fun s1 x1 => hs) (fun s1 => slices_Equal_api_Index_api_Index_.k1 s1 = some r) (fun s1 x1 hk1 => ?_) (fun J1 => ?_)
  ·unfold slices_Equal_api_Index_api_Index_.k1 at hk1
   refine sq ?_
   obtain rfl := inv_some hk1
   refine pk [] 0 ?_
   refine T.ret1 rfl rfl (fun w hS => ⟨(), rfl, hS⟩)
  ·refine sq ?_
   obtain ⟨e1, hl1, hr⟩ := inv_bind hr
   refine jn [1, 0] 2 (T.loop (s0 := 0) (env := fun s2 x2 => [(0, .slice A0 l0.length c0), (1, .slice A1 l1.length c1), (12, .int .i64 ((l0.length : Int))), (13, .int .i64 s2)]) (hs := fun (s2 : Int) (x2 : Unit) => Ro el11 A0 c0 l0 :: Ro el11 A1 c1 l1 :: hs) hl1 () (fun K1 s2 x2 o1 he1 hm1 hx1 => ?_))
   unfold slices_Equal_api_Index_api_Index_.st1 at he1
   refine sq ?_
   refine A.cd he1 rfl (fun hb2 he1 => ?_) (fun hb2 he1 => ?_)
   ·refine sq ?_
    refine T.plan [(0, 0), (1, 0), (2, 0), (4, 0), (5, 0), (6, 0), (3, 1), (7, 1), (8, 0)] mixed (by kernel_rfl) (by kernel_rfl) rfl (fun d _ _ _ _ h => by cases d <;> exact h) ?_
    refine T.move (.plan rfl) rfl (wants0 rfl) rfl rfl ?_
    refine T.move (.plan rfl) rfl (wants0 rfl) rfl rfl ?_
    obtain ⟨hc1, he1⟩ := inv_chk he1
    refine T.idxRo (.plan rfl) 0 rfl rfl (wants0 rfl) rfl rfl rfl hc1.1 hc1.2 (Nat.le_refl _) ?_
    refine T.move (.plan rfl) rfl (wants0 rfl) rfl rfl ?_
    refine T.move (.plan rfl) rfl (wants0 rfl) rfl rfl ?_
    obtain ⟨hc2, he1⟩ := inv_chk he1
    refine T.idxRo (.plan rfl) 1 rfl rfl (wants0 rfl) rfl rfl rfl hc2.1 hc2.2 (Nat.le_refl _) ?_
    refine T.ldFRo 0 (.plan rfl) Fd.self (Sh.pair Sh.sc Sh.sc) rfl (.inl rfl) rfl rfl hc1.1 hc1.2 rfl (wants0 rfl) rfl rfl rfl (v := fun x3 => .agg #[.int .i64 ((((l0.getD (s2 : Int).toNat default)).1)), .bool ((((l0.getD (s2 : Int).toNat default)).2))]) (hs' := fun x3 => Ro el11 A0 c0 l0 :: Ro el11 A1 c1 l1 :: hs) (fun _ => rfl) (fun _ => rfl) (fun x3 => ?_)
    refine T.ldFRo 1 (.plan rfl) Fd.self (Sh.pair Sh.sc Sh.sc) rfl (.inl rfl) rfl rfl hc2.1 hc2.2 rfl (wants0 rfl) rfl rfl rfl (v := fun x4 => .agg #[.int .i64 ((((l1.getD (s2 : Int).toNat default)).1)), .bool ((((l1.getD (s2 : Int).toNat default)).2))]) (hs' := fun x4 => Ro el11 A0 c0 l0 :: Ro el11 A1 c1 l1 :: hs) (fun _ => rfl) (fun _ => rfl) (fun x4 => ?_)
    refine T.neS (.plan rfl) rfl (wants0 rfl) rfl rfl rfl (by kernel_rfl) (by kernel_rfl) (by kernel_rfl) (l := [(3, 0), (4, 1)]) (by kernel_rfl) (.int rfl rfl (.bool (by kernel_rfl) rfl rfl .nil)) (b' := (decide ((l0.getD (s2 : Int).toNat default) = (l1.getD (s2 : Int).toNat default)))) (by rw [Bool.eq_iff_iff]; simp [Prod.ext_iff]) ?_
    refine T.planEnd ?_
    refine st ?_
    refine A.cd he1 rfl (fun hb3 he1 => ?_) (fun hb3 he1 => ?_)
    ·refine sq ?_
     obtain rfl := inv_some he1
     obtain rfl := hx1 _ rfl
     refine st ?_
     obtain rfl := inv_some hr
     refine pk [] 2 ?_
     refine T.ret1 rfl rfl (fun w hS => ⟨(), rfl, hS⟩)
    ·refine T.skip ?_
     refine sx ?_
     refine T.region ?_
     refine sx ?_
     obtain rfl := inv_some he1
     exact jn [0, 1] 2 (hm1 (IntKind.i64.wrap (s2 + 1)) rfl ())
   ·refine T.exit ?_
    refine sx ?_
    obtain rfl := inv_some he1
    obtain rfl := hx1 _ rfl
    refine sx ?_
    exact T.le EnvLe.nil (T.pick [] 2 rfl rfl nla rfl (J1 () () hr))

noncomputable def slices_Equal_api_Value_api_Value_.k1 (s1 : Unit) : Option Bool :=
  some true
noncomputable def slices_Equal_api_Value_api_Value_.st1 (l0 : List ty4) (l1 : List ty4) (s2 : Int) : Option (Int ⊕ (Bool ⊕ Unit)) :=
  (if ((decide (s2 < ((l0.length : Int))))) = true then chk (0 ≤ s2 ∧ s2 < (l0.length : Int)) (chk (0 ≤ s2 ∧ s2 < (l1.length : Int)) ((if ((!(decide ((l0.getD (s2 : Int).toNat default) = (l1.getD (s2 : Int).toNat default))))) = true then some (.inr (.inl false)) else some (.inl (IntKind.i64.wrap (s2 + 1)))))) else some (.inr (.inr ())))
noncomputable def slices_Equal_api_Value_api_Value_.impl (l0 : List ty4) (l1 : List ty4) : Option Bool :=
  (if ((!(decide ((((l0.length : Int))) = ((l1.length : Int)))))) = true then some false else (loop (slices_Equal_api_Value_api_Value_.st1 l0 l1) 0).bind (fun e1 => match e1 with | .inl v => some v | .inr v => slices_Equal_api_Value_api_Value_.k1 v))
theorem slices_Equal_api_Value_api_Value_.c {i0 c0 : Nat} {A0 : Option Addr} {l0 : List ty4} {i1 c1 : Nat} {A1 : Option Addr} {l1 : List ty4} (hB : Base B) (hS : St B (hs) w) (h0 : (hs)[i0]? = some (Ro el2 A0 c0 l0)) (h1 : (hs)[i1]? = some (Ro el2 A1 c1 l1)) {r : Bool} (hr : slices_Equal_api_Value_api_Value_.impl l0 l1 = some r) :
    Calls Tryd.prog 80 #[.slice A0 l0.length c0, .slice A1 l1.length c1] w fun e w' => ∃ x : Unit, e = .returned (.bool r) ∧ St B (hs) w' := by
 unfold slices_Equal_api_Value_api_Value_.impl at hr
 refine calls_T Tryd.func80 rfl rfl rfl hS ?_
 refine T.front i0 h0 ?_
 refine T.front (i1 + 1) h1 ?_
 refine sq ?_
 refine A.cd hr rfl (fun hb1 hr => ?_) (fun hb1 hr => ?_)
 ·refine sq ?_
  obtain rfl := inv_some hr
  refine pk [] 2 ?_
  refine T.ret1 rfl rfl (fun w hS => ⟨(), rfl, hS⟩)
 ·refine st ?_
  refine T.seqJ (fun (s1 : Unit) (x1 : Unit) => []) (fun s1 x1 => hs) (fun s1 => slices_Equal_api_Value_api_Value_.k1 s1 = some r) (fun s1 x1 hk1 => ?_) (fun J1 => ?_)
  ·unfold slices_Equal_api_Value_api_Value_.k1 at hk1
   refine sq ?_
   obtain rfl := inv_some hk1
   refine pk [] 0 ?_
   refine T.ret1 rfl rfl (fun w hS => ⟨(), rfl, hS⟩)
  ·refine sq ?_
   obtain ⟨e1, hl1, hr⟩ := inv_bind hr
   refine jn [1, 0] 2 (T.loop (s0 := 0) (env := fun s2 x2 => [(0, .slice A0 l0.length c0), (1, .slice A1 l1.length c1), (12, .int .i64 ((l0.length : Int))), (13, .int .i64 s2)]) (hs := fun (s2 : Int) (x2 : Unit) => Ro el2 A0 c0 l0 :: Ro el2 A1 c1 l1 :: hs) hl1 () (fun K1 s2 x2 o1 he1 hm1 hx1 => ?_))
   unfold slices_Equal_api_Value_api_Value_.st1 at he1
   refine sq ?_
   refine A.cd he1 rfl (fun hb2 he1 => ?_) (fun hb2 he1 => ?_)
   ·refine sq ?_
    refine T.plan [(0, 0), (1, 0), (2, 0), (4, 0), (5, 0), (6, 0), (3, 1), (7, 1), (8, 0)] mixed (by kernel_rfl) (by kernel_rfl) rfl (fun d _ _ _ _ h => by cases d <;> exact h) ?_
    refine T.move (.plan rfl) rfl (wants0 rfl) rfl rfl ?_
    refine T.move (.plan rfl) rfl (wants0 rfl) rfl rfl ?_
    obtain ⟨hc1, he1⟩ := inv_chk he1
    refine T.idxRo (.plan rfl) 0 rfl rfl (wants0 rfl) rfl rfl rfl hc1.1 hc1.2 (Nat.le_refl _) ?_
    refine T.move (.plan rfl) rfl (wants0 rfl) rfl rfl ?_
    refine T.move (.plan rfl) rfl (wants0 rfl) rfl rfl ?_
    obtain ⟨hc2, he1⟩ := inv_chk he1
    refine T.idxRo (.plan rfl) 1 rfl rfl (wants0 rfl) rfl rfl rfl hc2.1 hc2.2 (Nat.le_refl _) ?_
    refine T.ldFRo 0 (.plan rfl) Fd.self (Sh.pair Sh.sc (Sh.pair Sh.sc Sh.sc)) rfl (.inl rfl) rfl rfl hc1.1 hc1.2 rfl (wants0 rfl) rfl rfl rfl (v := fun x3 => .agg #[.int .i64 ((((l0.getD (s2 : Int).toNat default)).1)), .int .i64 ((((l0.getD (s2 : Int).toNat default)).2.1)), str ((((l0.getD (s2 : Int).toNat default)).2.2))]) (hs' := fun x3 => Ro el2 A0 c0 l0 :: Ro el2 A1 c1 l1 :: hs) (fun _ => rfl) (fun _ => rfl) (fun x3 => ?_)
    refine T.ldFRo 1 (.plan rfl) Fd.self (Sh.pair Sh.sc (Sh.pair Sh.sc Sh.sc)) rfl (.inl rfl) rfl rfl hc2.1 hc2.2 rfl (wants0 rfl) rfl rfl rfl (v := fun x4 => .agg #[.int .i64 ((((l1.getD (s2 : Int).toNat default)).1)), .int .i64 ((((l1.getD (s2 : Int).toNat default)).2.1)), str ((((l1.getD (s2 : Int).toNat default)).2.2))]) (hs' := fun x4 => Ro el2 A0 c0 l0 :: Ro el2 A1 c1 l1 :: hs) (fun _ => rfl) (fun _ => rfl) (fun x4 => ?_)
    refine T.neS (.plan rfl) rfl (wants0 rfl) rfl rfl rfl (by kernel_rfl) (by kernel_rfl) (by kernel_rfl) (l := [(3, 0), (3, 1), (9, 2)]) (by kernel_rfl) (.int rfl rfl (.int rfl rfl (.str rfl rfl .nil))) (b' := (decide ((l0.getD (s2 : Int).toNat default) = (l1.getD (s2 : Int).toNat default)))) (by rw [Bool.eq_iff_iff]; simp [Prod.ext_iff]) ?_
    refine T.planEnd ?_
    refine st ?_
    refine A.cd he1 rfl (fun hb3 he1 => ?_) (fun hb3 he1 => ?_)
    ·refine sq ?_
     obtain rfl := inv_some he1
     obtain rfl := hx1 _ rfl
     refine st ?_
     obtain rfl := inv_some hr
     refine pk [] 2 ?_
     refine T.ret1 rfl rfl (fun w hS => ⟨(), rfl, hS⟩)
    ·refine T.skip ?_
     refine sx ?_
     refine T.region ?_
     refine sx ?_
     obtain rfl := inv_some he1
     exact jn [0, 1] 2 (hm1 (IntKind.i64.wrap (s2 + 1)) rfl ())
   ·refine T.exit ?_
    refine sx ?_
    obtain rfl := inv_some he1
    obtain rfl := hx1 _ rfl
    refine sx ?_
    exact T.le EnvLe.nil (T.pick [] 2 rfl rfl nla rfl (J1 () () hr))

noncomputable def schema_Same.impl (a0 : ty6) (a1 : ty6) : Option Bool :=
  (if ((decide (a0.1 = a1.1))) = true then (slices_Equal_api_Column_api_Column_.impl a0.2.1 a1.2.1).bind fun r1 => (if r1 = true then (slices_Equal_api_Index_api_Index_.impl a0.2.2 a1.2.2).bind fun r2 => some r2 else some false) else some false)
theorem schema_Same.c {a0 : ty6} {i0a c0a : Nat} {A0a : Option Addr} {i0b c0b : Nat} {A0b : Option Addr} {a1 : ty6} {i1a c1a : Nat} {A1a : Option Addr} {i1b c1b : Nat} {A1b : Option Addr} (hB : Base B) (hS : St B (hs) w) (h0a : (hs)[i0a]? = some (Ro el9 A0a c0a a0.2.1)) (h0b : (hs)[i0b]? = some (Ro el11 A0b c0b a0.2.2)) (h1a : (hs)[i1a]? = some (Ro el9 A1a c1a a1.2.1)) (h1b : (hs)[i1b]? = some (Ro el11 A1b c1b a1.2.2)) {r : Bool} (hr : schema_Same.impl a0 a1 = some r) :
    Calls Tryd.prog 57 #[.agg #[str a0.1, .slice A0a a0.2.1.length c0a, .slice A0b a0.2.2.length c0b], .agg #[str a1.1, .slice A1a a1.2.1.length c1a, .slice A1b a1.2.2.length c1b]] w fun e w' => ∃ x : Unit, e = .returned (.bool r) ∧ St B (hs) w' := by
 unfold schema_Same.impl at hr
 refine calls_T Tryd.func57 rfl rfl rfl hS ?_
 refine T.front i0a h0a ?_
 refine T.front (i0b + 1) h0b ?_
 refine T.front (i1a + 2) h1a ?_
 refine T.front (i1b + 3) h1b ?_
 refine sq ?_
 refine A.bx rfl rfl (fun b1 => ?_)
 refine A.bx rfl rfl (fun b2 => ?_)
 refine sq ?_
 refine T.strEq .list rfl (wants0 rfl) rfl (l := a0.1) (l' := a1.1) rfl rfl ?_
 refine st ?_
 refine br hr (fun hb1 hr => ?_) (fun hb1 hr => ?_)
 ·refine st ?_
  obtain ⟨r1, hg1, hr⟩ := inv_bind hr
  refine A.c2g rfl rfl hb1 rfl rfl rfl Tryd.func78 rfl (fun w hS => slices_Equal_api_Column_api_Column_.c hB hS (i0 := 5) (i1 := 3) rfl rfl hg1) (fun x1 => ?_)
  refine st ?_
  refine br hr (fun hb2 hr => ?_) (fun hb2 hr => ?_)
  ·refine st ?_
   obtain ⟨r2, hg2, hr⟩ := inv_bind hr
   refine A.c2g rfl rfl hb2 rfl rfl rfl Tryd.func79 rfl (fun w hS => slices_Equal_api_Index_api_Index_.c hB hS (i0 := 4) (i1 := 2) rfl rfl hg2) (fun x2 => ?_)
   refine st ?_
   obtain rfl := inv_some hr
   refine pk [] 6 ?_
   refine T.ret1 rfl rfl (fun w hS => ⟨(), rfl, hS⟩)
  ·refine st ?_
   obtain rfl := inv_some hr
   refine pk [] 6 ?_
   refine T.ret1 rfl rfl (fun w hS => ⟨(), rfl, hS⟩)
 ·refine st ?_
  obtain rfl := inv_some hr
  refine pk [] 6 ?_
  refine T.ret1 rfl rfl (fun w hS => ⟨(), rfl, hS⟩)

noncomputable def schema_SameRow.impl (l0 : List ty4) (l1 : List ty4) : Option Bool :=
  (slices_Equal_api_Value_api_Value_.impl l0 l1).bind fun r1 => some r1
theorem schema_SameRow.c {i0 c0 : Nat} {A0 : Option Addr} {l0 : List ty4} {i1 c1 : Nat} {A1 : Option Addr} {l1 : List ty4} (hB : Base B) (hS : St B (hs) w) (h0 : (hs)[i0]? = some (Ro el2 A0 c0 l0)) (h1 : (hs)[i1]? = some (Ro el2 A1 c1 l1)) {r : Bool} (hr : schema_SameRow.impl l0 l1 = some r) :
    Calls Tryd.prog 58 #[.slice A0 l0.length c0, .slice A1 l1.length c1] w fun e w' => ∃ x : Unit, e = .returned (.bool r) ∧ St B (hs) w' := by
 unfold schema_SameRow.impl at hr
 refine calls_T Tryd.func58 rfl rfl rfl hS ?_
 refine T.front i0 h0 ?_
 refine T.front (i1 + 1) h1 ?_
 refine sq ?_
 obtain ⟨r1, hg1, hr⟩ := inv_bind hr
 refine A.c2 rfl rfl rfl Tryd.func80 rfl (fun w hS => slices_Equal_api_Value_api_Value_.c hB hS (i0 := 1) (i1 := 0) rfl rfl hg1) (fun x1 => ?_)
 refine st ?_
 obtain rfl := inv_some hr
 refine pk [] 2 ?_
 refine T.ret1 rfl rfl (fun w hS => ⟨(), rfl, hS⟩)
end Go.Proofs.YtpogdeibkghhaaaDoor
