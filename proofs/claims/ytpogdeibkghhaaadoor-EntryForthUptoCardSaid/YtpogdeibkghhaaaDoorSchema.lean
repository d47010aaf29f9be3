/- Schema: what the functions compute, and that the program computes it; printed by a program of ours. -/
import Derived.Test.YtpogdeibkghhaaaDoorWire
import Derived.Test.YtpogdeibkghhaaaDoorCks
set_option linter.unusedVariables false
set_option linter.unusedSimpArgs false
namespace Go.Proofs.YtpogdeibkghhaaaDoor
open Go.RowKit
noncomputable def schema_Name.k1 (s1 : Int) : Option Bool :=
  (if ((decide ((1 : Int) ≤ s1))) = true then some (decide (s1 ≤ 8)) else some false)
noncomputable def schema_Name.k2 (s2 : Int × Nat) (l0 : List UInt8) (s3 : Bool) : Option ((Int × Nat) ⊕ (Bool ⊕ Int)) :=
  (if s3 = true then some (.inr (.inl false)) else some (.inl (IntKind.i64.wrap (s2.1 + 1), (s2.2 + (runeAt l0 s2.2).2))))
noncomputable def schema_Name.st1 (l0 : List UInt8) (s2 : Int × Nat) : Option ((Int × Nat) ⊕ (Bool ⊕ Int)) :=
  (if ((decide (s2.2 < l0.length))) = true then (if ((decide (((((runeAt l0 s2.2).1 : Int))) < 97))) = true then schema_Name.k2 s2 l0 true else schema_Name.k2 s2 l0 (decide ((122 : Int) < (((runeAt l0 s2.2).1 : Int))))) else some (.inr (.inr s2.1)))
noncomputable def schema_Name.impl (l0 : List UInt8) : Option Bool :=
  (loop (schema_Name.st1 l0) (0, 0)).bind (fun e1 => match e1 with | .inl v => some v | .inr v => schema_Name.k1 v)
set_option maxRecDepth 100000 in
set_option maxHeartbeats 4000000 in
theorem schema_Name.c {B : World} {hs : List MP} {w : World} {l0 : List UInt8} (hB : Base B) (hS : St B hs w) {r : Bool} (hr : schema_Name.impl l0 = some r) :
    Calls Tryd.prog 84 #[str l0] w fun e w' => ∃ x : Unit, e = .returned (.bool r) ∧ St B hs w' := by
 unfold schema_Name.impl at hr
 refine calls_T Tryd.func84 rfl rfl rfl hS ?_
 refine T.seq (T.region (T.asg rfl rfl rfl rfl (T.nil (T.then_normal (T.seq (T.region (T.asg rfl rfl rfl rfl (T.nil (T.then_normal ?_)))))))))
 refine T.seqJ (fun (s1 : Int) (x1 : Unit) => [(3, .int .i64 s1)]) (fun s1 x1 => hs) (fun s1 => schema_Name.k1 s1 = some r) (fun s1 x1 hk1 => ?_) (fun J1 => ?_)
 ·unfold schema_Name.k1 at hk1
  refine T.seq (T.region (T.mv rfl rfl rfl rfl (T.bin .list rfl w0 rfl rfl rfl rfl (T.mv rfl rfl rfl rfl ?_))))
  refine T.bool (b := (decide ((1 : Int) ≤ s1))) (fun hb1 => ?_) (fun hb1 => ?_)
  ·replace hk1 := inv_posB hb1 hk1
   refine T.move .list rfl (wants1 rfl rfl rfl hb1) rfl rfl (T.bin .list rfl (wants1 rfl rfl rfl hb1) rfl rfl rfl rfl (T.pickT .list rfl w0 rfl rfl hb1 rfl (T.asg rfl rfl rfl rfl (T.nil (T.then_normal (T.ret ?_))))))
   obtain rfl := inv_some hk1
   refine T.pick [] 0 rfl rfl nla rfl ?_
   refine T.ret1 rfl rfl (fun w hS => ⟨(), rfl, hS⟩)
  ·replace hk1 := inv_negB hb1 hk1
   refine T.lv rfl rfl rfl hb1 rfl (T.lv rfl rfl rfl hb1 rfl (T.pickF .list rfl w0 rfl rfl hb1 rfl (T.asg rfl rfl rfl rfl (T.nil (T.then_normal (T.ret ?_))))))
   obtain rfl := inv_some hk1
   refine T.pick [] 0 rfl rfl nla rfl ?_
   refine T.ret1 rfl rfl (fun w hS => ⟨(), rfl, hS⟩)
 ·refine T.seq (T.region (T.mv rfl rfl rfl rfl ?_))
  refine T.range .list rfl w0 rfl (l := l0) rfl (fun b1 => ?_)
  refine T.nil (T.then_normal (T.block ?_))
  obtain ⟨e1, hl1, hr⟩ := inv_bind hr
  refine T.le (EnvLe.cons rfl (EnvLe.cons rfl EnvLe.nil)) (T.pick [0] 1 rfl rfl nla rfl (T.loop (s0 := (0, 0)) (env := fun s2 x2 => [(3, .int .i64 s2.1), (7, .pointer (some ⟨b1, 0, none⟩))]) (hs := fun (s2 : Int × Nat) (x2 : Unit) => It b1 l0 s2.2 :: hs) hl1 () (fun K1 s2 x2 o1 he1 hm1 hx1 => ?_)))
  unfold schema_Name.st1 at he1
  refine T.seq (T.region ?_)
  refine T.bool (b := (decide (s2.2 < l0.length))) (fun hb2 => ?_) (fun hb2 => ?_)
  ·replace he1 := inv_posB hb2 he1
   refine T.nextMore .list 0 rfl rfl w0 rfl rfl hb2 rfl (T.extract .list rfl w0 rfl rfl rfl (T.nil (T.then_normal (T.seq (T.condT rfl rfl (T.skip (T.then_normal (T.block (T.seq (T.region (T.extract .list rfl w0 rfl rfl rfl ?_)))))))))))
   refine T.asg rfl rfl rfl rfl (T.nil (T.then_normal (T.seq ?_)))
   refine T.seqJ (fun (s3 : Bool) (x3 : Unit) => [(3, .int .i64 s2.1), (7, .pointer (some ⟨b1, 0, none⟩)), (16, .bool s3)]) (fun s3 x3 => It b1 l0 ((s2.2 + (runeAt l0 s2.2).2)) :: hs) (fun s3 => schema_Name.k2 s2 l0 s3 = some o1) (fun s3 x3 hk2 => ?_) (fun J2 => ?_)
   ·unfold schema_Name.k2 at hk2
    refine T.cond rfl (fun hb3 => ?_) (fun hb3 => ?_)
    ·replace hk2 := inv_posB hb3 hk2
     refine T.seq (T.region (T.asg rfl rfl rfl rfl (T.nil (T.then_normal (T.ret (T.then_ret (T.in_ret (T.then_ret ?_))))))))
     obtain rfl := inv_some hk2
     obtain rfl := hx1 _ rfl
     refine T.in_ret (T.then_ret ?_)
     obtain rfl := inv_some hr
     refine T.pick [] 1 rfl rfl nla rfl ?_
     refine T.ret1 rfl rfl (fun w hS => ⟨(), rfl, hS⟩)
    ·replace hk2 := inv_negB hb3 hk2
     refine T.skip (T.then_normal (T.region (T.mv rfl rfl rfl rfl (T.bin .list rfl w0 rfl rfl rfl rfl (T.asg rfl rfl rfl rfl (T.nil (T.in_normal (T.then_normal ?_))))))))
     obtain rfl := inv_some hk2
     exact T.le (EnvLe.cons rfl (EnvLe.cons rfl EnvLe.nil)) (T.pick [0] 1 rfl rfl nla rfl (hm1 (IntKind.i64.wrap (s2.1 + 1), (s2.2 + (runeAt l0 s2.2).2)) rfl ()))
   ·refine T.region (T.mv rfl rfl rfl rfl (T.bin .list rfl w0 rfl rfl rfl rfl (T.mv rfl rfl rfl rfl ?_)))
    refine T.bool (b := (decide (((((runeAt l0 s2.2).1 : Int))) < 97))) (fun hb4 => ?_) (fun hb4 => ?_)
    ·replace he1 := inv_posB hb4 he1
     refine T.lv rfl rfl rfl hb4 rfl (T.lv rfl rfl rfl hb4 rfl (T.pickT .list rfl w0 rfl rfl hb4 rfl (T.nil (T.then_normal ?_))))
     exact T.le (EnvLe.cons rfl (EnvLe.cons rfl (EnvLe.cons rfl EnvLe.nil))) (T.pick [0] 1 rfl rfl nla rfl (J2 true () he1))
    ·replace he1 := inv_negB hb4 he1
     refine T.move .list rfl (wants1 rfl rfl rfl hb4) rfl rfl (T.bin .list rfl (wants1 rfl rfl rfl hb4) rfl rfl rfl rfl (T.pickF .list rfl w0 rfl rfl hb4 rfl (T.nil (T.then_normal ?_))))
     exact T.le (EnvLe.cons rfl (EnvLe.cons rfl (EnvLe.cons rfl EnvLe.nil))) (T.pick [0] 1 rfl rfl nla rfl (J2 (decide ((122 : Int) < (((runeAt l0 s2.2).1 : Int)))) () he1))
  ·replace he1 := inv_negB hb2 he1
   refine T.nextOver .list 0 rfl rfl w0 rfl rfl hb2 (T.extract .list rfl w0 rfl rfl rfl (T.nil (T.then_normal (T.seq (T.condF rfl rfl (T.exit (T.then_exit (T.then_exit ?_))))))))
   obtain rfl := inv_some he1
   obtain rfl := hx1 _ rfl
   refine T.in_hit (T.then_normal ?_)
   exact T.le (EnvLe.cons rfl EnvLe.nil) (T.pick [] 1 rfl rfl nla rfl (J1 s2.1 () hr))

noncomputable def schema_column.k1 (a0 : (List UInt8) × Int × Int) (s1 : Bool) : Option Bool :=
  (if s1 = true then (schema_Name.impl a0.1).bind fun r2 => (if r2 = true then some (decide (a0.2.2 = 0)) else some false) else some false)
noncomputable def schema_column.impl (a0 : (List UInt8) × Int × Int) : Option Bool :=
  (if ((decide (a0.2.1 = 2))) = true then (schema_Name.impl a0.1).bind fun r1 => (if r1 = true then (if ((decide ((1 : Int) ≤ a0.2.2))) = true then some (decide (a0.2.2 ≤ 8)) else some false) else some false) else (if ((decide (a0.2.1 = 1))) = true then schema_column.k1 a0 (decide (a0.2.1 = 1)) else schema_column.k1 a0 (decide (a0.2.1 = 3))))
set_option maxRecDepth 100000 in
set_option maxHeartbeats 4000000 in
theorem schema_column.c {B : World} {hs : List MP} {w : World} {a0 : (List UInt8) × Int × Int} (hB : Base B) (hS : St B hs w) {r : Bool} (hr : schema_column.impl a0 = some r) :
    Calls Tryd.prog 87 #[.agg #[str a0.1, .int .i64 a0.2.1, .int .i64 a0.2.2]] w fun e w' => ∃ x : Unit, e = .returned (.bool r) ∧ St B hs w' := by
 unfold schema_column.impl at hr
 refine calls_T Tryd.func87 rfl rfl rfl hS ?_
 refine T.seq (T.region ?_)
 refine T.boxS .list rfl w0 rfl rfl (cs := [str a0.1, .int .i64 a0.2.1, .int .i64 a0.2.2]) rfl (fun b1 => ?_)
 refine T.asg rfl rfl rfl rfl (T.nil (T.then_normal (T.seq (T.seq (T.region (T.field .list rfl w0 rfl rfl (T.load .list 0 rfl rfl w0 rfl rfl rfl (T.nil (T.then_normal (T.block (T.seq ?_)))))))))))
 refine T.region (T.bin .list rfl w0 rfl rfl rfl rfl (T.asg rfl rfl rfl rfl (T.nil (T.then_normal ?_))))
 refine T.cond rfl (fun hb1 => ?_) (fun hb1 => ?_)
 ·replace hr := inv_posB hb1 hr
  refine T.seq (T.region (T.field .list rfl w0 rfl rfl (T.load .list 0 rfl rfl w0 rfl rfl rfl ?_)))
  obtain ⟨r1, hg1, hr⟩ := inv_bind hr
  refine T.call .list w0 rfl (run_callF (vs := [_]) rfl Tryd.func84 rfl (by decide) rfl) (fun w hS => schema_Name.c hB hS  hg1) (fun x1 => ?_)
  refine T.mv rfl rfl rfl rfl ?_
  refine T.bool (b := r1) (fun hb2 => ?_) (fun hb2 => ?_)
  ·replace hr := inv_posB hb2 hr
   refine T.field .list rfl (wants1 rfl rfl rfl hb2) rfl rfl (T.load .list 0 rfl rfl (wants1 rfl rfl rfl hb2) rfl rfl rfl (T.bin .list rfl (wants1 rfl rfl rfl hb2) rfl rfl rfl rfl (T.pickT .list rfl w0 rfl rfl hb2 rfl (T.mv rfl rfl rfl rfl ?_))))
   refine T.bool (b := (decide ((1 : Int) ≤ a0.2.2))) (fun hb3 => ?_) (fun hb3 => ?_)
   ·replace hr := inv_posB hb3 hr
    refine T.field .list rfl (wants1 rfl rfl rfl hb3) rfl rfl (T.load .list 0 rfl rfl (wants1 rfl rfl rfl hb3) rfl rfl rfl (T.bin .list rfl (wants1 rfl rfl rfl hb3) rfl rfl rfl rfl (T.pickT .list rfl w0 rfl rfl hb3 rfl (T.asg rfl rfl rfl rfl (T.nil (T.then_normal (T.ret (T.in_ret (T.then_ret ?_)))))))))
    obtain rfl := inv_some hr
    refine T.pick [] 1 rfl rfl nla rfl ?_
    refine T.ret1 rfl rfl (fun w hS => ⟨(), rfl, hS⟩)
   ·replace hr := inv_negB hb3 hr
    refine T.lv rfl rfl rfl hb3 rfl (T.lv rfl rfl rfl hb3 rfl (T.lv rfl rfl rfl hb3 rfl (T.pickF .list rfl w0 rfl rfl hb3 rfl (T.asg rfl rfl rfl rfl (T.nil (T.then_normal (T.ret (T.in_ret (T.then_ret ?_)))))))))
    obtain rfl := inv_some hr
    refine T.pick [] 1 rfl rfl nla rfl ?_
    refine T.ret1 rfl rfl (fun w hS => ⟨(), rfl, hS⟩)
  ·replace hr := inv_negB hb2 hr
   refine T.lv rfl rfl rfl hb2 rfl (T.lv rfl rfl rfl hb2 rfl (T.lv rfl rfl rfl hb2 rfl (T.pickF .list rfl w0 rfl rfl hb2 rfl (T.mv rfl rfl rfl rfl (T.lv rfl rfl rfl rfl rfl (T.lv rfl rfl rfl rfl rfl (T.lv rfl rfl rfl rfl rfl (T.pickF .list rfl w0 rfl rfl rfl rfl (T.asg rfl rfl rfl rfl (T.nil (T.then_normal ?_)))))))))))
   refine T.ret (T.in_ret (T.then_ret ?_))
   obtain rfl := inv_some hr
   refine T.pick [] 1 rfl rfl nla rfl ?_
   refine T.ret1 rfl rfl (fun w hS => ⟨(), rfl, hS⟩)
 ·replace hr := inv_negB hb1 hr
  refine T.seqJ (fun (s1 : Bool) (x2 : Unit) => [(1, .pointer (some ⟨b1, 0, none⟩)), (20, .bool s1)]) (fun s1 x2 => Cl b1 129 [str a0.1, .int .i64 a0.2.1, .int .i64 a0.2.2] :: hs) (fun s1 => schema_column.k1 a0 s1 = some r) (fun s1 x2 hk1 => ?_) (fun J1 => ?_)
  ·unfold schema_column.k1 at hk1
   refine T.cond rfl (fun hb4 => ?_) (fun hb4 => ?_)
   ·replace hk1 := inv_posB hb4 hk1
    refine T.seq (T.region (T.field .list rfl w0 rfl rfl (T.load .list 0 rfl rfl w0 rfl rfl rfl ?_)))
    obtain ⟨r2, hg2, hk1⟩ := inv_bind hk1
    refine T.call .list w0 rfl (run_callF (vs := [_]) rfl Tryd.func84 rfl (by decide) rfl) (fun w hS => schema_Name.c hB hS  hg2) (fun x3 => ?_)
    refine T.mv rfl rfl rfl rfl ?_
    refine T.bool (b := r2) (fun hb5 => ?_) (fun hb5 => ?_)
    ·replace hk1 := inv_posB hb5 hk1
     refine T.field .list rfl (wants1 rfl rfl rfl hb5) rfl rfl (T.load .list 0 rfl rfl (wants1 rfl rfl rfl hb5) rfl rfl rfl (T.bin .list rfl (wants1 rfl rfl rfl hb5) rfl rfl rfl rfl (T.pickT .list rfl w0 rfl rfl hb5 rfl (T.asg rfl rfl rfl rfl (T.nil (T.then_normal (T.ret (T.in_ret (T.then_ret ?_)))))))))
     obtain rfl := inv_some hk1
     refine T.pick [] 1 rfl rfl nla rfl ?_
     refine T.ret1 rfl rfl (fun w hS => ⟨(), rfl, hS⟩)
    ·replace hk1 := inv_negB hb5 hk1
     refine T.lv rfl rfl rfl hb5 rfl (T.lv rfl rfl rfl hb5 rfl (T.lv rfl rfl rfl hb5 rfl (T.pickF .list rfl w0 rfl rfl hb5 rfl (T.asg rfl rfl rfl rfl (T.nil (T.then_normal (T.ret (T.in_ret (T.then_ret ?_)))))))))
     obtain rfl := inv_some hk1
     refine T.pick [] 1 rfl rfl nla rfl ?_
     refine T.ret1 rfl rfl (fun w hS => ⟨(), rfl, hS⟩)
   ·replace hk1 := inv_negB hb4 hk1
    refine T.skip (T.in_normal (T.then_normal (T.seq (T.region (T.asg rfl rfl rfl rfl (T.nil (T.then_normal (T.ret ?_))))))))
    obtain rfl := inv_some hk1
    refine T.pick [] 1 rfl rfl nla rfl ?_
    refine T.ret1 rfl rfl (fun w hS => ⟨(), rfl, hS⟩)
  ·refine T.seq (T.region (T.bin .list rfl w0 rfl rfl rfl rfl (T.asg rfl rfl rfl rfl (T.nil (T.then_normal ?_)))))
   refine T.cond rfl (fun hb6 => ?_) (fun hb6 => ?_)
   ·replace hr := inv_posB hb6 hr
    refine T.skip (T.then_normal ?_)
    exact T.le (EnvLe.cons rfl (EnvLe.cons rfl EnvLe.nil)) (T.pick [0] 1 rfl rfl nla rfl (J1 (decide (a0.2.1 = 1)) () hr))
   ·replace hr := inv_negB hb6 hr
    refine T.region (T.bin .list rfl w0 rfl rfl rfl rfl (T.asg rfl rfl rfl rfl (T.nil (T.then_normal ?_))))
    exact T.le (EnvLe.cons rfl (EnvLe.cons rfl EnvLe.nil)) (T.pick [0] 1 rfl rfl nla rfl (J1 (decide (a0.2.1 = 3)) () hr))

noncomputable def schema_Right_1.impl (a0 : (List UInt8) × Int × Int) (ok0 : List UInt8 × Int × Int) : Option Bool :=
  some (decide (a0.1 = ok0.1))
set_option maxRecDepth 100000 in
set_option maxHeartbeats 4000000 in
theorem schema_Right_1.c {B : World} {hs : List MP} {w : World} {a0 : (List UInt8) × Int × Int} {pk0 : Nat} {ok0 : List UInt8 × Int × Int} (hB : Base B) (hS : St B (Cl pk0 129 [str ok0.1, .int .i64 ok0.2.1, .int .i64 ok0.2.2] :: hs) w) {r : Bool} (hr : schema_Right_1.impl a0 ok0 = some r) :
    Calls Tryd.prog 86 #[.agg #[str a0.1, .int .i64 a0.2.1, .int .i64 a0.2.2], .pointer (some ⟨pk0, 0, none⟩)] w fun e w' => ∃ x : Unit, e = .returned (.bool r) ∧ St B (Cl pk0 129 [str ok0.1, .int .i64 ok0.2.1, .int .i64 ok0.2.2] :: hs) w' := by
 unfold schema_Right_1.impl at hr
 refine calls_T Tryd.func86 rfl rfl rfl hS ?_
 refine T.seq (T.region ?_)
 refine T.boxS .list rfl w0 rfl rfl (cs := [str a0.1, .int .i64 a0.2.1, .int .i64 a0.2.2]) rfl (fun b1 => ?_)
 refine T.asg rfl rfl rfl rfl (T.nil (T.then_normal (T.seq (T.region (T.field .list rfl w0 rfl rfl (T.load .list 0 rfl rfl w0 rfl rfl rfl (T.field .list rfl w0 rfl rfl (T.load .list 1 rfl rfl w0 rfl rfl rfl (T.strEq .list rfl w0 rfl (l := a0.1) (l' := ok0.1) rfl rfl (T.asg rfl rfl rfl rfl (T.nil ?_)))))))))))
 refine T.then_normal (T.ret ?_)
 obtain rfl := inv_some hr
 refine T.pick [1] 2 rfl rfl nla rfl ?_
 refine T.ret1 rfl rfl (fun w hS => ⟨(), rfl, hS⟩)

noncomputable def slices_IndexFunc_api_Column_api_Column__schema_Right_1.k1 (s1 : Unit) : Option Int :=
  some (-1)
noncomputable def slices_IndexFunc_api_Column_api_Column__schema_Right_1.st1 (l0 : List ((List UInt8) × Int × Int)) (o1c0 : List UInt8 × Int × Int) (s2 : Int) : Option (Int ⊕ (Int ⊕ Unit)) :=
  (if ((decide (s2 < ((l0.length : Int))))) = true then chk (0 ≤ s2 ∧ s2 < (l0.length : Int)) ((schema_Right_1.impl (((l0).getD (s2 : Int).toNat default)) o1c0).bind fun r1 => (if r1 = true then some (.inr (.inl s2)) else some (.inl (IntKind.i64.wrap (s2 + 1))))) else some (.inr (.inr ())))
noncomputable def slices_IndexFunc_api_Column_api_Column__schema_Right_1.impl (l0 : List ((List UInt8) × Int × Int)) (o1c0 : List UInt8 × Int × Int) : Option Int :=
  (loop (slices_IndexFunc_api_Column_api_Column__schema_Right_1.st1 l0 o1c0) 0).bind (fun e1 => match e1 with | .inl v => some v | .inr v => slices_IndexFunc_api_Column_api_Column__schema_Right_1.k1 v)
set_option maxRecDepth 100000 in
set_option maxHeartbeats 4000000 in
theorem slices_IndexFunc_api_Column_api_Column__schema_Right_1.c {B : World} {hs : List MP} {w : World} {i0 c0 : Nat} {A0 : Option Addr} {l0 : List ((List UInt8) × Int × Int)} {p1c0 : Nat} {o1c0 : List UInt8 × Int × Int} (hB : Base B) (hS : St B (Cl p1c0 129 [str o1c0.1, .int .i64 o1c0.2.1, .int .i64 o1c0.2.2] :: hs) w) (h0 : (Cl p1c0 129 [str o1c0.1, .int .i64 o1c0.2.1, .int .i64 o1c0.2.2] :: hs)[i0]? = some (Ro (Elt.pair EStr (Elt.pair E64 E64)) A0 c0 l0)) {r : Int} (hr : slices_IndexFunc_api_Column_api_Column__schema_Right_1.impl l0 o1c0 = some r) :
    Calls Tryd.prog 97 #[.slice A0 l0.length c0, .func (.func 86) #[] #[.pointer (some ⟨p1c0, 0, none⟩)]] w fun e w' => ∃ x : Unit, e = .returned (.int .i64 r) ∧ St B (Cl p1c0 129 [str o1c0.1, .int .i64 o1c0.2.1, .int .i64 o1c0.2.2] :: hs) w' := by
 unfold slices_IndexFunc_api_Column_api_Column__schema_Right_1.impl at hr
 refine calls_T Tryd.func97 rfl rfl rfl hS ?_
 refine T.front i0 h0 (T.seq (T.region (T.asg rfl rfl rfl rfl (T.nil (T.then_normal ?_)))))
 refine T.seqJ (fun (s1 : Unit) (x1 : Unit) => []) (fun s1 x1 => Cl p1c0 129 [str o1c0.1, .int .i64 o1c0.2.1, .int .i64 o1c0.2.2] :: hs) (fun s1 => slices_IndexFunc_api_Column_api_Column__schema_Right_1.k1 s1 = some r) (fun s1 x1 hk1 => ?_) (fun J1 => ?_)
 ·unfold slices_IndexFunc_api_Column_api_Column__schema_Right_1.k1 at hk1
  refine T.seq (T.region (T.asg rfl rfl rfl rfl (T.nil (T.then_normal (T.ret ?_)))))
  obtain rfl := inv_some hk1
  refine T.pick [0] 1 rfl rfl nla rfl ?_
  refine T.ret1 rfl rfl (fun w hS => ⟨(), rfl, hS⟩)
 ·refine T.seq (T.region (T.mv rfl rfl rfl rfl (T.lenSlice .list rfl w0 rfl rfl (T.mv rfl rfl rfl rfl (T.nil (T.then_normal (T.block ?_)))))))
  obtain ⟨e1, hl1, hr⟩ := inv_bind hr
  refine T.le (EnvLe.cons rfl (EnvLe.cons rfl (EnvLe.cons rfl (EnvLe.cons rfl EnvLe.nil)))) (T.pick [0, 1] 2 rfl rfl nla rfl (T.loop (s0 := 0) (env := fun s2 x2 => [(0, .slice A0 l0.length c0), (1, .func (.func 86) #[] #[.pointer (some ⟨p1c0, 0, none⟩)]), (7, .int .i64 ((l0.length : Int))), (8, .int .i64 s2)]) (hs := fun (s2 : Int) (x2 : Unit) => Ro (Elt.pair EStr (Elt.pair E64 E64)) A0 c0 l0 :: Cl p1c0 129 [str o1c0.1, .int .i64 o1c0.2.1, .int .i64 o1c0.2.2] :: hs) hl1 () (fun K1 s2 x2 o1 he1 hm1 hx1 => ?_)))
  unfold slices_IndexFunc_api_Column_api_Column__schema_Right_1.st1 at he1
  refine T.seq (T.region (T.bin .list rfl w0 rfl rfl rfl rfl (T.nil (T.then_normal (T.seq ?_)))))
  refine T.cond rfl (fun hb1 => ?_) (fun hb1 => ?_)
  ·replace he1 := inv_posB hb1 he1
   refine T.skip (T.then_normal (T.seq (T.block (T.seq (T.region (T.mv rfl rfl rfl rfl (T.asg rfl rfl rfl rfl (T.nil (T.then_normal (T.seq (T.region ?_)))))))))))
   refine T.mv rfl rfl rfl rfl (T.mv rfl rfl rfl rfl (T.mv rfl rfl rfl rfl ?_))
   obtain ⟨hc1, he1⟩ := inv_chk he1
   refine T.idxRo .list 0 rfl rfl w0 rfl rfl rfl hc1.1 hc1.2 (Nat.le_refl _) ?_
   refine T.ldFRo 0 .list Fd.self (Sh.pair Sh.sc (Sh.pair Sh.sc Sh.sc)) rfl (.inl rfl) rfl rfl hc1.1 hc1.2 rfl w0 rfl rfl rfl (v := fun x3 => .agg #[str (((((l0).getD (s2 : Int).toNat default)).1)), .int .i64 (((((l0).getD (s2 : Int).toNat default)).2.1)), .int .i64 (((((l0).getD (s2 : Int).toNat default)).2.2))]) (hs' := fun x3 => Ro (Elt.pair EStr (Elt.pair E64 E64)) A0 c0 l0 :: Cl p1c0 129 [str o1c0.1, .int .i64 o1c0.2.1, .int .i64 o1c0.2.2] :: hs) (fun _ => rfl) (fun _ => rfl) (fun x3 => ?_)
   refine T.pick [1, 0] 2 rfl rfl nla (hs' := Cl p1c0 129 [str o1c0.1, .int .i64 o1c0.2.1, .int .i64 o1c0.2.2] :: Ro (Elt.pair EStr (Elt.pair E64 E64)) A0 c0 l0 :: hs) rfl ?_
   obtain ⟨r1, hg1, he1⟩ := inv_bind he1
   refine T.call .list w0 rfl (run_callV (vs := [_]) (caps := [.pointer (some ⟨p1c0, 0, none⟩)]) (args := [_, .pointer (some ⟨p1c0, 0, none⟩)]) rfl rfl Tryd.func86 rfl (by decide) rfl rfl) (fun w hS => schema_Right_1.c hB hS (a0 := ((l0).getD (s2 : Int).toNat default)) (ok0 := o1c0)  hg1) (fun x4 => ?_)
   refine T.nil (T.then_normal ?_)
   refine T.cond rfl (fun hb2 => ?_) (fun hb2 => ?_)
   ·replace he1 := inv_posB hb2 he1
    refine T.seq (T.region (T.mv rfl rfl rfl rfl (T.asg rfl rfl rfl rfl (T.nil (T.then_normal (T.ret (T.in_ret (T.then_ret (T.then_ret ?_)))))))))
    obtain rfl := inv_some he1
    obtain rfl := hx1 _ rfl
    refine T.in_ret (T.then_ret ?_)
    obtain rfl := inv_some hr
    refine T.pick [0] 2 rfl rfl nla rfl ?_
    refine T.ret1 rfl rfl (fun w hS => ⟨(), rfl, hS⟩)
   ·replace he1 := inv_negB hb2 he1
    refine T.skip (T.in_normal (T.then_normal (T.region (T.bin .list rfl w0 rfl rfl rfl rfl (T.mv rfl rfl rfl rfl (T.nil (T.then_normal ?_)))))))
    obtain rfl := inv_some he1
    exact T.le (EnvLe.cons rfl (EnvLe.cons rfl (EnvLe.cons rfl (EnvLe.cons rfl EnvLe.nil)))) (T.pick [1, 0] 2 rfl rfl nla rfl (hm1 (IntKind.i64.wrap (s2 + 1)) rfl ()))
  ·replace he1 := inv_negB hb1 he1
   refine T.exit (T.then_exit (T.then_exit ?_))
   obtain rfl := inv_some he1
   obtain rfl := hx1 _ rfl
   refine T.in_hit (T.then_normal ?_)
   exact T.le EnvLe.nil (T.pick [1] 2 rfl rfl nla rfl (J1 () () hr))

noncomputable def slices_ContainsFunc_api_Column_api_Column__schema_Right_1.impl (l0 : List ((List UInt8) × Int × Int)) (o1c0 : List UInt8 × Int × Int) : Option Bool :=
  (slices_IndexFunc_api_Column_api_Column__schema_Right_1.impl l0 o1c0).bind fun r1 => some (decide ((0 : Int) ≤ r1))
set_option maxRecDepth 100000 in
set_option maxHeartbeats 4000000 in
theorem slices_ContainsFunc_api_Column_api_Column__schema_Right_1.c {B : World} {hs : List MP} {w : World} {i0 c0 : Nat} {A0 : Option Addr} {l0 : List ((List UInt8) × Int × Int)} {p1c0 : Nat} {o1c0 : List UInt8 × Int × Int} (hB : Base B) (hS : St B (Cl p1c0 129 [str o1c0.1, .int .i64 o1c0.2.1, .int .i64 o1c0.2.2] :: hs) w) (h0 : (Cl p1c0 129 [str o1c0.1, .int .i64 o1c0.2.1, .int .i64 o1c0.2.2] :: hs)[i0]? = some (Ro (Elt.pair EStr (Elt.pair E64 E64)) A0 c0 l0)) {r : Bool} (hr : slices_ContainsFunc_api_Column_api_Column__schema_Right_1.impl l0 o1c0 = some r) :
    Calls Tryd.prog 85 #[.slice A0 l0.length c0, .func (.func 86) #[] #[.pointer (some ⟨p1c0, 0, none⟩)]] w fun e w' => ∃ x : Unit, e = .returned (.bool r) ∧ St B (Cl p1c0 129 [str o1c0.1, .int .i64 o1c0.2.1, .int .i64 o1c0.2.2] :: hs) w' := by
 unfold slices_ContainsFunc_api_Column_api_Column__schema_Right_1.impl at hr
 refine calls_T Tryd.func85 rfl rfl rfl hS ?_
 refine T.front i0 h0 (T.seq (T.region (T.asg rfl rfl rfl rfl (T.nil (T.then_normal (T.seq (T.region (T.mv rfl rfl rfl rfl (T.mv rfl rfl rfl rfl (T.pick [1, 0] 2 rfl rfl nla (hs' := Cl p1c0 129 [str o1c0.1, .int .i64 o1c0.2.1, .int .i64 o1c0.2.2] :: Ro (Elt.pair EStr (Elt.pair E64 E64)) A0 c0 l0 :: hs) rfl ?_))))))))))
 obtain ⟨r1, hg1, hr⟩ := inv_bind hr
 refine T.call .list w0 rfl (run_callF (vs := [_, _]) rfl Tryd.func97 rfl (by decide) rfl) (fun w hS => slices_IndexFunc_api_Column_api_Column__schema_Right_1.c hB hS (i0 := 1) (o1c0 := o1c0) rfl hg1) (fun x1 => ?_)
 refine T.bin .list rfl w0 rfl rfl rfl rfl (T.asg rfl rfl rfl rfl (T.nil (T.then_normal (T.ret ?_))))
 obtain rfl := inv_some hr
 refine T.pick [0] 2 rfl rfl nla rfl ?_
 refine T.ret1 rfl rfl (fun w hS => ⟨(), rfl, hS⟩)

noncomputable def schema_Right_2.impl (a0 : Int × Bool) (ok0 : Int × Bool) : Option Bool :=
  some (decide (ok0.1 = a0.1))
set_option maxRecDepth 100000 in
set_option maxHeartbeats 4000000 in
theorem schema_Right_2.c {B : World} {hs : List MP} {w : World} {a0 : Int × Bool} {pk0 : Nat} {ok0 : Int × Bool} (hB : Base B) (hS : St B (Cl pk0 131 [.int .i64 ok0.1, .bool ok0.2] :: hs) w) {r : Bool} (hr : schema_Right_2.impl a0 ok0 = some r) :
    Calls Tryd.prog 89 #[.agg #[.int .i64 a0.1, .bool a0.2], .pointer (some ⟨pk0, 0, none⟩)] w fun e w' => ∃ x : Unit, e = .returned (.bool r) ∧ St B (Cl pk0 131 [.int .i64 ok0.1, .bool ok0.2] :: hs) w' := by
 unfold schema_Right_2.impl at hr
 refine calls_T Tryd.func89 rfl rfl rfl hS ?_
 refine T.seq (T.region ?_)
 refine T.boxS .list rfl w0 rfl rfl (cs := [.int .i64 a0.1, .bool a0.2]) rfl (fun b1 => ?_)
 refine T.asg rfl rfl rfl rfl (T.nil (T.then_normal (T.seq (T.region (T.field .list rfl w0 rfl rfl (T.load .list 1 rfl rfl w0 rfl rfl rfl (T.field .list rfl w0 rfl rfl (T.load .list 0 rfl rfl w0 rfl rfl rfl (T.bin .list rfl w0 rfl rfl rfl rfl (T.asg rfl rfl rfl rfl (T.nil ?_)))))))))))
 refine T.then_normal (T.ret ?_)
 obtain rfl := inv_some hr
 refine T.pick [1] 2 rfl rfl nla rfl ?_
 refine T.ret1 rfl rfl (fun w hS => ⟨(), rfl, hS⟩)

noncomputable def slices_IndexFunc_api_Index_api_Index__schema_Right_2.k1 (s1 : Unit) : Option Int :=
  some (-1)
noncomputable def slices_IndexFunc_api_Index_api_Index__schema_Right_2.st1 (l0 : List (Int × Bool)) (o1c0 : Int × Bool) (s2 : Int) : Option (Int ⊕ (Int ⊕ Unit)) :=
  (if ((decide (s2 < ((l0.length : Int))))) = true then chk (0 ≤ s2 ∧ s2 < (l0.length : Int)) ((schema_Right_2.impl (((l0).getD (s2 : Int).toNat default)) o1c0).bind fun r1 => (if r1 = true then some (.inr (.inl s2)) else some (.inl (IntKind.i64.wrap (s2 + 1))))) else some (.inr (.inr ())))
noncomputable def slices_IndexFunc_api_Index_api_Index__schema_Right_2.impl (l0 : List (Int × Bool)) (o1c0 : Int × Bool) : Option Int :=
  (loop (slices_IndexFunc_api_Index_api_Index__schema_Right_2.st1 l0 o1c0) 0).bind (fun e1 => match e1 with | .inl v => some v | .inr v => slices_IndexFunc_api_Index_api_Index__schema_Right_2.k1 v)
set_option maxRecDepth 100000 in
set_option maxHeartbeats 4000000 in
theorem slices_IndexFunc_api_Index_api_Index__schema_Right_2.c {B : World} {hs : List MP} {w : World} {i0 c0 : Nat} {A0 : Option Addr} {l0 : List (Int × Bool)} {p1c0 : Nat} {o1c0 : Int × Bool} (hB : Base B) (hS : St B (Cl p1c0 131 [.int .i64 o1c0.1, .bool o1c0.2] :: hs) w) (h0 : (Cl p1c0 131 [.int .i64 o1c0.1, .bool o1c0.2] :: hs)[i0]? = some (Ro (Elt.pair E64 EBool) A0 c0 l0)) {r : Int} (hr : slices_IndexFunc_api_Index_api_Index__schema_Right_2.impl l0 o1c0 = some r) :
    Calls Tryd.prog 98 #[.slice A0 l0.length c0, .func (.func 89) #[] #[.pointer (some ⟨p1c0, 0, none⟩)]] w fun e w' => ∃ x : Unit, e = .returned (.int .i64 r) ∧ St B (Cl p1c0 131 [.int .i64 o1c0.1, .bool o1c0.2] :: hs) w' := by
 unfold slices_IndexFunc_api_Index_api_Index__schema_Right_2.impl at hr
 refine calls_T Tryd.func98 rfl rfl rfl hS ?_
 refine T.front i0 h0 (T.seq (T.region (T.asg rfl rfl rfl rfl (T.nil (T.then_normal ?_)))))
 refine T.seqJ (fun (s1 : Unit) (x1 : Unit) => []) (fun s1 x1 => Cl p1c0 131 [.int .i64 o1c0.1, .bool o1c0.2] :: hs) (fun s1 => slices_IndexFunc_api_Index_api_Index__schema_Right_2.k1 s1 = some r) (fun s1 x1 hk1 => ?_) (fun J1 => ?_)
 ·unfold slices_IndexFunc_api_Index_api_Index__schema_Right_2.k1 at hk1
  refine T.seq (T.region (T.asg rfl rfl rfl rfl (T.nil (T.then_normal (T.ret ?_)))))
  obtain rfl := inv_some hk1
  refine T.pick [0] 1 rfl rfl nla rfl ?_
  refine T.ret1 rfl rfl (fun w hS => ⟨(), rfl, hS⟩)
 ·refine T.seq (T.region (T.mv rfl rfl rfl rfl (T.lenSlice .list rfl w0 rfl rfl (T.mv rfl rfl rfl rfl (T.nil (T.then_normal (T.block ?_)))))))
  obtain ⟨e1, hl1, hr⟩ := inv_bind hr
  refine T.le (EnvLe.cons rfl (EnvLe.cons rfl (EnvLe.cons rfl (EnvLe.cons rfl EnvLe.nil)))) (T.pick [0, 1] 2 rfl rfl nla rfl (T.loop (s0 := 0) (env := fun s2 x2 => [(0, .slice A0 l0.length c0), (1, .func (.func 89) #[] #[.pointer (some ⟨p1c0, 0, none⟩)]), (7, .int .i64 ((l0.length : Int))), (8, .int .i64 s2)]) (hs := fun (s2 : Int) (x2 : Unit) => Ro (Elt.pair E64 EBool) A0 c0 l0 :: Cl p1c0 131 [.int .i64 o1c0.1, .bool o1c0.2] :: hs) hl1 () (fun K1 s2 x2 o1 he1 hm1 hx1 => ?_)))
  unfold slices_IndexFunc_api_Index_api_Index__schema_Right_2.st1 at he1
  refine T.seq (T.region (T.bin .list rfl w0 rfl rfl rfl rfl (T.nil (T.then_normal (T.seq ?_)))))
  refine T.cond rfl (fun hb1 => ?_) (fun hb1 => ?_)
  ·replace he1 := inv_posB hb1 he1
   refine T.skip (T.then_normal (T.seq (T.block (T.seq (T.region (T.mv rfl rfl rfl rfl (T.asg rfl rfl rfl rfl (T.nil (T.then_normal (T.seq (T.region ?_)))))))))))
   refine T.mv rfl rfl rfl rfl (T.mv rfl rfl rfl rfl (T.mv rfl rfl rfl rfl ?_))
   obtain ⟨hc1, he1⟩ := inv_chk he1
   refine T.idxRo .list 0 rfl rfl w0 rfl rfl rfl hc1.1 hc1.2 (Nat.le_refl _) ?_
   refine T.ldFRo 0 .list Fd.self (Sh.pair Sh.sc Sh.sc) rfl (.inl rfl) rfl rfl hc1.1 hc1.2 rfl w0 rfl rfl rfl (v := fun x3 => .agg #[.int .i64 (((((l0).getD (s2 : Int).toNat default)).1)), .bool (((((l0).getD (s2 : Int).toNat default)).2))]) (hs' := fun x3 => Ro (Elt.pair E64 EBool) A0 c0 l0 :: Cl p1c0 131 [.int .i64 o1c0.1, .bool o1c0.2] :: hs) (fun _ => rfl) (fun _ => rfl) (fun x3 => ?_)
   refine T.pick [1, 0] 2 rfl rfl nla (hs' := Cl p1c0 131 [.int .i64 o1c0.1, .bool o1c0.2] :: Ro (Elt.pair E64 EBool) A0 c0 l0 :: hs) rfl ?_
   obtain ⟨r1, hg1, he1⟩ := inv_bind he1
   refine T.call .list w0 rfl (run_callV (vs := [_]) (caps := [.pointer (some ⟨p1c0, 0, none⟩)]) (args := [_, .pointer (some ⟨p1c0, 0, none⟩)]) rfl rfl Tryd.func89 rfl (by decide) rfl rfl) (fun w hS => schema_Right_2.c hB hS (a0 := ((l0).getD (s2 : Int).toNat default)) (ok0 := o1c0)  hg1) (fun x4 => ?_)
   refine T.nil (T.then_normal ?_)
   refine T.cond rfl (fun hb2 => ?_) (fun hb2 => ?_)
   ·replace he1 := inv_posB hb2 he1
    refine T.seq (T.region (T.mv rfl rfl rfl rfl (T.asg rfl rfl rfl rfl (T.nil (T.then_normal (T.ret (T.in_ret (T.then_ret (T.then_ret ?_)))))))))
    obtain rfl := inv_some he1
    obtain rfl := hx1 _ rfl
    refine T.in_ret (T.then_ret ?_)
    obtain rfl := inv_some hr
    refine T.pick [0] 2 rfl rfl nla rfl ?_
    refine T.ret1 rfl rfl (fun w hS => ⟨(), rfl, hS⟩)
   ·replace he1 := inv_negB hb2 he1
    refine T.skip (T.in_normal (T.then_normal (T.region (T.bin .list rfl w0 rfl rfl rfl rfl (T.mv rfl rfl rfl rfl (T.nil (T.then_normal ?_)))))))
    obtain rfl := inv_some he1
    exact T.le (EnvLe.cons rfl (EnvLe.cons rfl (EnvLe.cons rfl (EnvLe.cons rfl EnvLe.nil)))) (T.pick [1, 0] 2 rfl rfl nla rfl (hm1 (IntKind.i64.wrap (s2 + 1)) rfl ()))
  ·replace he1 := inv_negB hb1 he1
   refine T.exit (T.then_exit (T.then_exit ?_))
   obtain rfl := inv_some he1
   obtain rfl := hx1 _ rfl
   refine T.in_hit (T.then_normal ?_)
   exact T.le EnvLe.nil (T.pick [1] 2 rfl rfl nla rfl (J1 () () hr))

noncomputable def slices_ContainsFunc_api_Index_api_Index__schema_Right_2.impl (l0 : List (Int × Bool)) (o1c0 : Int × Bool) : Option Bool :=
  (slices_IndexFunc_api_Index_api_Index__schema_Right_2.impl l0 o1c0).bind fun r1 => some (decide ((0 : Int) ≤ r1))
set_option maxRecDepth 100000 in
set_option maxHeartbeats 4000000 in
theorem slices_ContainsFunc_api_Index_api_Index__schema_Right_2.c {B : World} {hs : List MP} {w : World} {i0 c0 : Nat} {A0 : Option Addr} {l0 : List (Int × Bool)} {p1c0 : Nat} {o1c0 : Int × Bool} (hB : Base B) (hS : St B (Cl p1c0 131 [.int .i64 o1c0.1, .bool o1c0.2] :: hs) w) (h0 : (Cl p1c0 131 [.int .i64 o1c0.1, .bool o1c0.2] :: hs)[i0]? = some (Ro (Elt.pair E64 EBool) A0 c0 l0)) {r : Bool} (hr : slices_ContainsFunc_api_Index_api_Index__schema_Right_2.impl l0 o1c0 = some r) :
    Calls Tryd.prog 88 #[.slice A0 l0.length c0, .func (.func 89) #[] #[.pointer (some ⟨p1c0, 0, none⟩)]] w fun e w' => ∃ x : Unit, e = .returned (.bool r) ∧ St B (Cl p1c0 131 [.int .i64 o1c0.1, .bool o1c0.2] :: hs) w' := by
 unfold slices_ContainsFunc_api_Index_api_Index__schema_Right_2.impl at hr
 refine calls_T Tryd.func88 rfl rfl rfl hS ?_
 refine T.front i0 h0 (T.seq (T.region (T.asg rfl rfl rfl rfl (T.nil (T.then_normal (T.seq (T.region (T.mv rfl rfl rfl rfl (T.mv rfl rfl rfl rfl (T.pick [1, 0] 2 rfl rfl nla (hs' := Cl p1c0 131 [.int .i64 o1c0.1, .bool o1c0.2] :: Ro (Elt.pair E64 EBool) A0 c0 l0 :: hs) rfl ?_))))))))))
 obtain ⟨r1, hg1, hr⟩ := inv_bind hr
 refine T.call .list w0 rfl (run_callF (vs := [_, _]) rfl Tryd.func98 rfl (by decide) rfl) (fun w hS => slices_IndexFunc_api_Index_api_Index__schema_Right_2.c hB hS (i0 := 1) (o1c0 := o1c0) rfl hg1) (fun x1 => ?_)
 refine T.bin .list rfl w0 rfl rfl rfl rfl (T.asg rfl rfl rfl rfl (T.nil (T.then_normal (T.ret ?_))))
 obtain rfl := inv_some hr
 refine T.pick [0] 2 rfl rfl nla rfl ?_
 refine T.ret1 rfl rfl (fun w hS => ⟨(), rfl, hS⟩)

noncomputable def schema_Right.k3 (s3 : Unit) : Option Int :=
  some 0
noncomputable def schema_Right.k4 (s4 : Int) (s5 : Bool) : Option (Int ⊕ (Int ⊕ Unit)) :=
  (if s5 = true then some (.inr (.inl 61)) else some (.inl (IntKind.i64.wrap (s4 + 1))))
noncomputable def schema_Right.st1 (a0 : (List UInt8) × (List ((List UInt8) × Int × Int)) × (List (Int × Bool))) (s4 : Int) : Option (Int ⊕ (Int ⊕ Unit)) :=
  (if ((decide (s4 < ((a0.2.2.length : Int))))) = true then chk (0 ≤ s4 ∧ s4 < (a0.2.2.length : Int)) (chk (0 ≤ s4 ∧ s4 ≤ (a0.2.2.length : Int)) ((slices_ContainsFunc_api_Index_api_Index__schema_Right_2.impl (subl a0.2.2 0 s4) ((((((a0.2.2).getD (s4 : Int).toNat default)).1), ((((a0.2.2).getD (s4 : Int).toNat default)).2)))).bind fun r1 => (if r1 = true then schema_Right.k4 s4 true else (if ((decide (((((((a0.2.2).getD (s4 : Int).toNat default)).1))) < 1))) = true then schema_Right.k4 s4 true else schema_Right.k4 s4 (decide ((((a0.2.1.length : Int))) ≤ (((((a0.2.2).getD (s4 : Int).toNat default)).1)))))))) else some (.inr (.inr ())))
noncomputable def schema_Right.k2 (a0 : (List UInt8) × (List ((List UInt8) × Int × Int)) × (List (Int × Bool))) (s2 : Unit) : Option Int :=
  (loop (schema_Right.st1 a0) 0).bind (fun e1 => match e1 with | .inl v => some v | .inr v => schema_Right.k3 v)
noncomputable def schema_Right.k5 (s6 : Int) (s7 : Bool) : Option (Int ⊕ (Int ⊕ Unit)) :=
  (if s7 = true then some (.inr (.inl 61)) else some (.inl (IntKind.i64.wrap (s6 + 1))))
noncomputable def schema_Right.st2 (a0 : (List UInt8) × (List ((List UInt8) × Int × Int)) × (List (Int × Bool))) (s6 : Int) : Option (Int ⊕ (Int ⊕ Unit)) :=
  (if ((decide (s6 < ((a0.2.1.length : Int))))) = true then chk (0 ≤ s6 ∧ s6 < (a0.2.1.length : Int)) (chk (0 ≤ s6 ∧ s6 ≤ (a0.2.1.length : Int)) ((slices_ContainsFunc_api_Column_api_Column__schema_Right_1.impl (subl a0.2.1 0 s6) ((((((a0.2.1).getD (s6 : Int).toNat default)).1), ((((a0.2.1).getD (s6 : Int).toNat default)).2.1), ((((a0.2.1).getD (s6 : Int).toNat default)).2.2)))).bind fun r2 => (if r2 = true then schema_Right.k5 s6 true else (schema_column.impl ((((((a0.2.1).getD (s6 : Int).toNat default)).1), ((((a0.2.1).getD (s6 : Int).toNat default)).2.1), ((((a0.2.1).getD (s6 : Int).toNat default)).2.2)))).bind fun r3 => schema_Right.k5 s6 (!r3)))) else some (.inr (.inr ())))
noncomputable def schema_Right.k1 (a0 : (List UInt8) × (List ((List UInt8) × Int × Int)) × (List (Int × Bool))) (s1 : Bool) : Option Int :=
  (if s1 = true then some 61 else (loop (schema_Right.st2 a0) 0).bind (fun e2 => match e2 with | .inl v => some v | .inr v => schema_Right.k2 a0 v))
noncomputable def schema_Right.impl (a0 : (List UInt8) × (List ((List UInt8) × Int × Int)) × (List (Int × Bool))) : Option Int :=
  (schema_Name.impl a0.1).bind fun r4 => (if r4 = true then (if ((decide ((((a0.2.1.length : Int))) < 1))) = true then schema_Right.k1 a0 true else (if ((decide ((3 : Int) < ((a0.2.1.length : Int))))) = true then schema_Right.k1 a0 true else schema_Right.k1 a0 (decide ((3 : Int) < ((a0.2.2.length : Int)))))) else schema_Right.k1 a0 true)
set_option maxRecDepth 100000 in
set_option maxHeartbeats 4000000 in
theorem schema_Right.c {B : World} {hs : List MP} {w : World} {a0 : (List UInt8) × (List ((List UInt8) × Int × Int)) × (List (Int × Bool))} {i0a c0a : Nat} {A0a : Option Addr} {i0b c0b : Nat} {A0b : Option Addr} (hB : Base B) (hS : St B hs w) (h0a : (hs)[i0a]? = some (Ro (Elt.pair EStr (Elt.pair E64 E64)) A0a c0a a0.2.1)) (h0b : (hs)[i0b]? = some (Ro (Elt.pair E64 EBool) A0b c0b a0.2.2)) {r : Int} (hr : schema_Right.impl a0 = some r) :
    Calls Tryd.prog 71 #[.agg #[str a0.1, .slice A0a a0.2.1.length c0a, .slice A0b a0.2.2.length c0b]] w fun e w' => ∃ x : Unit, e = .returned (.int .i64 r) ∧ St B hs w' := by
 unfold schema_Right.impl at hr
 refine calls_T Tryd.func71 rfl rfl rfl hS ?_
 refine T.front i0a h0a (T.front (i0b + 1) h0b (T.seq (T.region ?_)))
 refine T.boxS .list rfl w0 rfl rfl (cs := [str a0.1, .slice A0a a0.2.1.length c0a, .slice A0b a0.2.2.length c0b]) rfl (fun b1 => ?_)
 refine T.asg rfl rfl rfl rfl (T.nil (T.then_normal (T.seq ?_)))
 refine T.seqJ (fun (s1 : Bool) (x1 : Unit) => [(1, .pointer (some ⟨b1, 0, none⟩)), (30, .bool s1)]) (fun s1 x1 => Cl b1 62 [str a0.1, .slice A0a a0.2.1.length c0a, .slice A0b a0.2.2.length c0b] :: Ro (Elt.pair EStr (Elt.pair E64 E64)) A0a c0a a0.2.1 :: Ro (Elt.pair E64 EBool) A0b c0b a0.2.2 :: hs) (fun s1 => schema_Right.k1 a0 s1 = some r) (fun s1 x1 hk1 => ?_) (fun J1 => ?_)
 ·unfold schema_Right.k1 at hk1
  refine T.cond rfl (fun hb1 => ?_) (fun hb1 => ?_)
  ·replace hk1 := inv_posB hb1 hk1
   refine T.seq (T.region (T.asg rfl rfl rfl rfl (T.nil (T.then_normal (T.ret (T.then_ret ?_))))))
   obtain rfl := inv_some hk1
   refine T.pick [] 3 rfl rfl nla rfl ?_
   refine T.ret1 rfl rfl (fun w hS => ⟨(), rfl, hS⟩)
  ·replace hk1 := inv_negB hb1 hk1
   refine T.skip (T.then_normal ?_)
   refine T.seqJ (fun (s2 : Unit) (x2 : Unit) => [(1, .pointer (some ⟨b1, 0, none⟩))]) (fun s2 x2 => Cl b1 62 [str a0.1, .slice A0a a0.2.1.length c0a, .slice A0b a0.2.2.length c0b] :: Ro (Elt.pair EStr (Elt.pair E64 E64)) A0a c0a a0.2.1 :: Ro (Elt.pair E64 EBool) A0b c0b a0.2.2 :: hs) (fun s2 => schema_Right.k2 a0 s2 = some r) (fun s2 x2 hk2 => ?_) (fun J2 => ?_)
   ·unfold schema_Right.k2 at hk2
    refine T.seqJ (fun (s3 : Unit) (x3 : Unit) => []) (fun s3 x3 => hs) (fun s3 => schema_Right.k3 s3 = some r) (fun s3 x3 hk3 => ?_) (fun J3 => ?_)
    ·unfold schema_Right.k3 at hk3
     refine T.seq (T.region (T.asg rfl rfl rfl rfl (T.nil (T.then_normal (T.ret ?_)))))
     obtain rfl := inv_some hk3
     refine T.pick [] 0 rfl rfl nla rfl ?_
     refine T.ret1 rfl rfl (fun w hS => ⟨(), rfl, hS⟩)
    ·refine T.seq (T.region (T.field .list rfl w0 rfl rfl (T.load .list 0 rfl rfl w0 rfl rfl rfl (T.lenSlice .list rfl w0 rfl rfl (T.mv rfl rfl rfl rfl (T.nil (T.then_normal (T.block ?_))))))))
     obtain ⟨e1, hl1, hk2⟩ := inv_bind hk2
     refine T.le (EnvLe.cons rfl (EnvLe.cons rfl (EnvLe.cons rfl (EnvLe.cons rfl EnvLe.nil)))) (T.pick [0, 1, 2] 3 rfl rfl nla rfl (T.loop (s0 := 0) (env := fun s4 x4 => [(1, .pointer (some ⟨b1, 0, none⟩)), (53, .slice A0b a0.2.2.length c0b), (54, .int .i64 ((a0.2.2.length : Int))), (55, .int .i64 s4)]) (hs := fun (s4 : Int) (x4 : Unit) => Cl b1 62 [str a0.1, .slice A0a a0.2.1.length c0a, .slice A0b a0.2.2.length c0b] :: Ro (Elt.pair EStr (Elt.pair E64 E64)) A0a c0a a0.2.1 :: Ro (Elt.pair E64 EBool) A0b c0b a0.2.2 :: hs) hl1 () (fun K1 s4 x4 o1 he1 hm1 hx1 => ?_)))
     unfold schema_Right.st1 at he1
     refine T.seq (T.region (T.bin .list rfl w0 rfl rfl rfl rfl (T.nil (T.then_normal (T.seq ?_)))))
     refine T.cond rfl (fun hb2 => ?_) (fun hb2 => ?_)
     ·replace he1 := inv_posB hb2 he1
      refine T.skip (T.then_normal (T.seq (T.block (T.seq (T.region (T.mv rfl rfl rfl rfl ?_))))))
      obtain ⟨hc1, he1⟩ := inv_chk he1
      refine T.idxRo .list 2 rfl rfl w0 rfl rfl rfl hc1.1 hc1.2 (Nat.le_refl _) ?_
      refine T.ldFRo 2 .list Fd.self (Sh.pair Sh.sc Sh.sc) rfl (.inl rfl) rfl rfl hc1.1 hc1.2 rfl w0 rfl rfl rfl (v := fun x5 => .agg #[.int .i64 (((((a0.2.2).getD (s4 : Int).toNat default)).1)), .bool (((((a0.2.2).getD (s4 : Int).toNat default)).2))]) (hs' := fun x5 => Cl b1 62 [str a0.1, .slice A0a a0.2.1.length c0a, .slice A0b a0.2.2.length c0b] :: Ro (Elt.pair EStr (Elt.pair E64 E64)) A0a c0a a0.2.1 :: Ro (Elt.pair E64 EBool) A0b c0b a0.2.2 :: hs) (fun _ => rfl) (fun _ => rfl) (fun x5 => ?_)
      refine T.allocS .list rfl w0 rfl (cs := [.int .i64 0, .bool false]) rfl (fun b2 => ?_)
      refine T.asg rfl rfl rfl rfl ?_
      refine T.store .list 0 rfl rfl w0 rfl rfl rfl rfl (Nat.le_of_ble_eq_true rfl) rfl (cs' := [.int .i64 (((((a0.2.2).getD (s4 : Int).toNat default)).1)), .bool (((((a0.2.2).getD (s4 : Int).toNat default)).2))]) rfl rfl (T.nil (T.then_normal (T.seq (T.region (T.field .list rfl w0 rfl rfl (T.load .list 1 rfl rfl w0 rfl rfl rfl (T.mv rfl rfl rfl rfl ?_)))))))
      obtain ⟨hc2, he1⟩ := inv_chk he1
      refine T.cut0 .list 3 rfl rfl rfl w0 rfl rfl (.inl rfl) (.inr ⟨_, _, rfl, rfl⟩) hc2.1 hc2.2 (T.makeFunc .list (f := 89) (vs := [.pointer (some ⟨b2, 0, none⟩)]) rfl w0 rfl rfl (T.pick [1, 0, 2, 3, 4] 5 rfl rfl nla (hs' := Cl b2 131 [.int .i64 (((((a0.2.2).getD (s4 : Int).toNat default)).1)), .bool (((((a0.2.2).getD (s4 : Int).toNat default)).2))] :: Ro (Elt.pair E64 EBool) A0b c0b (subl a0.2.2 0 s4) :: Cl b1 62 [str a0.1, .slice A0a a0.2.1.length c0a, .slice A0b a0.2.2.length c0b] :: Ro (Elt.pair EStr (Elt.pair E64 E64)) A0a c0a a0.2.1 :: Ro (Elt.pair E64 EBool) A0b c0b a0.2.2 :: hs) rfl ?_))
      obtain ⟨r1, hg1, he1⟩ := inv_bind he1
      refine T.call .list w0 rfl (run_callF (vs := [_, _]) rfl Tryd.func88 rfl (by decide) rfl) (fun w hS => slices_ContainsFunc_api_Index_api_Index__schema_Right_2.c hB hS (i0 := 1) (o1c0 := (((((a0.2.2).getD (s4 : Int).toNat default)).1), ((((a0.2.2).getD (s4 : Int).toNat default)).2))) rfl hg1) (fun x6 => ?_)
      refine T.asg rfl rfl rfl rfl (T.nil (T.then_normal ?_))
      refine T.seqJ (fun (s5 : Bool) (x7 : Unit) => [(1, .pointer (some ⟨b1, 0, none⟩)), (53, .slice A0b a0.2.2.length c0b), (54, .int .i64 ((a0.2.2.length : Int))), (55, .int .i64 s4), (79, .bool s5)]) (fun s5 x7 => Cl b1 62 [str a0.1, .slice A0a a0.2.1.length c0a, .slice A0b a0.2.2.length c0b] :: Ro (Elt.pair EStr (Elt.pair E64 E64)) A0a c0a a0.2.1 :: Ro (Elt.pair E64 EBool) A0b c0b a0.2.2 :: hs) (fun s5 => schema_Right.k4 s4 s5 = some o1) (fun s5 x7 hk4 => ?_) (fun J4 => ?_)
      ·unfold schema_Right.k4 at hk4
       refine T.cond rfl (fun hb3 => ?_) (fun hb3 => ?_)
       ·replace hk4 := inv_posB hb3 hk4
        refine T.seq (T.region (T.asg rfl rfl rfl rfl (T.nil (T.then_normal (T.ret (T.in_ret (T.then_ret (T.then_ret ?_))))))))
        obtain rfl := inv_some hk4
        obtain rfl := hx1 _ rfl
        refine T.in_ret (T.then_ret ?_)
        obtain rfl := inv_some hk2
        refine T.pick [] 3 rfl rfl nla rfl ?_
        refine T.ret1 rfl rfl (fun w hS => ⟨(), rfl, hS⟩)
       ·replace hk4 := inv_negB hb3 hk4
        refine T.skip (T.in_normal (T.then_normal (T.region (T.bin .list rfl w0 rfl rfl rfl rfl (T.mv rfl rfl rfl rfl (T.nil (T.then_normal ?_)))))))
        obtain rfl := inv_some hk4
        exact T.le (EnvLe.cons rfl (EnvLe.cons rfl (EnvLe.cons rfl (EnvLe.cons rfl EnvLe.nil)))) (T.pick [0, 1, 2] 3 rfl rfl nla rfl (hm1 (IntKind.i64.wrap (s4 + 1)) rfl ()))
      ·refine T.region (T.mv rfl rfl rfl rfl (T.mv rfl rfl rfl rfl ?_))
       refine T.bool (b := r1) (fun hb4 => ?_) (fun hb4 => ?_)
       ·replace he1 := inv_posB hb4 he1
        refine T.lv rfl rfl rfl hb4 rfl (T.lv rfl rfl rfl hb4 rfl (T.lv rfl rfl rfl hb4 rfl (T.pickT .list rfl w0 rfl rfl hb4 rfl (T.mv rfl rfl rfl rfl (T.lv rfl rfl rfl rfl rfl (T.lv rfl rfl rfl rfl rfl (T.lv rfl rfl rfl rfl rfl (T.lv rfl rfl rfl rfl rfl (T.lv rfl rfl rfl rfl rfl (T.lv rfl rfl rfl rfl rfl (T.pickT .list rfl w0 rfl rfl rfl rfl ?_)))))))))))
        refine T.nil (T.then_normal ?_)
        exact T.le (EnvLe.cons rfl (EnvLe.cons rfl (EnvLe.cons rfl (EnvLe.cons rfl (EnvLe.cons rfl EnvLe.nil))))) (T.pick [2, 3, 4] 5 rfl rfl nla rfl (J4 true () he1))
       ·replace he1 := inv_negB hb4 he1
        refine T.field .list rfl (wants1 rfl rfl rfl hb4) rfl rfl (T.load .list 0 rfl rfl (wants1 rfl rfl rfl hb4) rfl rfl rfl (T.bin .list rfl (wants1 rfl rfl rfl hb4) rfl rfl rfl rfl (T.pickF .list rfl w0 rfl rfl hb4 rfl (T.mv rfl rfl rfl rfl ?_))))
        refine T.bool (b := (decide (((((((a0.2.2).getD (s4 : Int).toNat default)).1))) < 1))) (fun hb5 => ?_) (fun hb5 => ?_)
        ·replace he1 := inv_posB hb5 he1
         refine T.lv rfl rfl rfl hb5 rfl (T.lv rfl rfl rfl hb5 rfl (T.lv rfl rfl rfl hb5 rfl (T.lv rfl rfl rfl hb5 rfl (T.lv rfl rfl rfl hb5 rfl (T.lv rfl rfl rfl hb5 rfl (T.pickT .list rfl w0 rfl rfl hb5 rfl (T.nil (T.then_normal ?_))))))))
         exact T.le (EnvLe.cons rfl (EnvLe.cons rfl (EnvLe.cons rfl (EnvLe.cons rfl (EnvLe.cons rfl EnvLe.nil))))) (T.pick [2, 3, 4] 5 rfl rfl nla rfl (J4 true () he1))
        ·replace he1 := inv_negB hb5 he1
         refine T.field .list rfl (wants1 rfl rfl rfl hb5) rfl rfl (T.load .list 0 rfl rfl (wants1 rfl rfl rfl hb5) rfl rfl rfl (T.field .list rfl (wants1 rfl rfl rfl hb5) rfl rfl (T.load .list 2 rfl rfl (wants1 rfl rfl rfl hb5) rfl rfl rfl (T.lenSlice .list rfl (wants1 rfl rfl rfl hb5) rfl rfl (T.bin .list rfl (wants1 rfl rfl rfl hb5) rfl rfl rfl rfl (T.pickF .list rfl w0 rfl rfl hb5 rfl (T.nil (T.then_normal ?_))))))))
         exact T.le (EnvLe.cons rfl (EnvLe.cons rfl (EnvLe.cons rfl (EnvLe.cons rfl (EnvLe.cons rfl EnvLe.nil))))) (T.pick [2, 3, 4] 5 rfl rfl nla rfl (J4 (decide ((((a0.2.1.length : Int))) ≤ (((((a0.2.2).getD (s4 : Int).toNat default)).1)))) () he1))
     ·replace he1 := inv_negB hb2 he1
      refine T.exit (T.then_exit (T.then_exit ?_))
      obtain rfl := inv_some he1
      obtain rfl := hx1 _ rfl
      refine T.in_hit (T.then_normal ?_)
      exact T.le EnvLe.nil (T.pick [] 3 rfl rfl nla rfl (J3 () () hk2))
   ·refine T.seq (T.region (T.field .list rfl w0 rfl rfl (T.load .list 0 rfl rfl w0 rfl rfl rfl (T.lenSlice .list rfl w0 rfl rfl (T.mv rfl rfl rfl rfl (T.nil (T.then_normal (T.block ?_))))))))
    obtain ⟨e2, hl2, hk1⟩ := inv_bind hk1
    refine T.le (EnvLe.cons rfl (EnvLe.cons rfl (EnvLe.cons rfl (EnvLe.cons rfl EnvLe.nil)))) (T.pick [0, 1, 2] 3 rfl rfl nla rfl (T.loop (s0 := 0) (env := fun s6 x8 => [(1, .pointer (some ⟨b1, 0, none⟩)), (32, .slice A0a a0.2.1.length c0a), (33, .int .i64 ((a0.2.1.length : Int))), (34, .int .i64 s6)]) (hs := fun (s6 : Int) (x8 : Unit) => Cl b1 62 [str a0.1, .slice A0a a0.2.1.length c0a, .slice A0b a0.2.2.length c0b] :: Ro (Elt.pair EStr (Elt.pair E64 E64)) A0a c0a a0.2.1 :: Ro (Elt.pair E64 EBool) A0b c0b a0.2.2 :: hs) hl2 () (fun K2 s6 x8 o2 he2 hm2 hx2 => ?_)))
    unfold schema_Right.st2 at he2
    refine T.seq (T.region (T.bin .list rfl w0 rfl rfl rfl rfl (T.nil (T.then_normal (T.seq ?_)))))
    refine T.cond rfl (fun hb6 => ?_) (fun hb6 => ?_)
    ·replace he2 := inv_posB hb6 he2
     refine T.skip (T.then_normal (T.seq (T.block (T.seq (T.region (T.mv rfl rfl rfl rfl ?_))))))
     obtain ⟨hc3, he2⟩ := inv_chk he2
     refine T.idxRo .list 1 rfl rfl w0 rfl rfl rfl hc3.1 hc3.2 (Nat.le_refl _) ?_
     refine T.ldFRo 1 .list Fd.self (Sh.pair Sh.sc (Sh.pair Sh.sc Sh.sc)) rfl (.inl rfl) rfl rfl hc3.1 hc3.2 rfl w0 rfl rfl rfl (v := fun x9 => .agg #[str (((((a0.2.1).getD (s6 : Int).toNat default)).1)), .int .i64 (((((a0.2.1).getD (s6 : Int).toNat default)).2.1)), .int .i64 (((((a0.2.1).getD (s6 : Int).toNat default)).2.2))]) (hs' := fun x9 => Cl b1 62 [str a0.1, .slice A0a a0.2.1.length c0a, .slice A0b a0.2.2.length c0b] :: Ro (Elt.pair EStr (Elt.pair E64 E64)) A0a c0a a0.2.1 :: Ro (Elt.pair E64 EBool) A0b c0b a0.2.2 :: hs) (fun _ => rfl) (fun _ => rfl) (fun x9 => ?_)
     refine T.allocS .list rfl w0 rfl (cs := [str (([] : List UInt8)), .int .i64 0, .int .i64 0]) rfl (fun b3 => ?_)
     refine T.asg rfl rfl rfl rfl ?_
     refine T.store .list 0 rfl rfl w0 rfl rfl rfl rfl (Nat.le_of_ble_eq_true rfl) rfl (cs' := [str (((((a0.2.1).getD (s6 : Int).toNat default)).1)), .int .i64 (((((a0.2.1).getD (s6 : Int).toNat default)).2.1)), .int .i64 (((((a0.2.1).getD (s6 : Int).toNat default)).2.2))]) rfl rfl (T.nil (T.then_normal (T.seq (T.region (T.field .list rfl w0 rfl rfl (T.load .list 1 rfl rfl w0 rfl rfl rfl (T.mv rfl rfl rfl rfl ?_)))))))
     obtain ⟨hc4, he2⟩ := inv_chk he2
     refine T.cut0 .list 2 rfl rfl rfl w0 rfl rfl (.inl rfl) (.inr ⟨_, _, rfl, rfl⟩) hc4.1 hc4.2 (T.makeFunc .list (f := 86) (vs := [.pointer (some ⟨b3, 0, none⟩)]) rfl w0 rfl rfl (T.pick [1, 0, 2, 3, 4] 5 rfl rfl nla (hs' := Cl b3 129 [str (((((a0.2.1).getD (s6 : Int).toNat default)).1)), .int .i64 (((((a0.2.1).getD (s6 : Int).toNat default)).2.1)), .int .i64 (((((a0.2.1).getD (s6 : Int).toNat default)).2.2))] :: Ro (Elt.pair EStr (Elt.pair E64 E64)) A0a c0a (subl a0.2.1 0 s6) :: Cl b1 62 [str a0.1, .slice A0a a0.2.1.length c0a, .slice A0b a0.2.2.length c0b] :: Ro (Elt.pair EStr (Elt.pair E64 E64)) A0a c0a a0.2.1 :: Ro (Elt.pair E64 EBool) A0b c0b a0.2.2 :: hs) rfl ?_))
     obtain ⟨r2, hg2, he2⟩ := inv_bind he2
     refine T.call .list w0 rfl (run_callF (vs := [_, _]) rfl Tryd.func85 rfl (by decide) rfl) (fun w hS => slices_ContainsFunc_api_Column_api_Column__schema_Right_1.c hB hS (i0 := 1) (o1c0 := (((((a0.2.1).getD (s6 : Int).toNat default)).1), ((((a0.2.1).getD (s6 : Int).toNat default)).2.1), ((((a0.2.1).getD (s6 : Int).toNat default)).2.2))) rfl hg2) (fun x10 => ?_)
     refine T.asg rfl rfl rfl rfl (T.nil (T.then_normal ?_))
     refine T.seqJ (fun (s7 : Bool) (x11 : Unit) => [(1, .pointer (some ⟨b1, 0, none⟩)), (32, .slice A0a a0.2.1.length c0a), (33, .int .i64 ((a0.2.1.length : Int))), (34, .int .i64 s6), (50, .bool s7)]) (fun s7 x11 => Cl b1 62 [str a0.1, .slice A0a a0.2.1.length c0a, .slice A0b a0.2.2.length c0b] :: Ro (Elt.pair EStr (Elt.pair E64 E64)) A0a c0a a0.2.1 :: Ro (Elt.pair E64 EBool) A0b c0b a0.2.2 :: hs) (fun s7 => schema_Right.k5 s6 s7 = some o2) (fun s7 x11 hk5 => ?_) (fun J5 => ?_)
     ·unfold schema_Right.k5 at hk5
      refine T.cond rfl (fun hb7 => ?_) (fun hb7 => ?_)
      ·replace hk5 := inv_posB hb7 hk5
       refine T.seq (T.region (T.asg rfl rfl rfl rfl (T.nil (T.then_normal (T.ret (T.in_ret (T.then_ret (T.then_ret ?_))))))))
       obtain rfl := inv_some hk5
       obtain rfl := hx2 _ rfl
       refine T.in_ret (T.then_ret ?_)
       obtain rfl := inv_some hk1
       refine T.pick [] 3 rfl rfl nla rfl ?_
       refine T.ret1 rfl rfl (fun w hS => ⟨(), rfl, hS⟩)
      ·replace hk5 := inv_negB hb7 hk5
       refine T.skip (T.in_normal (T.then_normal (T.region (T.bin .list rfl w0 rfl rfl rfl rfl (T.mv rfl rfl rfl rfl (T.nil (T.then_normal ?_)))))))
       obtain rfl := inv_some hk5
       exact T.le (EnvLe.cons rfl (EnvLe.cons rfl (EnvLe.cons rfl (EnvLe.cons rfl EnvLe.nil)))) (T.pick [0, 1, 2] 3 rfl rfl nla rfl (hm2 (IntKind.i64.wrap (s6 + 1)) rfl ()))
     ·refine T.region (T.mv rfl rfl rfl rfl (T.mv rfl rfl rfl rfl ?_))
      refine T.bool (b := r2) (fun hb8 => ?_) (fun hb8 => ?_)
      ·replace he2 := inv_posB hb8 he2
       refine T.lv rfl rfl rfl hb8 rfl (T.lv rfl rfl rfl hb8 rfl (T.lv rfl rfl rfl hb8 rfl (T.pickT .list rfl w0 rfl rfl hb8 rfl (T.nil (T.then_normal ?_)))))
       exact T.le (EnvLe.cons rfl (EnvLe.cons rfl (EnvLe.cons rfl (EnvLe.cons rfl (EnvLe.cons rfl EnvLe.nil))))) (T.pick [2, 3, 4] 5 rfl rfl nla rfl (J5 true () he2))
      ·replace he2 := inv_negB hb8 he2
       refine T.loadN .list 0 rfl rfl (wants1 rfl rfl rfl hb8) rfl rfl (vs := [str (((((a0.2.1).getD (s6 : Int).toNat default)).1)), .int .i64 (((((a0.2.1).getD (s6 : Int).toNat default)).2.1)), .int .i64 (((((a0.2.1).getD (s6 : Int).toNat default)).2.2))]) rfl rfl ?_
       obtain ⟨r3, hg3, he2⟩ := inv_bind he2
       refine T.call .list (wants1 rfl rfl rfl hb8) rfl (run_callF (vs := [_]) rfl Tryd.func87 rfl (by decide) rfl) (fun w hS => schema_column.c hB hS (a0 := (((((a0.2.1).getD (s6 : Int).toNat default)).1), ((((a0.2.1).getD (s6 : Int).toNat default)).2.1), ((((a0.2.1).getD (s6 : Int).toNat default)).2.2)))  hg3) (fun x12 => ?_)
       refine T.not .list rfl (wants1 rfl rfl rfl hb8) rfl rfl (T.pickF .list rfl w0 rfl rfl hb8 rfl (T.nil (T.then_normal ?_)))
       exact T.le (EnvLe.cons rfl (EnvLe.cons rfl (EnvLe.cons rfl (EnvLe.cons rfl (EnvLe.cons rfl EnvLe.nil))))) (T.pick [2, 3, 4] 5 rfl rfl nla rfl (J5 (!r3) () he2))
    ·replace he2 := inv_negB hb6 he2
     refine T.exit (T.then_exit (T.then_exit ?_))
     obtain rfl := inv_some he2
     obtain rfl := hx2 _ rfl
     refine T.in_hit (T.then_normal ?_)
     exact T.le (EnvLe.cons rfl EnvLe.nil) (T.pick [0, 1, 2] 3 rfl rfl nla rfl (J2 () () hk1))
 ·refine T.region (T.field .list rfl w0 rfl rfl (T.load .list 0 rfl rfl w0 rfl rfl rfl ?_))
  obtain ⟨r4, hg4, hr⟩ := inv_bind hr
  refine T.call .list w0 rfl (run_callF (vs := [_]) rfl Tryd.func84 rfl (by decide) rfl) (fun w hS => schema_Name.c hB hS  hg4) (fun x13 => ?_)
  refine T.not .list rfl w0 rfl rfl (T.mv rfl rfl rfl rfl ?_)
  refine T.bool (b := r4) (fun hb9 => ?_) (fun hb9 => ?_)
  ·replace hr := inv_posB hb9 hr
   refine T.field .list rfl (wants1 rfl rfl rfl (not_t hb9)) rfl rfl (T.load .list 0 rfl rfl (wants1 rfl rfl rfl (not_t hb9)) rfl rfl rfl (T.lenSlice .list rfl (wants1 rfl rfl rfl (not_t hb9)) rfl rfl (T.bin .list rfl (wants1 rfl rfl rfl (not_t hb9)) rfl rfl rfl rfl (T.pickF .list rfl w0 rfl rfl (not_t hb9) rfl (T.mv rfl rfl rfl rfl ?_)))))
   refine T.bool (b := (decide ((((a0.2.1.length : Int))) < 1))) (fun hb10 => ?_) (fun hb10 => ?_)
   ·replace hr := inv_posB hb10 hr
    refine T.lv rfl rfl rfl hb10 rfl (T.lv rfl rfl rfl hb10 rfl (T.lv rfl rfl rfl hb10 rfl (T.lv rfl rfl rfl hb10 rfl (T.pickT .list rfl w0 rfl rfl hb10 rfl (T.mv rfl rfl rfl rfl (T.lv rfl rfl rfl rfl rfl (T.lv rfl rfl rfl rfl rfl (T.lv rfl rfl rfl rfl rfl (T.lv rfl rfl rfl rfl rfl (T.pickT .list rfl w0 rfl rfl rfl rfl (T.nil ?_)))))))))))
    refine T.then_normal ?_
    exact T.le (EnvLe.cons rfl (EnvLe.cons rfl EnvLe.nil)) (T.pick [0, 2, 1] 3 rfl rfl nla rfl (J1 true () hr))
   ·replace hr := inv_negB hb10 hr
    refine T.field .list rfl (wants1 rfl rfl rfl hb10) rfl rfl (T.load .list 0 rfl rfl (wants1 rfl rfl rfl hb10) rfl rfl rfl (T.lenSlice .list rfl (wants1 rfl rfl rfl hb10) rfl rfl (T.bin .list rfl (wants1 rfl rfl rfl hb10) rfl rfl rfl rfl (T.pickF .list rfl w0 rfl rfl hb10 rfl (T.mv rfl rfl rfl rfl ?_)))))
    refine T.bool (b := (decide ((3 : Int) < ((a0.2.1.length : Int))))) (fun hb11 => ?_) (fun hb11 => ?_)
    ·replace hr := inv_posB hb11 hr
     refine T.lv rfl rfl rfl hb11 rfl (T.lv rfl rfl rfl hb11 rfl (T.lv rfl rfl rfl hb11 rfl (T.lv rfl rfl rfl hb11 rfl (T.pickT .list rfl w0 rfl rfl hb11 rfl (T.nil (T.then_normal ?_))))))
     exact T.le (EnvLe.cons rfl (EnvLe.cons rfl EnvLe.nil)) (T.pick [0, 2, 1] 3 rfl rfl nla rfl (J1 true () hr))
    ·replace hr := inv_negB hb11 hr
     refine T.field .list rfl (wants1 rfl rfl rfl hb11) rfl rfl (T.load .list 0 rfl rfl (wants1 rfl rfl rfl hb11) rfl rfl rfl (T.lenSlice .list rfl (wants1 rfl rfl rfl hb11) rfl rfl (T.bin .list rfl (wants1 rfl rfl rfl hb11) rfl rfl rfl rfl (T.pickF .list rfl w0 rfl rfl hb11 rfl (T.nil (T.then_normal ?_))))))
     exact T.le (EnvLe.cons rfl (EnvLe.cons rfl EnvLe.nil)) (T.pick [0, 2, 1] 3 rfl rfl nla rfl (J1 (decide ((3 : Int) < ((a0.2.2.length : Int)))) () hr))
  ·replace hr := inv_negB hb9 hr
   refine T.leave .list (wantsNot rfl rfl rfl (not_f hb9)) rfl (T.leave .list (wantsNot rfl rfl rfl (not_f hb9)) rfl (T.leave .list (wantsNot rfl rfl rfl (not_f hb9)) rfl (T.leave .list (wantsNot rfl rfl rfl (not_f hb9)) rfl (T.pickT .list rfl w0 rfl rfl (not_f hb9) rfl (T.mv rfl rfl rfl rfl (T.lv rfl rfl rfl rfl rfl (T.lv rfl rfl rfl rfl rfl (T.lv rfl rfl rfl rfl rfl (T.lv rfl rfl rfl rfl rfl (T.pickT .list rfl w0 rfl rfl rfl rfl (T.mv rfl rfl rfl rfl ?_)))))))))))
   refine T.lv rfl rfl rfl rfl rfl (T.lv rfl rfl rfl rfl rfl (T.lv rfl rfl rfl rfl rfl (T.lv rfl rfl rfl rfl rfl (T.pickT .list rfl w0 rfl rfl rfl rfl (T.nil (T.then_normal ?_))))))
   exact T.le (EnvLe.cons rfl (EnvLe.cons rfl EnvLe.nil)) (T.pick [0, 2, 1] 3 rfl rfl nla rfl (J1 true () hr))

noncomputable def schema_Encode.k3 (s3 : List UInt8) : Option (List UInt8 × Int) :=
  some (s3, 0)
noncomputable def schema_Encode.k4 (s4 : List UInt8 × Int) (a0 : (List UInt8) × (List ((List UInt8) × Int × Int)) × (List (Int × Bool))) (s5 : Int) : Option ((List UInt8 × Int) ⊕ (List UInt8)) :=
  chk (0 ≤ s5 ∧ s5 < 256) (chk ((s4.1.length + (([(u8 (IntKind.u8.wrap (((((a0.2.2).getD (s4.2 : Int).toNat default)).1)))), (u8 s5)] : List UInt8)).length) * 1 ≤ 140737488355328) (some (.inl ((s4.1 ++ (([(u8 (IntKind.u8.wrap (((((a0.2.2).getD (s4.2 : Int).toNat default)).1)))), (u8 s5)] : List UInt8))), IntKind.i64.wrap (s4.2 + 1)))))
noncomputable def schema_Encode.st1 (a0 : (List UInt8) × (List ((List UInt8) × Int × Int)) × (List (Int × Bool))) (s4 : List UInt8 × Int) : Option ((List UInt8 × Int) ⊕ (List UInt8)) :=
  (if ((decide (s4.2 < ((a0.2.2.length : Int))))) = true then chk (0 ≤ s4.2 ∧ s4.2 < (a0.2.2.length : Int)) ((if (((((a0.2.2).getD (s4.2 : Int).toNat default)).2)) = true then schema_Encode.k4 s4 a0 1 else schema_Encode.k4 s4 a0 0)) else some (.inr s4.1))
noncomputable def schema_Encode.k2 (a0 : (List UInt8) × (List ((List UInt8) × Int × Int)) × (List (Int × Bool))) (s2 : List UInt8) : Option (List UInt8 × Int) :=
  chk ((s2.length + (([(u8 (IntKind.u8.wrap ((a0.2.2.length : Int))))] : List UInt8)).length) * 1 ≤ 140737488355328) ((loop (schema_Encode.st1 a0) ((s2 ++ (([(u8 (IntKind.u8.wrap ((a0.2.2.length : Int))))] : List UInt8))), 0)).bind (fun e1 => schema_Encode.k3 e1))
noncomputable def schema_Encode.st2 (a0 : (List UInt8) × (List ((List UInt8) × Int × Int)) × (List (Int × Bool))) (s6 : List UInt8 × Int) : Option ((List UInt8 × Int) ⊕ (List UInt8)) :=
  (if ((decide (s6.2 < ((a0.2.1.length : Int))))) = true then chk (0 ≤ s6.2 ∧ s6.2 < (a0.2.1.length : Int)) ((wire_Bytes.impl (((((a0.2.1).getD (s6.2 : Int).toNat default)).1))).bind fun r2 => chk ((s6.1.length + r2.length) * 1 ≤ 140737488355328) (chk ((((s6.1 ++ r2)).length + (([(u8 (IntKind.u8.wrap (((((a0.2.1).getD (s6.2 : Int).toNat default)).2.1)))), (u8 (IntKind.u8.wrap (((((a0.2.1).getD (s6.2 : Int).toNat default)).2.2))))] : List UInt8)).length) * 1 ≤ 140737488355328) (some (.inl ((((s6.1 ++ r2)) ++ (([(u8 (IntKind.u8.wrap (((((a0.2.1).getD (s6.2 : Int).toNat default)).2.1)))), (u8 (IntKind.u8.wrap (((((a0.2.1).getD (s6.2 : Int).toNat default)).2.2))))] : List UInt8))), IntKind.i64.wrap (s6.2 + 1)))))) else some (.inr s6.1))
noncomputable def schema_Encode.k1 (a0 : (List UInt8) × (List ((List UInt8) × Int × Int)) × (List (Int × Bool))) (s1 : List UInt8) : Option (List UInt8 × Int) :=
  (loop (schema_Encode.st2 a0) (s1, 0)).bind (fun e2 => schema_Encode.k2 a0 e2)
noncomputable def schema_Encode.impl (a0 : (List UInt8) × (List ((List UInt8) × Int × Int)) × (List (Int × Bool))) : Option (List UInt8 × Int) :=
  (schema_Right.impl a0).bind fun r1 => (if ((!(decide (r1 = 0)))) = true then some (([] : List UInt8), r1) else (wire_Bytes.impl a0.1).bind fun r3 => chk ((r3.length + (([(u8 (IntKind.u8.wrap ((a0.2.1.length : Int))))] : List UInt8)).length) * 1 ≤ 140737488355328) (schema_Encode.k1 a0 (r3 ++ (([(u8 (IntKind.u8.wrap ((a0.2.1.length : Int))))] : List UInt8)))))
set_option maxRecDepth 100000 in
set_option maxHeartbeats 4000000 in
theorem schema_Encode.c {B : World} {hs : List MP} {w : World} {a0 : (List UInt8) × (List ((List UInt8) × Int × Int)) × (List (Int × Bool))} {i0a c0a : Nat} {A0a : Option Addr} {i0b c0b : Nat} {A0b : Option Addr} (hB : Base B) (hS : St B hs w) (h0a : (hs)[i0a]? = some (Ro (Elt.pair EStr (Elt.pair E64 E64)) A0a c0a a0.2.1)) (h0b : (hs)[i0b]? = some (Ro (Elt.pair E64 EBool) A0b c0b a0.2.2)) {r : List UInt8 × Int} (hr : schema_Encode.impl a0 = some r) :
    Calls Tryd.prog 52 #[.agg #[str a0.1, .slice A0a a0.2.1.length c0a, .slice A0b a0.2.2.length c0b]] w fun e w' => ∃ x : (Option Addr × Nat), e = .returned (.tuple #[.slice x.1 r.1.length x.2, .int .i64 r.2]) ∧ St B (Bf E8 5 x.1 x.2 r.1 :: hs) w' := by
 unfold schema_Encode.impl at hr
 refine calls_T Tryd.func52 rfl rfl rfl hS ?_
 refine T.front i0a h0a (T.front (i0b + 1) h0b (T.seq (T.region ?_)))
 refine T.boxS .list rfl w0 rfl rfl (cs := [str a0.1, .slice A0a a0.2.1.length c0a, .slice A0b a0.2.2.length c0b]) rfl (fun b1 => ?_)
 refine T.asg rfl rfl rfl rfl (T.asg rfl rfl rfl rfl (T.nil (T.then_normal (T.seq (T.seq (T.region (T.loadN .list 0 rfl rfl w0 rfl rfl (vs := [str a0.1, .slice A0a a0.2.1.length c0a, .slice A0b a0.2.2.length c0b]) rfl rfl ?_)))))))
 obtain ⟨r1, hg1, hr⟩ := inv_bind hr
 refine T.call .list w0 rfl (run_callF (vs := [_]) rfl Tryd.func71 rfl (by decide) rfl) (fun w hS => schema_Right.c hB hS (i0a := 2) (i0b := 1) (a0 := a0) rfl rfl hg1) (fun x1 => ?_)
 refine T.asg rfl rfl rfl rfl (T.nil (T.then_normal (T.seq (T.region (T.mv rfl rfl rfl rfl (T.bin .list rfl w0 rfl rfl rfl rfl (T.nil (T.then_normal ?_))))))))
 refine T.cond rfl (fun hb1 => ?_) (fun hb1 => ?_)
 ·replace hr := inv_posB hb1 hr
  refine T.seq (T.region (T.mv rfl rfl rfl rfl (T.asg rfl rfl rfl rfl (T.asg rfl rfl rfl rfl (T.nil (T.then_normal (T.ret (T.then_ret ?_))))))))
  obtain rfl := inv_some hr
  refine T.nilBf E8 5 (T.pick [0] 4 rfl rfl nla rfl ?_)
  refine T.ret2 rfl rfl rfl (fun w hS => ⟨(none, 0), rfl, hS⟩)
 ·replace hr := inv_negB hb1 hr
  refine T.skip (T.then_normal ?_)
  refine T.seqJ (fun (s1 : List UInt8) (x2 : (Option Addr × Nat)) => [(1, .pointer (some ⟨b1, 0, none⟩)), (5, .slice x2.1 s1.length x2.2)]) (fun s1 x2 => Cl b1 62 [str a0.1, .slice A0a a0.2.1.length c0a, .slice A0b a0.2.2.length c0b] :: Ro (Elt.pair EStr (Elt.pair E64 E64)) A0a c0a a0.2.1 :: Ro (Elt.pair E64 EBool) A0b c0b a0.2.2 :: Bf E8 5 x2.1 x2.2 s1 :: hs) (fun s1 => schema_Encode.k1 a0 s1 = some r) (fun s1 x2 hk1 => ?_) (fun J1 => ?_)
  ·unfold schema_Encode.k1 at hk1
   refine T.seqJ (fun (s2 : List UInt8) (x3 : (Option Addr × Nat)) => [(1, .pointer (some ⟨b1, 0, none⟩)), (5, .slice x3.1 s2.length x3.2)]) (fun s2 x3 => Cl b1 62 [str a0.1, .slice A0a a0.2.1.length c0a, .slice A0b a0.2.2.length c0b] :: Ro (Elt.pair EStr (Elt.pair E64 E64)) A0a c0a a0.2.1 :: Ro (Elt.pair E64 EBool) A0b c0b a0.2.2 :: Bf E8 5 x3.1 x3.2 s2 :: hs) (fun s2 => schema_Encode.k2 a0 s2 = some r) (fun s2 x3 hk2 => ?_) (fun J2 => ?_)
   ·unfold schema_Encode.k2 at hk2
    refine T.seq (T.region (T.mv rfl rfl rfl rfl (T.field .list rfl w0 rfl rfl (T.load .list 0 rfl rfl w0 rfl rfl rfl (T.lenSlice .list rfl w0 rfl rfl (T.conv .list rfl w0 rfl rfl rfl ?_))))))
    refine T.lit (E := E8) .list (vals := [(0, .int .u8 (IntKind.u8.wrap ((a0.2.2.length : Int))))]) (cells := #[.int .u8 (IntKind.u8.wrap ((a0.2.2.length : Int)))]) rfl w0 rfl rfl rfl rfl rfl (by kernel_rfl) ([(u8 (IntKind.u8.wrap ((a0.2.2.length : Int))))] : List UInt8) rfl (fun _ _ _ _ _ => (Encs.c1 (enc := b8) (h1 := fun _ => rfl) (b8_wrap _) rfl)) (fun b2 => ?_)
    obtain ⟨hc1, hk2⟩ := inv_chk hk2
    refine T.appBf .list 4 0 rfl rfl rfl rfl rfl w0 rfl rfl rfl rfl rfl rfl hc1 (fun _ _ => rfl) (fun A2 c2 => ?_)
    refine T.asg rfl rfl rfl rfl (T.nil (T.then_normal ?_))
    refine T.seqJ (fun (s3 : List UInt8) (x4 : (Option Addr × Nat)) => [(5, .slice x4.1 s3.length x4.2)]) (fun s3 x4 => Bf E8 5 x4.1 x4.2 s3 :: hs) (fun s3 => schema_Encode.k3 s3 = some r) (fun s3 x4 hk3 => ?_) (fun J3 => ?_)
    ·unfold schema_Encode.k3 at hk3
     refine T.seq (T.region (T.mv rfl rfl rfl rfl (T.asg rfl rfl rfl rfl (T.asg rfl rfl rfl rfl (T.nil (T.then_normal (T.ret ?_)))))))
     obtain rfl := inv_some hk3
     refine T.pick [0] 1 rfl rfl nla rfl ?_
     refine T.ret2 rfl rfl rfl (fun w hS => ⟨x4, rfl, hS⟩)
    ·refine T.seq (T.region (T.field .list rfl w0 rfl rfl (T.load .list 1 rfl rfl w0 rfl rfl rfl (T.lenSlice .list rfl w0 rfl rfl (T.mv rfl rfl rfl rfl (T.nil (T.then_normal (T.block ?_))))))))
     obtain ⟨e1, hl1, hk2⟩ := inv_bind hk2
     refine T.le (EnvLe.cons rfl (EnvLe.cons rfl (EnvLe.cons rfl (EnvLe.cons rfl EnvLe.nil)))) (T.pick [4, 3] 5 rfl rfl nla rfl (T.loop (s0 := ((s2 ++ (([(u8 (IntKind.u8.wrap ((a0.2.2.length : Int))))] : List UInt8))), 0)) (env := fun s4 x5 => [(5, .slice x5.1 s4.1.length x5.2), (56, .slice A0b a0.2.2.length c0b), (57, .int .i64 ((a0.2.2.length : Int))), (58, .int .i64 s4.2)]) (hs := fun (s4 : List UInt8 × Int) (x5 : (Option Addr × Nat)) => Bf E8 5 x5.1 x5.2 s4.1 :: Ro (Elt.pair E64 EBool) A0b c0b a0.2.2 :: hs) hl1 (A2, c2) (fun K1 s4 x5 o1 he1 hm1 hx1 => ?_)))
     unfold schema_Encode.st1 at he1
     refine T.seq (T.region (T.bin .list rfl w0 rfl rfl rfl rfl (T.nil (T.then_normal (T.seq ?_)))))
     refine T.cond rfl (fun hb2 => ?_) (fun hb2 => ?_)
     ·replace he1 := inv_posB hb2 he1
      refine T.skip (T.then_normal (T.seq (T.block (T.seq (T.region ?_)))))
      obtain ⟨hc2, he1⟩ := inv_chk he1
      refine T.idxRo .list 1 rfl rfl w0 rfl rfl rfl hc2.1 hc2.2 (Nat.le_refl _) ?_
      refine T.ldFRo 1 .list Fd.self (Sh.pair Sh.sc Sh.sc) rfl (.inl rfl) rfl rfl hc2.1 hc2.2 rfl w0 rfl rfl rfl (v := fun x6 => .agg #[.int .i64 (((((a0.2.2).getD (s4.2 : Int).toNat default)).1)), .bool (((((a0.2.2).getD (s4.2 : Int).toNat default)).2))]) (hs' := fun x6 => Bf E8 5 x5.1 x5.2 s4.1 :: Ro (Elt.pair E64 EBool) A0b c0b a0.2.2 :: hs) (fun _ => rfl) (fun _ => rfl) (fun x6 => ?_)
      refine T.allocS .list rfl w0 rfl (cs := [.int .i64 0, .bool false]) rfl (fun b3 => ?_)
      refine T.store .list 0 rfl rfl w0 rfl rfl rfl rfl (Nat.le_of_ble_eq_true rfl) rfl (cs' := [.int .i64 (((((a0.2.2).getD (s4.2 : Int).toNat default)).1)), .bool (((((a0.2.2).getD (s4.2 : Int).toNat default)).2))]) rfl rfl (T.nil (T.then_normal (T.seq (T.region (T.asg rfl rfl rfl rfl (T.nil (T.then_normal ?_)))))))
      refine T.seqJ (fun (s5 : Int) (x7 : Unit) => [(5, .slice x5.1 s4.1.length x5.2), (9, .pointer (some ⟨b3, 0, none⟩)), (10, .int .u8 s5), (56, .slice A0b a0.2.2.length c0b), (57, .int .i64 ((a0.2.2.length : Int))), (58, .int .i64 s4.2)]) (fun s5 x7 => Bf E8 5 x5.1 x5.2 s4.1 :: Cl b3 131 [.int .i64 (((((a0.2.2).getD (s4.2 : Int).toNat default)).1)), .bool (((((a0.2.2).getD (s4.2 : Int).toNat default)).2))] :: Ro (Elt.pair E64 EBool) A0b c0b a0.2.2 :: hs) (fun s5 => schema_Encode.k4 s4 a0 s5 = some o1) (fun s5 x7 hk4 => ?_) (fun J4 => ?_)
      ·unfold schema_Encode.k4 at hk4
       refine T.region (T.mv rfl rfl rfl rfl (T.field .list rfl w0 rfl rfl (T.load .list 1 rfl rfl w0 rfl rfl rfl (T.conv .list rfl w0 rfl rfl rfl (T.mv rfl rfl rfl rfl ?_)))))
       obtain ⟨hc3, hk4⟩ := inv_chk hk4
       refine T.lit (E := E8) .list (vals := [(0, .int .u8 (IntKind.u8.wrap (((((a0.2.2).getD (s4.2 : Int).toNat default)).1)))), (1, .int .u8 s5)]) (cells := #[.int .u8 (IntKind.u8.wrap (((((a0.2.2).getD (s4.2 : Int).toNat default)).1))), .int .u8 s5]) rfl w0 rfl rfl rfl rfl rfl (by kernel_rfl) ([(u8 (IntKind.u8.wrap (((((a0.2.2).getD (s4.2 : Int).toNat default)).1)))), (u8 s5)] : List UInt8) rfl (fun _ _ _ _ _ => (Encs.c1 (enc := b8) (h1 := fun _ => rfl) (b8_wrap _) (Encs.c1 (enc := b8) (h1 := fun _ => rfl) (b8_u8 hc3.1 hc3.2) rfl))) (fun b4 => ?_)
       obtain ⟨hc4, hk4⟩ := inv_chk hk4
       refine T.appBf .list 1 0 rfl rfl rfl rfl rfl w0 rfl rfl rfl rfl rfl rfl hc4 (fun _ _ => rfl) (fun A3 c3 => ?_)
       refine T.asg rfl rfl rfl rfl (T.nil (T.in_normal (T.then_normal (T.region (T.bin .list rfl w0 rfl rfl rfl rfl (T.mv rfl rfl rfl rfl (T.nil (T.then_normal ?_))))))))
       obtain rfl := inv_some hk4
       exact T.le (EnvLe.cons rfl (EnvLe.cons rfl (EnvLe.cons rfl (EnvLe.cons rfl EnvLe.nil)))) (T.pick [1, 3] 4 rfl rfl nla rfl (hm1 ((s4.1 ++ (([(u8 (IntKind.u8.wrap (((((a0.2.2).getD (s4.2 : Int).toNat default)).1)))), (u8 s5)] : List UInt8))), IntKind.i64.wrap (s4.2 + 1)) rfl (A3, c3)))
      ·refine T.seq (T.region (T.field .list rfl w0 rfl rfl (T.load .list 0 rfl rfl w0 rfl rfl rfl (T.nil (T.then_normal ?_)))))
       refine T.cond rfl (fun hb3 => ?_) (fun hb3 => ?_)
       ·replace he1 := inv_posB hb3 he1
        refine T.region (T.asg rfl rfl rfl rfl (T.nil (T.then_normal ?_)))
        exact T.le (EnvLe.cons rfl (EnvLe.cons rfl (EnvLe.cons rfl (EnvLe.cons rfl (EnvLe.cons rfl (EnvLe.cons rfl EnvLe.nil)))))) (T.pick [1, 0, 2] 3 rfl rfl nla rfl (J4 1 () he1))
       ·replace he1 := inv_negB hb3 he1
        refine T.skip (T.then_normal ?_)
        exact T.le (EnvLe.cons rfl (EnvLe.cons rfl (EnvLe.cons rfl (EnvLe.cons rfl (EnvLe.cons rfl (EnvLe.cons rfl EnvLe.nil)))))) (T.pick [1, 0, 2] 3 rfl rfl nla rfl (J4 0 () he1))
     ·replace he1 := inv_negB hb2 he1
      refine T.exit (T.then_exit (T.then_exit ?_))
      obtain rfl := inv_some he1
      obtain rfl := hx1 _ rfl
      refine T.in_hit (T.then_normal ?_)
      exact T.le (EnvLe.cons rfl EnvLe.nil) (T.pick [0] 2 rfl rfl nla rfl (J3 s4.1 x5 hk2))
   ·refine T.seq (T.region (T.field .list rfl w0 rfl rfl (T.load .list 0 rfl rfl w0 rfl rfl rfl (T.lenSlice .list rfl w0 rfl rfl (T.mv rfl rfl rfl rfl (T.nil (T.then_normal (T.block ?_))))))))
    obtain ⟨e2, hl2, hk1⟩ := inv_bind hk1
    refine T.le (EnvLe.cons rfl (EnvLe.cons rfl (EnvLe.cons rfl (EnvLe.cons rfl (EnvLe.cons rfl EnvLe.nil))))) (T.pick [0, 1, 2, 3] 4 rfl rfl nla rfl (T.loop (s0 := (s1, 0)) (env := fun s6 x8 => [(1, .pointer (some ⟨b1, 0, none⟩)), (5, .slice x8.1 s6.1.length x8.2), (27, .slice A0a a0.2.1.length c0a), (28, .int .i64 ((a0.2.1.length : Int))), (29, .int .i64 s6.2)]) (hs := fun (s6 : List UInt8 × Int) (x8 : (Option Addr × Nat)) => Cl b1 62 [str a0.1, .slice A0a a0.2.1.length c0a, .slice A0b a0.2.2.length c0b] :: Ro (Elt.pair EStr (Elt.pair E64 E64)) A0a c0a a0.2.1 :: Ro (Elt.pair E64 EBool) A0b c0b a0.2.2 :: Bf E8 5 x8.1 x8.2 s6.1 :: hs) hl2 x2 (fun K2 s6 x8 o2 he2 hm2 hx2 => ?_)))
    unfold schema_Encode.st2 at he2
    refine T.seq (T.region (T.bin .list rfl w0 rfl rfl rfl rfl (T.nil (T.then_normal (T.seq ?_)))))
    refine T.cond rfl (fun hb4 => ?_) (fun hb4 => ?_)
    ·replace he2 := inv_posB hb4 he2
     refine T.skip (T.then_normal (T.seq (T.block (T.seq (T.region ?_)))))
     obtain ⟨hc5, he2⟩ := inv_chk he2
     refine T.idxRo .list 1 rfl rfl w0 rfl rfl rfl hc5.1 hc5.2 (Nat.le_refl _) ?_
     refine T.ldFRo 1 .list Fd.self (Sh.pair Sh.sc (Sh.pair Sh.sc Sh.sc)) rfl (.inl rfl) rfl rfl hc5.1 hc5.2 rfl w0 rfl rfl rfl (v := fun x9 => .agg #[str (((((a0.2.1).getD (s6.2 : Int).toNat default)).1)), .int .i64 (((((a0.2.1).getD (s6.2 : Int).toNat default)).2.1)), .int .i64 (((((a0.2.1).getD (s6.2 : Int).toNat default)).2.2))]) (hs' := fun x9 => Cl b1 62 [str a0.1, .slice A0a a0.2.1.length c0a, .slice A0b a0.2.2.length c0b] :: Ro (Elt.pair EStr (Elt.pair E64 E64)) A0a c0a a0.2.1 :: Ro (Elt.pair E64 EBool) A0b c0b a0.2.2 :: Bf E8 5 x8.1 x8.2 s6.1 :: hs) (fun _ => rfl) (fun _ => rfl) (fun x9 => ?_)
     refine T.allocS .list rfl w0 rfl (cs := [str (([] : List UInt8)), .int .i64 0, .int .i64 0]) rfl (fun b5 => ?_)
     refine T.store .list 0 rfl rfl w0 rfl rfl rfl rfl (Nat.le_of_ble_eq_true rfl) rfl (cs' := [str (((((a0.2.1).getD (s6.2 : Int).toNat default)).1)), .int .i64 (((((a0.2.1).getD (s6.2 : Int).toNat default)).2.1)), .int .i64 (((((a0.2.1).getD (s6.2 : Int).toNat default)).2.2))]) rfl rfl (T.nil (T.then_normal (T.dStart mixed (T.move (.dPure (i := 0) rfl (by kernel_rfl) (fun d _ _ _ _ h => by cases d <;> exact h)) rfl w0 rfl rfl (T.field (.dPure (i := 1) rfl (by kernel_rfl) (fun d _ _ _ _ h => by cases d <;> exact h)) rfl w0 rfl rfl (T.field (.dPure (i := 6) rfl (by kernel_rfl) (fun d _ _ _ _ h => by cases d <;> exact h)) rfl w0 rfl rfl (T.field (.dPure (i := 9) rfl (by kernel_rfl) (fun d _ _ _ _ h => by cases d <;> exact h)) rfl w0 rfl rfl (T.dAdd 15 (fun w => w.heap[b5]? = some (.cells [str (((((a0.2.1).getD (s6.2 : Int).toNat default)).1)), .int .i64 (((((a0.2.1).getD (s6.2 : Int).toNat default)).2.1)), .int .i64 (((((a0.2.1).getD (s6.2 : Int).toNat default)).2.2))].toArray 129 (0, 0))) (Cl.stays 0 rfl) (T.valS 0 (i := 2) (str (((((a0.2.1).getD (s6.2 : Int).toNat default)).1))) rfl rfl (by kernel_rfl) (by kernel_rfl) (fun d _ _ _ _ h => by cases d <;> exact h) w0 rfl (run_ldCl rfl rfl rfl) (T.valS 0 (i := 7) (.int .i64 (((((a0.2.1).getD (s6.2 : Int).toNat default)).2.1))) rfl rfl (by kernel_rfl) (by kernel_rfl) (fun d _ _ _ _ h => by cases d <;> exact h) w0 rfl (run_ldCl rfl rfl rfl) (T.conv (.dPure (i := 8) rfl (by kernel_rfl) (fun d _ _ _ _ h => by cases d <;> exact h)) rfl w0 rfl rfl rfl ?_)))))))))))
     refine T.valS 0 (i := 10) (.int .i64 (((((a0.2.1).getD (s6.2 : Int).toNat default)).2.2))) rfl rfl (by kernel_rfl) (by kernel_rfl) (fun d _ _ _ _ h => by cases d <;> exact h) w0 rfl (run_ldCl rfl rfl rfl) (T.conv (.dPure (i := 11) rfl (by kernel_rfl) (fun d _ _ _ _ h => by cases d <;> exact h)) rfl w0 rfl rfl rfl ?_)
     obtain ⟨r2, hg2, he2⟩ := inv_bind he2
     obtain ⟨hc6, he2⟩ := inv_chk he2
     obtain ⟨hc7, he2⟩ := inv_chk he2
     refine T.d2 (i := 3) (j := 12) (by kernel_rfl) ?_ ?_ 
     ·refine T.bytesOf (.dOne rfl (by kernel_rfl)) rfl w0 rfl (l := (((((a0.2.1).getD (s6.2 : Int).toNat default)).1))) rfl (fun q1 => ?_)
      refine T.dNext (phi_cons (.inr (Cl.stays 1 rfl)) phi_nil) ?_
      refine T.d2 (i := 4) (j := 12) (by kernel_rfl) ?_ ?_ 
      ·refine T.call (.dOne rfl (by kernel_rfl)) w0 rfl (run_callF (vs := [_]) rfl Tryd.func20 rfl (by decide) rfl) (fun w hS => wire_Bytes.c hB hS (i0 := 0) rfl hg2) (fun x10 => ?_)
       refine T.dNext (phi_cons (.inr (Cl.stays 2 rfl)) phi_nil) ?_
       refine T.d2 (i := 5) (j := 12) (by kernel_rfl) ?_ ?_ 
       ·refine T.appBf (.dOne rfl (by kernel_rfl)) 6 0 rfl rfl rfl rfl rfl w0 rfl rfl rfl rfl rfl rfl hc6 (fun _ _ => rfl) (fun A4 c4 => ?_)
        refine T.dNext (phi_cons (.inr (Cl.stays 2 rfl)) phi_nil) (T.dOnly (i := 12) (by kernel_rfl) ?_)
        refine T.lit (E := E8) (.dOne rfl (by kernel_rfl)) (vals := [(0, .int .u8 (IntKind.u8.wrap (((((a0.2.1).getD (s6.2 : Int).toNat default)).2.1)))), (1, .int .u8 (IntKind.u8.wrap (((((a0.2.1).getD (s6.2 : Int).toNat default)).2.2))))]) (cells := #[.int .u8 (IntKind.u8.wrap (((((a0.2.1).getD (s6.2 : Int).toNat default)).2.1))), .int .u8 (IntKind.u8.wrap (((((a0.2.1).getD (s6.2 : Int).toNat default)).2.2)))]) rfl w0 rfl rfl rfl rfl rfl (by kernel_rfl) ([(u8 (IntKind.u8.wrap (((((a0.2.1).getD (s6.2 : Int).toNat default)).2.1)))), (u8 (IntKind.u8.wrap (((((a0.2.1).getD (s6.2 : Int).toNat default)).2.2))))] : List UInt8) rfl (fun _ _ _ _ _ => (Encs.c1 (enc := b8) (h1 := fun _ => rfl) (b8_wrap _) (Encs.c1 (enc := b8) (h1 := fun _ => rfl) (b8_wrap _) rfl))) (fun b6 => ?_)
        refine T.dNext (phi_cons (.inr (Cl.stays 3 rfl)) phi_nil) (T.dOnly (i := 13) (by kernel_rfl) ?_)
        refine T.appBf (.dOne rfl (by kernel_rfl)) 7 0 rfl rfl rfl rfl rfl w0 rfl rfl rfl rfl rfl rfl hc7 (fun _ _ => rfl) (fun A5 c5 => ?_)
        refine T.dNext (phi_cons (.inr (Cl.stays 3 rfl)) phi_nil) (T.assign (.dPure (i := 14) rfl (by kernel_rfl) (fun d _ _ _ _ h => by cases d <;> exact h)) rfl w0 rfl rfl (T.dDone (by kernel_rfl) (T.in_normal (T.then_normal (T.region (T.bin .list rfl w0 rfl rfl rfl rfl (T.mv rfl rfl rfl rfl (T.nil (T.then_normal ?_)))))))))
        obtain rfl := inv_some he2
        exact T.le (EnvLe.cons rfl (EnvLe.cons rfl (EnvLe.cons rfl (EnvLe.cons rfl (EnvLe.cons rfl EnvLe.nil))))) (T.pick [4, 5, 6, 7] 8 rfl rfl nla rfl (hm2 ((((s6.1 ++ r2)) ++ (([(u8 (IntKind.u8.wrap (((((a0.2.1).getD (s6.2 : Int).toNat default)).2.1)))), (u8 (IntKind.u8.wrap (((((a0.2.1).getD (s6.2 : Int).toNat default)).2.2))))] : List UInt8))), IntKind.i64.wrap (s6.2 + 1)) rfl (A5, c5)))
       ·refine T.lit (E := E8) (.dOne rfl (by kernel_rfl)) (vals := [(0, .int .u8 (IntKind.u8.wrap (((((a0.2.1).getD (s6.2 : Int).toNat default)).2.1)))), (1, .int .u8 (IntKind.u8.wrap (((((a0.2.1).getD (s6.2 : Int).toNat default)).2.2))))]) (cells := #[.int .u8 (IntKind.u8.wrap (((((a0.2.1).getD (s6.2 : Int).toNat default)).2.1))), .int .u8 (IntKind.u8.wrap (((((a0.2.1).getD (s6.2 : Int).toNat default)).2.2)))]) rfl w0 rfl rfl rfl rfl rfl (by kernel_rfl) ([(u8 (IntKind.u8.wrap (((((a0.2.1).getD (s6.2 : Int).toNat default)).2.1)))), (u8 (IntKind.u8.wrap (((((a0.2.1).getD (s6.2 : Int).toNat default)).2.2))))] : List UInt8) rfl (fun _ _ _ _ _ => (Encs.c1 (enc := b8) (h1 := fun _ => rfl) (b8_wrap _) (Encs.c1 (enc := b8) (h1 := fun _ => rfl) (b8_wrap _) rfl))) (fun b6 => ?_)
        refine T.dNext (phi_cons (.inr (Cl.stays 3 rfl)) phi_nil) (T.dOnly (i := 5) (by kernel_rfl) ?_)
        refine T.appBf (.dOne rfl (by kernel_rfl)) 7 1 rfl rfl rfl rfl rfl w0 rfl rfl rfl rfl rfl rfl hc6 (fun _ _ => rfl) (fun A4 c4 => ?_)
        refine T.dNext (phi_cons (.inr (Cl.stays 3 rfl)) phi_nil) (T.dOnly (i := 13) (by kernel_rfl) ?_)
        refine T.appBf (.dOne rfl (by kernel_rfl)) 7 0 rfl rfl rfl rfl rfl w0 rfl rfl rfl rfl rfl rfl hc7 (fun _ _ => rfl) (fun A5 c5 => ?_)
        refine T.dNext (phi_cons (.inr (Cl.stays 3 rfl)) phi_nil) (T.assign (.dPure (i := 14) rfl (by kernel_rfl) (fun d _ _ _ _ h => by cases d <;> exact h)) rfl w0 rfl rfl (T.dDone (by kernel_rfl) (T.in_normal (T.then_normal (T.region (T.bin .list rfl w0 rfl rfl rfl rfl (T.mv rfl rfl rfl rfl (T.nil (T.then_normal ?_)))))))))
        obtain rfl := inv_some he2
        exact T.le (EnvLe.cons rfl (EnvLe.cons rfl (EnvLe.cons rfl (EnvLe.cons rfl (EnvLe.cons rfl EnvLe.nil))))) (T.pick [4, 5, 6, 7] 8 rfl rfl nla rfl (hm2 ((((s6.1 ++ r2)) ++ (([(u8 (IntKind.u8.wrap (((((a0.2.1).getD (s6.2 : Int).toNat default)).2.1)))), (u8 (IntKind.u8.wrap (((((a0.2.1).getD (s6.2 : Int).toNat default)).2.2))))] : List UInt8))), IntKind.i64.wrap (s6.2 + 1)) rfl (A5, c5)))
      ·refine T.lit (E := E8) (.dOne rfl (by kernel_rfl)) (vals := [(0, .int .u8 (IntKind.u8.wrap (((((a0.2.1).getD (s6.2 : Int).toNat default)).2.1)))), (1, .int .u8 (IntKind.u8.wrap (((((a0.2.1).getD (s6.2 : Int).toNat default)).2.2))))]) (cells := #[.int .u8 (IntKind.u8.wrap (((((a0.2.1).getD (s6.2 : Int).toNat default)).2.1))), .int .u8 (IntKind.u8.wrap (((((a0.2.1).getD (s6.2 : Int).toNat default)).2.2)))]) rfl w0 rfl rfl rfl rfl rfl (by kernel_rfl) ([(u8 (IntKind.u8.wrap (((((a0.2.1).getD (s6.2 : Int).toNat default)).2.1)))), (u8 (IntKind.u8.wrap (((((a0.2.1).getD (s6.2 : Int).toNat default)).2.2))))] : List UInt8) rfl (fun _ _ _ _ _ => (Encs.c1 (enc := b8) (h1 := fun _ => rfl) (b8_wrap _) (Encs.c1 (enc := b8) (h1 := fun _ => rfl) (b8_wrap _) rfl))) (fun b6 => ?_)
       refine T.dNext (phi_cons (.inr (Cl.stays 2 rfl)) phi_nil) (T.dOnly (i := 4) (by kernel_rfl) ?_)
       refine T.call (.dOne rfl (by kernel_rfl)) w0 rfl (run_callF (vs := [_]) rfl Tryd.func20 rfl (by decide) rfl) (fun w hS => wire_Bytes.c hB hS (i0 := 1) rfl hg2) (fun x10 => ?_)
       refine T.dNext (phi_cons (.inr (Cl.stays 3 rfl)) phi_nil) (T.dOnly (i := 5) (by kernel_rfl) ?_)
       refine T.appBf (.dOne rfl (by kernel_rfl)) 7 0 rfl rfl rfl rfl rfl w0 rfl rfl rfl rfl rfl rfl hc6 (fun _ _ => rfl) (fun A4 c4 => ?_)
       refine T.dNext (phi_cons (.inr (Cl.stays 3 rfl)) phi_nil) (T.dOnly (i := 13) (by kernel_rfl) ?_)
       refine T.appBf (.dOne rfl (by kernel_rfl)) 7 1 rfl rfl rfl rfl rfl w0 rfl rfl rfl rfl rfl rfl hc7 (fun _ _ => rfl) (fun A5 c5 => ?_)
       refine T.dNext (phi_cons (.inr (Cl.stays 3 rfl)) phi_nil) (T.assign (.dPure (i := 14) rfl (by kernel_rfl) (fun d _ _ _ _ h => by cases d <;> exact h)) rfl w0 rfl rfl (T.dDone (by kernel_rfl) (T.in_normal (T.then_normal (T.region (T.bin .list rfl w0 rfl rfl rfl rfl (T.mv rfl rfl rfl rfl (T.nil (T.then_normal ?_)))))))))
       obtain rfl := inv_some he2
       exact T.le (EnvLe.cons rfl (EnvLe.cons rfl (EnvLe.cons rfl (EnvLe.cons rfl (EnvLe.cons rfl EnvLe.nil))))) (T.pick [4, 5, 6, 7] 8 rfl rfl nla rfl (hm2 ((((s6.1 ++ r2)) ++ (([(u8 (IntKind.u8.wrap (((((a0.2.1).getD (s6.2 : Int).toNat default)).2.1)))), (u8 (IntKind.u8.wrap (((((a0.2.1).getD (s6.2 : Int).toNat default)).2.2))))] : List UInt8))), IntKind.i64.wrap (s6.2 + 1)) rfl (A5, c5)))
     ·refine T.lit (E := E8) (.dOne rfl (by kernel_rfl)) (vals := [(0, .int .u8 (IntKind.u8.wrap (((((a0.2.1).getD (s6.2 : Int).toNat default)).2.1)))), (1, .int .u8 (IntKind.u8.wrap (((((a0.2.1).getD (s6.2 : Int).toNat default)).2.2))))]) (cells := #[.int .u8 (IntKind.u8.wrap (((((a0.2.1).getD (s6.2 : Int).toNat default)).2.1))), .int .u8 (IntKind.u8.wrap (((((a0.2.1).getD (s6.2 : Int).toNat default)).2.2)))]) rfl w0 rfl rfl rfl rfl rfl (by kernel_rfl) ([(u8 (IntKind.u8.wrap (((((a0.2.1).getD (s6.2 : Int).toNat default)).2.1)))), (u8 (IntKind.u8.wrap (((((a0.2.1).getD (s6.2 : Int).toNat default)).2.2))))] : List UInt8) rfl (fun _ _ _ _ _ => (Encs.c1 (enc := b8) (h1 := fun _ => rfl) (b8_wrap _) (Encs.c1 (enc := b8) (h1 := fun _ => rfl) (b8_wrap _) rfl))) (fun b6 => ?_)
      refine T.dNext (phi_cons (.inr (Cl.stays 1 rfl)) phi_nil) (T.dOnly (i := 3) (by kernel_rfl) ?_)
      refine T.bytesOf (.dOne rfl (by kernel_rfl)) rfl w0 rfl (l := (((((a0.2.1).getD (s6.2 : Int).toNat default)).1))) rfl (fun q1 => ?_)
      refine T.dNext (phi_cons (.inr (Cl.stays 2 rfl)) phi_nil) (T.dOnly (i := 4) (by kernel_rfl) ?_)
      refine T.call (.dOne rfl (by kernel_rfl)) w0 rfl (run_callF (vs := [_]) rfl Tryd.func20 rfl (by decide) rfl) (fun w hS => wire_Bytes.c hB hS (i0 := 0) rfl hg2) (fun x10 => ?_)
      refine T.dNext (phi_cons (.inr (Cl.stays 3 rfl)) phi_nil) (T.dOnly (i := 5) (by kernel_rfl) ?_)
      refine T.appBf (.dOne rfl (by kernel_rfl)) 7 0 rfl rfl rfl rfl rfl w0 rfl rfl rfl rfl rfl rfl hc6 (fun _ _ => rfl) (fun A4 c4 => ?_)
      refine T.dNext (phi_cons (.inr (Cl.stays 3 rfl)) phi_nil) (T.dOnly (i := 13) (by kernel_rfl) ?_)
      refine T.appBf (.dOne rfl (by kernel_rfl)) 7 2 rfl rfl rfl rfl rfl w0 rfl rfl rfl rfl rfl rfl hc7 (fun _ _ => rfl) (fun A5 c5 => ?_)
      refine T.dNext (phi_cons (.inr (Cl.stays 3 rfl)) phi_nil) (T.assign (.dPure (i := 14) rfl (by kernel_rfl) (fun d _ _ _ _ h => by cases d <;> exact h)) rfl w0 rfl rfl (T.dDone (by kernel_rfl) (T.in_normal (T.then_normal (T.region (T.bin .list rfl w0 rfl rfl rfl rfl (T.mv rfl rfl rfl rfl (T.nil (T.then_normal ?_)))))))))
      obtain rfl := inv_some he2
      exact T.le (EnvLe.cons rfl (EnvLe.cons rfl (EnvLe.cons rfl (EnvLe.cons rfl (EnvLe.cons rfl EnvLe.nil))))) (T.pick [4, 5, 6, 7] 8 rfl rfl nla rfl (hm2 ((((s6.1 ++ r2)) ++ (([(u8 (IntKind.u8.wrap (((((a0.2.1).getD (s6.2 : Int).toNat default)).2.1)))), (u8 (IntKind.u8.wrap (((((a0.2.1).getD (s6.2 : Int).toNat default)).2.2))))] : List UInt8))), IntKind.i64.wrap (s6.2 + 1)) rfl (A5, c5)))
    ·replace he2 := inv_negB hb4 he2
     refine T.exit (T.then_exit (T.then_exit ?_))
     obtain rfl := inv_some he2
     obtain rfl := hx2 _ rfl
     refine T.in_hit (T.then_normal ?_)
     exact T.le (EnvLe.cons rfl (EnvLe.cons rfl EnvLe.nil)) (T.pick [0, 1, 2, 3] 4 rfl rfl nla rfl (J2 s6.1 x8 hk1))
  ·refine T.dStart mixed (T.field (.dPure (i := 0) rfl (by kernel_rfl) (fun d _ _ _ _ h => by cases d <;> exact h)) rfl w0 rfl rfl (T.field (.dPure (i := 4) rfl (by kernel_rfl) (fun d _ _ _ _ h => by cases d <;> exact h)) rfl w0 rfl rfl (T.dAdd 11 (fun w => w.heap[b1]? = some (.cells [str a0.1, .slice A0a a0.2.1.length c0a, .slice A0b a0.2.2.length c0b].toArray 62 (0, 0))) (Cl.stays 0 rfl) (T.valS 0 (i := 1) (str a0.1) rfl rfl (by kernel_rfl) (by kernel_rfl) (fun d _ _ _ _ h => by cases d <;> exact h) w0 rfl (run_ldCl rfl rfl rfl) (T.valS 0 (i := 5) (.slice A0a a0.2.1.length c0a) rfl rfl (by kernel_rfl) (by kernel_rfl) (fun d _ _ _ _ h => by cases d <;> exact h) w0 rfl (run_ldCl rfl rfl rfl) (T.lenSlice (.dPure (i := 6) rfl (by kernel_rfl) (fun d _ _ _ _ h => by cases d <;> exact h)) rfl w0 rfl rfl (T.conv (.dPure (i := 7) rfl (by kernel_rfl) (fun d _ _ _ _ h => by cases d <;> exact h)) rfl w0 rfl rfl rfl ?_)))))))
   obtain ⟨r3, hg3, hr⟩ := inv_bind hr
   obtain ⟨hc8, hr⟩ := inv_chk hr
   refine T.d2 (i := 2) (j := 8) (by kernel_rfl) ?_ ?_ 
   ·refine T.bytesOf (.dOne rfl (by kernel_rfl)) rfl w0 rfl (l := a0.1) rfl (fun q2 => ?_)
    refine T.dNext (phi_cons (.inr (Cl.stays 1 rfl)) phi_nil) ?_
    refine T.d2 (i := 3) (j := 8) (by kernel_rfl) ?_ ?_ 
    ·refine T.call (.dOne rfl (by kernel_rfl)) w0 rfl (run_callF (vs := [_]) rfl Tryd.func20 rfl (by decide) rfl) (fun w hS => wire_Bytes.c hB hS (i0 := 0) rfl hg3) (fun x11 => ?_)
     refine T.dNext (phi_cons (.inr (Cl.stays 2 rfl)) phi_nil) (T.dOnly (i := 8) (by kernel_rfl) ?_)
     refine T.lit (E := E8) (.dOne rfl (by kernel_rfl)) (vals := [(0, .int .u8 (IntKind.u8.wrap ((a0.2.1.length : Int))))]) (cells := #[.int .u8 (IntKind.u8.wrap ((a0.2.1.length : Int)))]) rfl w0 rfl rfl rfl rfl rfl (by kernel_rfl) ([(u8 (IntKind.u8.wrap ((a0.2.1.length : Int))))] : List UInt8) rfl (fun _ _ _ _ _ => (Encs.c1 (enc := b8) (h1 := fun _ => rfl) (b8_wrap _) rfl)) (fun b7 => ?_)
     refine T.dNext (phi_cons (.inr (Cl.stays 3 rfl)) phi_nil) (T.dOnly (i := 9) (by kernel_rfl) ?_)
     refine T.appBf (.dOne rfl (by kernel_rfl)) 1 0 rfl rfl rfl rfl rfl w0 rfl rfl rfl rfl rfl rfl hc8 (fun _ _ => rfl) (fun A6 c6 => ?_)
     refine T.dNext (phi_cons (.inr (Cl.stays 3 rfl)) phi_nil) (T.assign (.dPure (i := 10) rfl (by kernel_rfl) (fun d _ _ _ _ h => by cases d <;> exact h)) rfl w0 rfl rfl (T.dDone (by kernel_rfl) (T.then_normal ?_)))
     exact T.le (EnvLe.cons rfl (EnvLe.cons rfl EnvLe.nil)) (T.pick [3, 5, 4, 1] 6 rfl rfl nla rfl (J1 (r3 ++ (([(u8 (IntKind.u8.wrap ((a0.2.1.length : Int))))] : List UInt8))) (A6, c6) hr))
    ·refine T.lit (E := E8) (.dOne rfl (by kernel_rfl)) (vals := [(0, .int .u8 (IntKind.u8.wrap ((a0.2.1.length : Int))))]) (cells := #[.int .u8 (IntKind.u8.wrap ((a0.2.1.length : Int)))]) rfl w0 rfl rfl rfl rfl rfl (by kernel_rfl) ([(u8 (IntKind.u8.wrap ((a0.2.1.length : Int))))] : List UInt8) rfl (fun _ _ _ _ _ => (Encs.c1 (enc := b8) (h1 := fun _ => rfl) (b8_wrap _) rfl)) (fun b7 => ?_)
     refine T.dNext (phi_cons (.inr (Cl.stays 2 rfl)) phi_nil) (T.dOnly (i := 3) (by kernel_rfl) ?_)
     refine T.call (.dOne rfl (by kernel_rfl)) w0 rfl (run_callF (vs := [_]) rfl Tryd.func20 rfl (by decide) rfl) (fun w hS => wire_Bytes.c hB hS (i0 := 1) rfl hg3) (fun x11 => ?_)
     refine T.dNext (phi_cons (.inr (Cl.stays 3 rfl)) phi_nil) (T.dOnly (i := 9) (by kernel_rfl) ?_)
     refine T.appBf (.dOne rfl (by kernel_rfl)) 0 1 rfl rfl rfl rfl rfl w0 rfl rfl rfl rfl rfl rfl hc8 (fun _ _ => rfl) (fun A6 c6 => ?_)
     refine T.dNext (phi_cons (.inr (Cl.stays 3 rfl)) phi_nil) (T.assign (.dPure (i := 10) rfl (by kernel_rfl) (fun d _ _ _ _ h => by cases d <;> exact h)) rfl w0 rfl rfl (T.dDone (by kernel_rfl) (T.then_normal ?_)))
     exact T.le (EnvLe.cons rfl (EnvLe.cons rfl EnvLe.nil)) (T.pick [3, 5, 4, 0] 6 rfl rfl nla rfl (J1 (r3 ++ (([(u8 (IntKind.u8.wrap ((a0.2.1.length : Int))))] : List UInt8))) (A6, c6) hr))
   ·refine T.lit (E := E8) (.dOne rfl (by kernel_rfl)) (vals := [(0, .int .u8 (IntKind.u8.wrap ((a0.2.1.length : Int))))]) (cells := #[.int .u8 (IntKind.u8.wrap ((a0.2.1.length : Int)))]) rfl w0 rfl rfl rfl rfl rfl (by kernel_rfl) ([(u8 (IntKind.u8.wrap ((a0.2.1.length : Int))))] : List UInt8) rfl (fun _ _ _ _ _ => (Encs.c1 (enc := b8) (h1 := fun _ => rfl) (b8_wrap _) rfl)) (fun b7 => ?_)
    refine T.dNext (phi_cons (.inr (Cl.stays 1 rfl)) phi_nil) (T.dOnly (i := 2) (by kernel_rfl) ?_)
    refine T.bytesOf (.dOne rfl (by kernel_rfl)) rfl w0 rfl (l := a0.1) rfl (fun q2 => ?_)
    refine T.dNext (phi_cons (.inr (Cl.stays 2 rfl)) phi_nil) (T.dOnly (i := 3) (by kernel_rfl) ?_)
    refine T.call (.dOne rfl (by kernel_rfl)) w0 rfl (run_callF (vs := [_]) rfl Tryd.func20 rfl (by decide) rfl) (fun w hS => wire_Bytes.c hB hS (i0 := 0) rfl hg3) (fun x11 => ?_)
    refine T.dNext (phi_cons (.inr (Cl.stays 3 rfl)) phi_nil) (T.dOnly (i := 9) (by kernel_rfl) ?_)
    refine T.appBf (.dOne rfl (by kernel_rfl)) 0 2 rfl rfl rfl rfl rfl w0 rfl rfl rfl rfl rfl rfl hc8 (fun _ _ => rfl) (fun A6 c6 => ?_)
    refine T.dNext (phi_cons (.inr (Cl.stays 3 rfl)) phi_nil) (T.assign (.dPure (i := 10) rfl (by kernel_rfl) (fun d _ _ _ _ h => by cases d <;> exact h)) rfl w0 rfl rfl (T.dDone (by kernel_rfl) (T.then_normal ?_)))
    exact T.le (EnvLe.cons rfl (EnvLe.cons rfl EnvLe.nil)) (T.pick [3, 5, 4, 0] 6 rfl rfl nla rfl (J1 (r3 ++ (([(u8 (IntKind.u8.wrap ((a0.2.1.length : Int))))] : List UInt8))) (A6, c6) hr))

noncomputable def schema_reader_name.k1 (o0 : List UInt8 × Int × Bool) (r1 : List UInt8 × Int × Int) (s1 : Bool) : Option (List UInt8 × (List UInt8 × Int × Bool)) :=
  (if s1 = true then some (([] : List UInt8), (o0.1, o0.2.1, true)) else some (r1.1, (o0.1, r1.2.1, o0.2.2)))
noncomputable def schema_reader_name.impl (o0 : List UInt8 × Int × Bool) : Option (List UInt8 × (List UInt8 × Int × Bool)) :=
  (wire_ReadBytes.impl o0.1 o0.2.1 8).bind fun r1 => (if o0.2.2 = true then schema_reader_name.k1 o0 r1 true else schema_reader_name.k1 o0 r1 (!(decide (r1.2.2 = 0))))
set_option maxRecDepth 100000 in
set_option maxHeartbeats 4000000 in
theorem schema_reader_name.c {B : World} {hs : List MP} {w : World} {p0 : Nat} {o0 : List UInt8 × Int × Bool} {i0a c0a : Nat} {A0a : Option Addr} (hB : Base B) (hS : St B (Cl p0 125 [.slice A0a o0.1.length c0a, .int .i64 o0.2.1, .bool o0.2.2] :: hs) w) (h0a : (Cl p0 125 [.slice A0a o0.1.length c0a, .int .i64 o0.2.1, .bool o0.2.2] :: hs)[i0a]? = some (Ro E8 A0a c0a o0.1)) {r : List UInt8 × (List UInt8 × Int × Bool)} (hr : schema_reader_name.impl o0 = some r) :
    Calls Tryd.prog 69 #[.pointer (some ⟨p0, 0, none⟩)] w fun e w' => ∃ x : Unit, e = .returned (str r.1) ∧ St B (Cl p0 125 [.slice A0a o0.1.length c0a, .int .i64 r.2.2.1, .bool r.2.2.2] :: hs) w' := by
 unfold schema_reader_name.impl at hr
 refine calls_T Tryd.func69 rfl rfl rfl hS ?_
 refine T.front i0a h0a (T.seq (T.region (T.asg rfl rfl rfl rfl (T.nil (T.then_normal (T.seq (T.plan [(0, 0), (1, 0), (2, 0), (4, 0), (5, 0), (6, 0), (3, 1), (7, 1), (8, 2), (9, 0), (10, 0), (11, 0), (12, 0), (13, 0), (14, 0), (15, 0)] mixed (by kernel_rfl) (by kernel_rfl) rfl (fun d _ _ _ _ h => by cases d <;> exact h) (T.move (.plan rfl) rfl w0 rfl rfl (T.nilCheck (.plan rfl) rfl w0 rfl rfl (T.field (.plan rfl) rfl w0 rfl rfl (T.move (.plan rfl) rfl w0 rfl rfl ?_)))))))))))
 refine T.nilCheck (.plan rfl) rfl w0 rfl rfl (T.field (.plan rfl) rfl w0 rfl rfl (T.load (.plan rfl) 1 rfl rfl w0 rfl rfl rfl (T.load (.plan rfl) 1 rfl rfl w0 rfl rfl rfl ?_)))
 obtain ⟨r1, hg1, hr⟩ := inv_bind hr
 refine T.call (.plan rfl) w0 rfl (run_callF (vs := [_, _, _]) rfl Tryd.func68 rfl (by decide) rfl) (fun w hS => wire_ReadBytes.c hB hS (i0 := 0) rfl hg1) (fun x1 => ?_)
 refine T.move (.plan rfl) rfl w0 rfl rfl (T.extract (.plan rfl) rfl w0 rfl rfl rfl (T.extract (.plan rfl) rfl w0 rfl rfl rfl (T.extract (.plan rfl) rfl w0 rfl rfl rfl (T.assign (.plan rfl) rfl w0 rfl rfl (T.assign (.plan rfl) rfl w0 rfl rfl (T.assign (.plan rfl) rfl w0 rfl rfl (T.planEnd (T.then_normal (T.seq ?_)))))))))
 refine T.seqJ (fun (s1 : Bool) (x2 : Unit) => [(0, .pointer (some ⟨p0, 0, none⟩)), (3, .slice x1.1 r1.1.length x1.2), (4, .int .i64 r1.2.1), (26, .bool s1)]) (fun s1 x2 => Cl p0 125 [.slice A0a o0.1.length c0a, .int .i64 o0.2.1, .bool o0.2.2] :: Ro E8 A0a c0a o0.1 :: Bf E8 5 x1.1 x1.2 r1.1 :: hs) (fun s1 => schema_reader_name.k1 o0 r1 s1 = some r) (fun s1 x2 hk1 => ?_) (fun J1 => ?_)
 ·unfold schema_reader_name.k1 at hk1
  refine T.cond rfl (fun hb1 => ?_) (fun hb1 => ?_)
  ·replace hk1 := inv_posB hb1 hk1
   refine T.seq (T.region (T.mv rfl rfl rfl rfl (T.nilCheck .list rfl w0 rfl rfl (T.field .list rfl w0 rfl rfl ?_))))
   refine T.store .list 0 rfl rfl w0 rfl rfl rfl rfl (Nat.le_of_ble_eq_true rfl) rfl (cs' := [.slice A0a o0.1.length c0a, .int .i64 o0.2.1, .bool true]) rfl rfl (T.nil (T.then_normal (T.seq (T.region (T.asg rfl rfl rfl rfl (T.nil (T.then_normal (T.ret (T.then_ret ?_)))))))))
   obtain rfl := inv_some hk1
   refine T.pick [0] 3 rfl rfl nla rfl ?_
   refine T.ret1 rfl rfl (fun w hS => ⟨(), rfl, hS⟩)
  ·replace hk1 := inv_negB hb1 hk1
   refine T.skip (T.then_normal (T.seq (T.region (T.mv rfl rfl rfl rfl (T.mv rfl rfl rfl rfl (T.nilCheck .list rfl w0 rfl rfl (T.field .list rfl w0 rfl rfl ?_)))))))
   refine T.store .list 0 rfl rfl w0 rfl rfl rfl rfl (Nat.le_of_ble_eq_true rfl) rfl (cs' := [.slice A0a o0.1.length c0a, .int .i64 r1.2.1, .bool o0.2.2]) rfl rfl (T.nil (T.then_normal (T.seq (T.region (T.mv rfl rfl rfl rfl (T.strBf .list 2 rfl rfl w0 rfl rfl rfl (T.asg rfl rfl rfl rfl (T.nil (T.then_normal (T.ret ?_))))))))))
   obtain rfl := inv_some hk1
   refine T.pick [0] 3 rfl rfl nla rfl ?_
   refine T.ret1 rfl rfl (fun w hS => ⟨(), rfl, hS⟩)
 ·refine T.region (T.mv rfl rfl rfl rfl (T.nilCheck .list rfl w0 rfl rfl (T.field .list rfl w0 rfl rfl (T.load .list 2 rfl rfl w0 rfl rfl rfl (T.mv rfl rfl rfl rfl ?_)))))
  refine T.bool (b := o0.2.2) (fun hb2 => ?_) (fun hb2 => ?_)
  ·replace hr := inv_posB hb2 hr
   refine T.lv rfl rfl rfl hb2 rfl (T.lv rfl rfl rfl hb2 rfl (T.pickT .list rfl w0 rfl rfl hb2 rfl (T.nil (T.then_normal ?_))))
   exact T.le (EnvLe.cons rfl (EnvLe.cons rfl (EnvLe.cons rfl (EnvLe.cons rfl EnvLe.nil)))) (T.pick [2, 1, 0] 3 rfl rfl nla rfl (J1 true () hr))
  ·replace hr := inv_negB hb2 hr
   refine T.move .list rfl (wants1 rfl rfl rfl hb2) rfl rfl (T.bin .list rfl (wants1 rfl rfl rfl hb2) rfl rfl rfl rfl (T.pickF .list rfl w0 rfl rfl hb2 rfl (T.nil (T.then_normal ?_))))
   exact T.le (EnvLe.cons rfl (EnvLe.cons rfl (EnvLe.cons rfl (EnvLe.cons rfl EnvLe.nil)))) (T.pick [2, 1, 0] 3 rfl rfl nla rfl (J1 (!(decide (r1.2.2 = 0))) () hr))

noncomputable def schema_reader_byte.k1 (o0 : List UInt8 × Int × Bool) (s1 : Bool) : Option (Int × (List UInt8 × Int × Bool)) :=
  (if s1 = true then some (0, (o0.1, o0.2.1, true)) else chk (0 ≤ (IntKind.i64.wrap ((IntKind.i64.wrap (o0.2.1 + 1)) - 1)) ∧ (IntKind.i64.wrap ((IntKind.i64.wrap (o0.2.1 + 1)) - 1)) < (o0.1.length : Int)) (some (IntKind.i64.wrap ((((o0.1).getD (IntKind.i64.wrap ((IntKind.i64.wrap (o0.2.1 + 1)) - 1) : Int).toNat default).toNat : Int)), (o0.1, IntKind.i64.wrap (o0.2.1 + 1), o0.2.2))))
noncomputable def schema_reader_byte.impl (o0 : List UInt8 × Int × Bool) (a1 : Int) : Option (Int × (List UInt8 × Int × Bool)) :=
  (if o0.2.2 = true then schema_reader_byte.k1 o0 true else (if ((decide ((((o0.1.length : Int))) ≤ o0.2.1))) = true then schema_reader_byte.k1 o0 true else chk (0 ≤ o0.2.1 ∧ o0.2.1 < (o0.1.length : Int)) (schema_reader_byte.k1 o0 (decide (a1 < (IntKind.i64.wrap ((((o0.1).getD (o0.2.1 : Int).toNat default).toNat : Int))))))))
set_option maxRecDepth 100000 in
set_option maxHeartbeats 4000000 in
theorem schema_reader_byte.c {B : World} {hs : List MP} {w : World} {p0 : Nat} {o0 : List UInt8 × Int × Bool} {i0a c0a : Nat} {A0a : Option Addr} {a1 : Int} (hB : Base B) (hS : St B (Cl p0 125 [.slice A0a o0.1.length c0a, .int .i64 o0.2.1, .bool o0.2.2] :: hs) w) (h0a : (Cl p0 125 [.slice A0a o0.1.length c0a, .int .i64 o0.2.1, .bool o0.2.2] :: hs)[i0a]? = some (Ro E8 A0a c0a o0.1)) {r : Int × (List UInt8 × Int × Bool)} (hr : schema_reader_byte.impl o0 a1 = some r) :
    Calls Tryd.prog 70 #[.pointer (some ⟨p0, 0, none⟩), .int .i64 a1] w fun e w' => ∃ x : Unit, e = .returned (.int .i64 r.1) ∧ St B (Cl p0 125 [.slice A0a o0.1.length c0a, .int .i64 r.2.2.1, .bool r.2.2.2] :: hs) w' := by
 unfold schema_reader_byte.impl at hr
 refine calls_T Tryd.func70 rfl rfl rfl hS ?_
 refine T.front i0a h0a (T.seq (T.region (T.asg rfl rfl rfl rfl (T.nil (T.then_normal (T.seq ?_))))))
 refine T.seqJ (fun (s1 : Bool) (x1 : Unit) => [(0, .pointer (some ⟨p0, 0, none⟩)), (35, .bool s1)]) (fun s1 x1 => Cl p0 125 [.slice A0a o0.1.length c0a, .int .i64 o0.2.1, .bool o0.2.2] :: Ro E8 A0a c0a o0.1 :: hs) (fun s1 => schema_reader_byte.k1 o0 s1 = some r) (fun s1 x1 hk1 => ?_) (fun J1 => ?_)
 ·unfold schema_reader_byte.k1 at hk1
  refine T.cond rfl (fun hb1 => ?_) (fun hb1 => ?_)
  ·replace hk1 := inv_posB hb1 hk1
   refine T.seq (T.region (T.mv rfl rfl rfl rfl (T.nilCheck .list rfl w0 rfl rfl (T.field .list rfl w0 rfl rfl ?_))))
   refine T.store .list 0 rfl rfl w0 rfl rfl rfl rfl (Nat.le_of_ble_eq_true rfl) rfl (cs' := [.slice A0a o0.1.length c0a, .int .i64 o0.2.1, .bool true]) rfl rfl (T.nil (T.then_normal (T.seq (T.region (T.asg rfl rfl rfl rfl (T.nil (T.then_normal (T.ret (T.then_ret ?_)))))))))
   obtain rfl := inv_some hk1
   refine T.pick [0] 2 rfl rfl nla rfl ?_
   refine T.ret1 rfl rfl (fun w hS => ⟨(), rfl, hS⟩)
  ·replace hk1 := inv_negB hb1 hk1
   refine T.skip (T.then_normal (T.seq (T.region (T.mv rfl rfl rfl rfl (T.nilCheck .list rfl w0 rfl rfl (T.field .list rfl w0 rfl rfl (T.load .list 0 rfl rfl w0 rfl rfl rfl (T.bin .list rfl w0 rfl rfl rfl rfl (T.nilCheck .list rfl w0 rfl rfl (T.field .list rfl w0 rfl rfl ?_))))))))))
   refine T.store .list 0 rfl rfl w0 rfl rfl rfl rfl (Nat.le_of_ble_eq_true rfl) rfl (cs' := [.slice A0a o0.1.length c0a, .int .i64 (IntKind.i64.wrap (o0.2.1 + 1)), .bool o0.2.2]) rfl rfl (T.nil (T.then_normal (T.seq (T.plan [(0, 0), (1, 0), (2, 0), (4, 0), (5, 0), (6, 0), (3, 1), (7, 1), (8, 0), (9, 0), (10, 1), (11, 0), (12, 0)] mixed (by kernel_rfl) (by kernel_rfl) rfl (fun d _ _ _ _ h => by cases d <;> exact h) (T.move (.plan rfl) rfl w0 rfl rfl (T.nilCheck (.plan rfl) rfl w0 rfl rfl (T.field (.plan rfl) rfl w0 rfl rfl (T.move (.plan rfl) rfl w0 rfl rfl (T.nilCheck (.plan rfl) rfl w0 rfl rfl (T.field (.plan rfl) rfl w0 rfl rfl (T.load (.plan rfl) 0 rfl rfl w0 rfl rfl rfl ?_)))))))))))
   refine T.load (.plan rfl) 0 rfl rfl w0 rfl rfl rfl (T.bin (.plan rfl) rfl w0 rfl rfl rfl rfl ?_)
   obtain ⟨hc1, hk1⟩ := inv_chk hk1
   refine T.idxRo (.plan rfl) 1 rfl rfl w0 rfl rfl rfl hc1.1 hc1.2 (Nat.le_refl _) (T.ldRo1 (.plan rfl) 1 rfl rfl w0 rfl rfl hc1.1 hc1.2 (T.conv (.plan rfl) rfl w0 rfl rfl rfl (T.assign (.plan rfl) rfl w0 rfl rfl (T.planEnd (T.then_normal (T.ret ?_))))))
   obtain rfl := inv_some hk1
   refine T.pick [0] 2 rfl rfl nla rfl ?_
   refine T.ret1 rfl rfl (fun w hS => ⟨(), rfl, hS⟩)
 ·refine T.plan [(0, 0), (1, 0), (2, 0), (3, 1), (4, 0), (5, 0), (6, 0), (7, 0), (9, 0), (10, 0), (11, 0), (8, 1), (12, 1), (13, 0), (14, 0), (15, 0), (16, 0), (17, 0), (18, 0), (19, 0), (21, 0), (22, 0), (23, 0), (28, 0), (20, 1), (24, 1), (25, 0), (26, 1), (27, 0), (29, 0), (30, 0)] mixed (by kernel_rfl) (by kernel_rfl) rfl (fun d _ _ _ _ h => by cases d <;> exact h) (T.move (.plan rfl) rfl w0 rfl rfl (T.nilCheck (.plan rfl) rfl w0 rfl rfl (T.field (.plan rfl) rfl w0 rfl rfl (T.load (.plan rfl) 1 rfl rfl w0 rfl rfl rfl (T.move (.plan rfl) rfl w0 rfl rfl ?_)))))
  refine T.bool (b := o0.2.2) (fun hb2 => ?_) (fun hb2 => ?_)
  ·replace hr := inv_posB hb2 hr
   refine T.leave (.plan rfl) (wantsNot rfl rfl rfl hb2) rfl (T.leave (.plan rfl) (wantsNot rfl rfl rfl hb2) rfl (T.leave (.plan rfl) (wantsNot rfl rfl rfl hb2) rfl (T.leave (.plan rfl) (wantsNot rfl rfl rfl hb2) rfl (T.leave (.plan rfl) (wantsNot rfl rfl rfl hb2) rfl (T.leave (.plan rfl) (wantsNot rfl rfl rfl hb2) rfl (T.leave (.plan rfl) (wantsNot rfl rfl rfl hb2) rfl (T.leave (.plan rfl) (wantsNot rfl rfl rfl hb2) rfl (T.leave (.plan rfl) (wantsNot rfl rfl rfl hb2) rfl (T.leave (.plan rfl) (wantsNot rfl rfl rfl hb2) rfl (T.pickT (.plan rfl) rfl w0 rfl rfl hb2 rfl (T.move (.plan rfl) rfl w0 rfl rfl ?_)))))))))))
   refine T.leave (.plan rfl) (wantsNot rfl rfl rfl rfl) rfl (T.leave (.plan rfl) (wantsNot rfl rfl rfl rfl) rfl (T.leave (.plan rfl) (wantsNot rfl rfl rfl rfl) rfl (T.leave (.plan rfl) (wantsNot rfl rfl rfl rfl) rfl (T.leave (.plan rfl) (wantsNot rfl rfl rfl rfl) rfl (T.leave (.plan rfl) (wantsNot rfl rfl rfl rfl) rfl (T.leave (.plan rfl) (wantsNot rfl rfl rfl rfl) rfl (T.leave (.plan rfl) (wantsNot rfl rfl rfl rfl) rfl (T.leave (.plan rfl) (wantsNot rfl rfl rfl rfl) rfl (T.leave (.plan rfl) (wantsNot rfl rfl rfl rfl) rfl (T.leave (.plan rfl) (wantsNot rfl rfl rfl rfl) rfl (T.leave (.plan rfl) (wantsNot rfl rfl rfl rfl) rfl ?_)))))))))))
   refine T.leave (.plan rfl) (wantsNot rfl rfl rfl rfl) rfl (T.pickT (.plan rfl) rfl w0 rfl rfl rfl rfl (T.planEnd (T.then_normal ?_)))
   exact T.le (EnvLe.cons rfl (EnvLe.cons rfl EnvLe.nil)) (T.pick [1, 0] 2 rfl rfl nla rfl (J1 true () hr))
  ·replace hr := inv_negB hb2 hr
   refine T.move (.plan rfl) rfl (wants1 rfl rfl rfl hb2) rfl rfl (T.nilCheck (.plan rfl) rfl (wants1 rfl rfl rfl hb2) rfl rfl (T.field (.plan rfl) rfl (wants1 rfl rfl rfl hb2) rfl rfl (T.move (.plan rfl) rfl (wants1 rfl rfl rfl hb2) rfl rfl (T.nilCheck (.plan rfl) rfl (wants1 rfl rfl rfl hb2) rfl rfl (T.field (.plan rfl) rfl (wants1 rfl rfl rfl hb2) rfl rfl (T.load (.plan rfl) 1 rfl rfl (wants1 rfl rfl rfl hb2) rfl rfl rfl (T.load (.plan rfl) 1 rfl rfl (wants1 rfl rfl rfl hb2) rfl rfl rfl (T.lenSlice (.plan rfl) rfl (wants1 rfl rfl rfl hb2) rfl rfl (T.bin (.plan rfl) rfl (wants1 rfl rfl rfl hb2) rfl rfl rfl rfl (T.pickF (.plan rfl) rfl w0 rfl rfl hb2 rfl (T.move (.plan rfl) rfl w0 rfl rfl ?_)))))))))))
   refine T.bool (b := (decide ((((o0.1.length : Int))) ≤ o0.2.1))) (fun hb3 => ?_) (fun hb3 => ?_)
   ·replace hr := inv_posB hb3 hr
    refine T.leave (.plan rfl) (wantsNot rfl rfl rfl hb3) rfl (T.leave (.plan rfl) (wantsNot rfl rfl rfl hb3) rfl (T.leave (.plan rfl) (wantsNot rfl rfl rfl hb3) rfl (T.leave (.plan rfl) (wantsNot rfl rfl rfl hb3) rfl (T.leave (.plan rfl) (wantsNot rfl rfl rfl hb3) rfl (T.leave (.plan rfl) (wantsNot rfl rfl rfl hb3) rfl (T.leave (.plan rfl) (wantsNot rfl rfl rfl hb3) rfl (T.leave (.plan rfl) (wantsNot rfl rfl rfl hb3) rfl (T.leave (.plan rfl) (wantsNot rfl rfl rfl hb3) rfl (T.leave (.plan rfl) (wantsNot rfl rfl rfl hb3) rfl (T.leave (.plan rfl) (wantsNot rfl rfl rfl hb3) rfl (T.leave (.plan rfl) (wantsNot rfl rfl rfl hb3) rfl ?_)))))))))))
    refine T.leave (.plan rfl) (wantsNot rfl rfl rfl hb3) rfl (T.pickT (.plan rfl) rfl w0 rfl rfl hb3 rfl (T.planEnd (T.then_normal ?_)))
    exact T.le (EnvLe.cons rfl (EnvLe.cons rfl EnvLe.nil)) (T.pick [1, 0] 2 rfl rfl nla rfl (J1 true () hr))
   ·replace hr := inv_negB hb3 hr
    refine T.move (.plan rfl) rfl (wants1 rfl rfl rfl hb3) rfl rfl (T.nilCheck (.plan rfl) rfl (wants1 rfl rfl rfl hb3) rfl rfl (T.field (.plan rfl) rfl (wants1 rfl rfl rfl hb3) rfl rfl (T.move (.plan rfl) rfl (wants1 rfl rfl rfl hb3) rfl rfl (T.nilCheck (.plan rfl) rfl (wants1 rfl rfl rfl hb3) rfl rfl (T.field (.plan rfl) rfl (wants1 rfl rfl rfl hb3) rfl rfl (T.move (.plan rfl) rfl (wants1 rfl rfl rfl hb3) rfl rfl (T.load (.plan rfl) 1 rfl rfl (wants1 rfl rfl rfl hb3) rfl rfl rfl (T.load (.plan rfl) 1 rfl rfl (wants1 rfl rfl rfl hb3) rfl rfl rfl ?_))))))))
    obtain ⟨hc2, hr⟩ := inv_chk hr
    refine T.idxRo (.plan rfl) 0 rfl rfl (wants1 rfl rfl rfl hb3) rfl rfl rfl hc2.1 hc2.2 (Nat.le_refl _) (T.ldRo1 (.plan rfl) 0 rfl rfl (wants1 rfl rfl rfl hb3) rfl rfl hc2.1 hc2.2 (T.conv (.plan rfl) rfl (wants1 rfl rfl rfl hb3) rfl rfl rfl (T.bin (.plan rfl) rfl (wants1 rfl rfl rfl hb3) rfl rfl rfl rfl (T.pickF (.plan rfl) rfl w0 rfl rfl hb3 rfl (T.planEnd (T.then_normal ?_))))))
    exact T.le (EnvLe.cons rfl (EnvLe.cons rfl EnvLe.nil)) (T.pick [1, 0] 2 rfl rfl nla rfl (J1 (decide (a1 < (IntKind.i64.wrap ((((o0.1).getD (o0.2.1 : Int).toNat default).toNat : Int))))) () hr))

noncomputable def schema_Decode.k3 (r1 : List UInt8 × (List UInt8 × Int × Bool)) (s1 : Int × Bool × (List ((List UInt8) × Int × Int))) (s2 : Int × Bool × (List (Int × Bool))) (s3 : Bool) : Option (((List UInt8) × (List ((List UInt8) × Int × Int)) × (List (Int × Bool))) × Int) :=
  (if s3 = true then some ((([] : List UInt8), ([] : List ((List UInt8) × Int × Int)), ([] : List (Int × Bool))), 11) else some ((r1.1, s1.2.2, s2.2.2), 0))
noncomputable def schema_Decode.k2 (r1 : List UInt8 × (List UInt8 × Int × Bool)) (s1 : Int × Bool × (List ((List UInt8) × Int × Int))) (l0 : List UInt8) (s2 : Int × Bool × (List (Int × Bool))) : Option (((List UInt8) × (List ((List UInt8) × Int × Int)) × (List (Int × Bool))) × Int) :=
  (if s2.2.1 = true then schema_Decode.k3 r1 s1 s2 true else (if ((decide (s2.1 = ((l0.length : Int))))) = true then (schema_Right.impl ((r1.1, s1.2.2, s2.2.2))).bind fun r2 => schema_Decode.k3 r1 s1 s2 (!(decide (r2 = 0))) else schema_Decode.k3 r1 s1 s2 true))
noncomputable def schema_Decode.st1 (r3 : Int × (List UInt8 × Int × Bool)) (l0 : List UInt8) (s4 : Int × Bool × (List (Int × Bool)) × Int) : Option ((Int × Bool × (List (Int × Bool)) × Int) ⊕ (Int × Bool × (List (Int × Bool)))) :=
  (if ((decide (s4.2.2.2 < r3.1))) = true then (schema_reader_byte.impl ((l0, s4.1, s4.2.1)) 3).bind fun r4 => (schema_reader_byte.impl ((l0, r4.2.2.1, r4.2.2.2)) 1).bind fun r5 => chk ((s4.2.2.1.length + (([(r4.1, (decide (r5.1 = 1)))] : List (Int × Bool))).length) * 16 ≤ 140737488355328) (some (.inl (r5.2.2.1, r5.2.2.2, (s4.2.2.1 ++ (([(r4.1, (decide (r5.1 = 1)))] : List (Int × Bool)))), IntKind.i64.wrap (s4.2.2.2 + 1)))) else some (.inr (s4.1, s4.2.1, s4.2.2.1)))
noncomputable def schema_Decode.k1 (l0 : List UInt8) (r1 : List UInt8 × (List UInt8 × Int × Bool)) (s1 : Int × Bool × (List ((List UInt8) × Int × Int))) : Option (((List UInt8) × (List ((List UInt8) × Int × Int)) × (List (Int × Bool))) × Int) :=
  (schema_reader_byte.impl ((l0, s1.1, s1.2.1)) 3).bind fun r3 => (loop (schema_Decode.st1 r3 l0) (r3.2.2.1, r3.2.2.2, ([] : List (Int × Bool)), 0)).bind (fun e1 => schema_Decode.k2 r1 s1 l0 e1)
noncomputable def schema_Decode.st2 (r6 : Int × (List UInt8 × Int × Bool)) (l0 : List UInt8) (s5 : Int × Bool × (List ((List UInt8) × Int × Int)) × Int) : Option ((Int × Bool × (List ((List UInt8) × Int × Int)) × Int) ⊕ (Int × Bool × (List ((List UInt8) × Int × Int)))) :=
  (if ((decide (s5.2.2.2 < r6.1))) = true then (schema_reader_name.impl ((l0, s5.1, s5.2.1))).bind fun r7 => (schema_reader_byte.impl ((l0, r7.2.2.1, r7.2.2.2)) 3).bind fun r8 => (schema_reader_byte.impl ((l0, r8.2.2.1, r8.2.2.2)) 8).bind fun r9 => chk ((s5.2.2.1.length + (([(r7.1, r8.1, r9.1)] : List ((List UInt8) × Int × Int))).length) * 32 ≤ 140737488355328) (some (.inl (r9.2.2.1, r9.2.2.2, (s5.2.2.1 ++ (([(r7.1, r8.1, r9.1)] : List ((List UInt8) × Int × Int)))), IntKind.i64.wrap (s5.2.2.2 + 1)))) else some (.inr (s5.1, s5.2.1, s5.2.2.1)))
noncomputable def schema_Decode.impl (l0 : List UInt8) : Option (((List UInt8) × (List ((List UInt8) × Int × Int)) × (List (Int × Bool))) × Int) :=
  (schema_reader_name.impl ((l0, 0, false))).bind fun r1 => (schema_reader_byte.impl ((l0, r1.2.2.1, r1.2.2.2)) 3).bind fun r6 => (loop (schema_Decode.st2 r6 l0) (r6.2.2.1, r6.2.2.2, ([] : List ((List UInt8) × Int × Int)), 0)).bind (fun e2 => schema_Decode.k1 l0 r1 e2)
set_option maxRecDepth 100000 in
set_option maxHeartbeats 4000000 in
theorem schema_Decode.c {B : World} {hs : List MP} {w : World} {i0 c0 : Nat} {A0 : Option Addr} {l0 : List UInt8} (hB : Base B) (hS : St B hs w) (h0 : (hs)[i0]? = some (Ro E8 A0 c0 l0)) {r : ((List UInt8) × (List ((List UInt8) × Int × Int)) × (List (Int × Bool))) × Int} (hr : schema_Decode.impl l0 = some r) :
    Calls Tryd.prog 49 #[.slice A0 l0.length c0] w fun e w' => ∃ x : (Option Addr × Nat) × (Option Addr × Nat), e = .returned (.tuple #[.agg #[str r.1.1, .slice x.1.1 r.1.2.1.length x.1.2, .slice x.2.1 r.1.2.2.length x.2.2], .int .i64 r.2]) ∧ St B (Ro (Elt.pair EStr (Elt.pair E64 E64)) x.1.1 x.1.2 r.1.2.1 :: Ro (Elt.pair E64 EBool) x.2.1 x.2.2 r.1.2.2 :: hs) w' := by
 unfold schema_Decode.impl at hr
 refine calls_T Tryd.func49 rfl rfl rfl hS ?_
 refine T.front i0 h0 (T.seq (T.region ?_))
 refine T.allocS .list rfl w0 rfl (cs := [str (([] : List UInt8)), .slice none 0 0, .slice none 0 0]) rfl (fun b1 => ?_)
 refine T.asg rfl rfl rfl rfl (T.nil (T.then_normal (T.seq (T.region (T.mv rfl rfl rfl rfl (T.build .list (vals := [(0, .slice A0 l0.length c0)]) (cells := #[.slice A0 l0.length c0, .int .i64 0, .bool false]) rfl w0 rfl rfl (run_buildStruct (sizes := [1, 1, 1]) (by kernel_rfl) (by kernel_rfl)) ?_))))))
 refine T.boxS .list rfl w0 rfl rfl (cs := [.slice A0 l0.length c0, .int .i64 0, .bool false]) rfl (fun b2 => ?_)
 refine T.asg rfl rfl rfl rfl (T.nil (T.then_normal (T.seq (T.region (T.mv rfl rfl rfl rfl (T.pick [0, 1, 2] 3 rfl rfl nla (hs' := Cl b2 125 [.slice A0 l0.length c0, .int .i64 0, .bool false] :: Cl b1 62 [str (([] : List UInt8)), .slice none 0 0, .slice none 0 0] :: Ro E8 A0 c0 l0 :: hs) rfl ?_))))))
 obtain ⟨r1, hg1, hr⟩ := inv_bind hr
 refine T.call .list w0 rfl (run_callF (vs := [_]) rfl Tryd.func69 rfl (by decide) rfl) (fun w hS => schema_reader_name.c hB hS (i0a := 2) (o0 := (l0, 0, false)) rfl hg1) (fun x1 => ?_)
 refine T.build .list (vals := [(0, str r1.1)]) (cells := #[str r1.1, .slice none 0 0, .slice none 0 0]) rfl w0 rfl rfl (run_buildStruct (sizes := [1, 1, 1]) (by kernel_rfl) (by kernel_rfl)) ?_
 refine T.allocS .list rfl w0 rfl (cs := [str (([] : List UInt8)), .slice none 0 0, .slice none 0 0]) rfl (fun b3 => ?_)
 refine T.store .list 0 rfl rfl w0 rfl rfl rfl rfl (Nat.le_of_ble_eq_true rfl) rfl (cs' := [str r1.1, .slice none 0 0, .slice none 0 0]) rfl rfl (T.nil (T.then_normal ?_))
 refine T.seqJ (fun (s1 : Int × Bool × (List ((List UInt8) × Int × Int))) (x2 : (Option Addr × Nat)) => [(0, .slice A0 l0.length c0), (2, .pointer (some ⟨b1, 0, none⟩)), (4, .pointer (some ⟨b2, 0, none⟩)), (5, .pointer (some ⟨b3, 0, none⟩))]) (fun s1 x2 => Ro E8 A0 c0 l0 :: Cl b1 62 [str (([] : List UInt8)), .slice none 0 0, .slice none 0 0] :: Cl b2 125 [.slice A0 l0.length c0, .int .i64 s1.1, .bool s1.2.1] :: Cl b3 62 [str r1.1, .slice x2.1 s1.2.2.length x2.2, .slice none 0 0] :: Bf (Elt.pair EStr (Elt.pair E64 E64)) 129 x2.1 x2.2 s1.2.2 :: hs) (fun s1 => schema_Decode.k1 l0 r1 s1 = some r) (fun s1 x2 hk1 => ?_) (fun J1 => ?_)
 ·unfold schema_Decode.k1 at hk1
  refine T.seqJ (fun (s2 : Int × Bool × (List (Int × Bool))) (x3 : (Option Addr × Nat)) => [(0, .slice A0 l0.length c0), (2, .pointer (some ⟨b1, 0, none⟩)), (4, .pointer (some ⟨b2, 0, none⟩)), (5, .pointer (some ⟨b3, 0, none⟩))]) (fun s2 x3 => Ro E8 A0 c0 l0 :: Cl b1 62 [str (([] : List UInt8)), .slice none 0 0, .slice none 0 0] :: Cl b2 125 [.slice A0 l0.length c0, .int .i64 s2.1, .bool s2.2.1] :: Cl b3 62 [str r1.1, .slice x2.1 s1.2.2.length x2.2, .slice x3.1 s2.2.2.length x3.2] :: Bf (Elt.pair EStr (Elt.pair E64 E64)) 129 x2.1 x2.2 s1.2.2 :: Bf (Elt.pair E64 EBool) 131 x3.1 x3.2 s2.2.2 :: hs) (fun s2 => schema_Decode.k2 r1 s1 l0 s2 = some r) (fun s2 x3 hk2 => ?_) (fun J2 => ?_)
  ·unfold schema_Decode.k2 at hk2
   refine T.seq ?_
   refine T.seqJ (fun (s3 : Bool) (x4 : Unit) => [(2, .pointer (some ⟨b1, 0, none⟩)), (5, .pointer (some ⟨b3, 0, none⟩)), (62, .bool s3)]) (fun s3 x4 => Cl b1 62 [str (([] : List UInt8)), .slice none 0 0, .slice none 0 0] :: Cl b3 62 [str r1.1, .slice x2.1 s1.2.2.length x2.2, .slice x3.1 s2.2.2.length x3.2] :: Bf (Elt.pair EStr (Elt.pair E64 E64)) 129 x2.1 x2.2 s1.2.2 :: Bf (Elt.pair E64 EBool) 131 x3.1 x3.2 s2.2.2 :: hs) (fun s3 => schema_Decode.k3 r1 s1 s2 s3 = some r) (fun s3 x4 hk3 => ?_) (fun J3 => ?_)
   ·unfold schema_Decode.k3 at hk3
    refine T.cond rfl (fun hb1 => ?_) (fun hb1 => ?_)
    ·replace hk3 := inv_posB hb1 hk3
     refine T.seq (T.region (T.build .list (vals := []) (cells := #[str (([] : List UInt8)), .slice none 0 0, .slice none 0 0]) rfl w0 rfl rfl (run_buildStruct (sizes := [1, 1, 1]) (by kernel_rfl) (by kernel_rfl)) ?_))
     refine T.store .list 0 rfl rfl w0 rfl rfl rfl rfl (Nat.le_of_ble_eq_true rfl) rfl (cs' := [str (([] : List UInt8)), .slice none 0 0, .slice none 0 0]) rfl rfl (T.asg rfl rfl rfl rfl (T.nil (T.then_normal (T.ret (T.then_ret ?_)))))
     obtain rfl := inv_some hk3
     refine T.nilRo (Elt.pair EStr (Elt.pair E64 E64)) none 0 (T.nilRo (Elt.pair E64 EBool) none 0 ?_)
     refine T.out2 rfl (OutRun.cellN 2 rfl rfl (vs := [str (([] : List UInt8)), .slice none 0 0, .slice none 0 0]) rfl rfl) (OutRun.tmp rfl) (fun w hS => ⟨((none, 0), (none, 0)), rfl, hS.pick [1, 0] 6 rfl rfl nla rfl⟩)
    ·replace hk3 := inv_negB hb1 hk3
     refine T.skip (T.then_normal (T.seq (T.region (T.loadN .list 1 rfl rfl w0 rfl rfl (vs := [str r1.1, .slice x2.1 s1.2.2.length x2.2, .slice x3.1 s2.2.2.length x3.2]) rfl rfl ?_))))
     refine T.store .list 0 rfl rfl w0 rfl rfl rfl rfl (Nat.le_of_ble_eq_true rfl) rfl (cs' := [str r1.1, .slice x2.1 s1.2.2.length x2.2, .slice x3.1 s2.2.2.length x3.2]) rfl rfl (T.asg rfl rfl rfl rfl (T.nil (T.then_normal (T.ret ?_))))
     obtain rfl := inv_some hk3
     refine T.freeze 2 rfl rfl rfl (T.freeze 3 rfl rfl rfl ?_)
     refine T.out2 rfl (OutRun.cellN 0 rfl rfl (vs := [str r1.1, .slice x2.1 s1.2.2.length x2.2, .slice x3.1 s2.2.2.length x3.2]) rfl rfl) (OutRun.tmp rfl) (fun w hS => ⟨(x2, x3), rfl, hS.pick [2, 3] 4 rfl rfl nla rfl⟩)
   ·refine T.region (T.mv rfl rfl rfl rfl (T.nilCheck .list rfl w0 rfl rfl (T.field .list rfl w0 rfl rfl (T.load .list 2 rfl rfl w0 rfl rfl rfl (T.mv rfl rfl rfl rfl ?_)))))
    refine T.bool (b := s2.2.1) (fun hb2 => ?_) (fun hb2 => ?_)
    ·replace hk2 := inv_posB hb2 hk2
     refine T.lv rfl rfl rfl hb2 rfl (T.lv rfl rfl rfl hb2 rfl (T.lv rfl rfl rfl hb2 rfl (T.lv rfl rfl rfl hb2 rfl (T.lv rfl rfl rfl hb2 rfl (T.lv rfl rfl rfl hb2 rfl (T.lv rfl rfl rfl hb2 rfl (T.pickT .list rfl w0 rfl rfl hb2 rfl (T.mv rfl rfl rfl rfl (T.lv rfl rfl rfl rfl rfl (T.lv rfl rfl rfl rfl rfl (T.lv rfl rfl rfl rfl rfl ?_)))))))))))
     refine T.pickT .list rfl w0 rfl rfl rfl rfl (T.nil (T.then_normal ?_))
     exact T.le (EnvLe.cons rfl (EnvLe.cons rfl (EnvLe.cons rfl EnvLe.nil))) (T.pick [1, 3, 4, 5] 6 rfl rfl nla rfl (J3 true () hk2))
    ·replace hk2 := inv_negB hb2 hk2
     refine T.move .list rfl (wants1 rfl rfl rfl hb2) rfl rfl (T.nilCheck .list rfl (wants1 rfl rfl rfl hb2) rfl rfl (T.field .list rfl (wants1 rfl rfl rfl hb2) rfl rfl (T.load .list 2 rfl rfl (wants1 rfl rfl rfl hb2) rfl rfl rfl (T.move .list rfl (wants1 rfl rfl rfl hb2) rfl rfl (T.lenSlice .list rfl (wants1 rfl rfl rfl hb2) rfl rfl (T.bin .list rfl (wants1 rfl rfl rfl hb2) rfl rfl rfl rfl (T.pickF .list rfl w0 rfl rfl hb2 rfl (T.mv rfl rfl rfl rfl ?_))))))))
     refine T.bool (b := (decide (s2.1 = ((l0.length : Int))))) (fun hb3 => ?_) (fun hb3 => ?_)
     ·replace hk2 := inv_posB hb3 hk2
      refine T.loadN .list 3 rfl rfl (wants1 rfl rfl rfl (not_t hb3)) rfl rfl (vs := [str r1.1, .slice x2.1 s1.2.2.length x2.2, .slice x3.1 s2.2.2.length x3.2]) rfl rfl ?_
      obtain ⟨r2, hg2, hk2⟩ := inv_bind hk2
      refine T.call .list (wants1 rfl rfl rfl (not_t hb3)) rfl (run_callF (vs := [_]) rfl Tryd.func71 rfl (by decide) rfl) (fun w hS => (schema_Right.c (hB.up hS) (St.borrow (ros := [Ro (Elt.pair EStr (Elt.pair E64 E64)) x2.1 x2.2 s1.2.2, Ro (Elt.pair E64 EBool) x3.1 x3.2 s2.2.2]) (Ros.cons (hS.roBf 4 rfl rfl) (Ros.cons (hS.roBf 5 rfl rfl) Ros.nil))) (i0a := 0) (i0b := 1) (a0 := (r1.1, s1.2.2, s2.2.2)) rfl rfl hg2).mono fun e w' ⟨x, he, h1⟩ => ⟨x, he, hS.unborrow (post := []) h1 Frees.nil⟩) (fun x5 => ?_)
      refine T.bin .list rfl (wants1 rfl rfl rfl (not_t hb3)) rfl rfl rfl rfl (T.pickF .list rfl w0 rfl rfl (not_t hb3) rfl (T.nil (T.then_normal ?_)))
      exact T.le (EnvLe.cons rfl (EnvLe.cons rfl (EnvLe.cons rfl EnvLe.nil))) (T.pick [1, 3, 4, 5] 6 rfl rfl nla rfl (J3 (!(decide (r2 = 0))) () hk2))
     ·replace hk2 := inv_negB hb3 hk2
      refine T.leave .list (wantsNot rfl rfl rfl (not_f hb3)) rfl (T.leave .list (wantsNot rfl rfl rfl (not_f hb3)) rfl (T.leave .list (wantsNot rfl rfl rfl (not_f hb3)) rfl (T.pickT .list rfl w0 rfl rfl (not_f hb3) rfl (T.nil (T.then_normal ?_)))))
      exact T.le (EnvLe.cons rfl (EnvLe.cons rfl (EnvLe.cons rfl EnvLe.nil))) (T.pick [1, 3, 4, 5] 6 rfl rfl nla rfl (J3 true () hk2))
  ·refine T.seq (T.region (T.mv rfl rfl rfl rfl (T.pick [2, 0, 1, 3, 4] 5 rfl rfl nla (hs' := Cl b2 125 [.slice A0 l0.length c0, .int .i64 s1.1, .bool s1.2.1] :: Ro E8 A0 c0 l0 :: Cl b1 62 [str (([] : List UInt8)), .slice none 0 0, .slice none 0 0] :: Cl b3 62 [str r1.1, .slice x2.1 s1.2.2.length x2.2, .slice none 0 0] :: Bf (Elt.pair EStr (Elt.pair E64 E64)) 129 x2.1 x2.2 s1.2.2 :: hs) rfl ?_)))
   obtain ⟨r3, hg3, hk1⟩ := inv_bind hk1
   refine T.call .list w0 rfl (run_callF (vs := [_, _]) rfl Tryd.func70 rfl (by decide) rfl) (fun w hS => schema_reader_byte.c hB hS (i0a := 1) (o0 := (l0, s1.1, s1.2.1)) rfl hg3) (fun x6 => ?_)
   refine T.mv rfl rfl rfl rfl (T.nil (T.then_normal (T.block ?_)))
   obtain ⟨e1, hl1, hk1⟩ := inv_bind hk1
   refine T.nilBf (Elt.pair E64 EBool) 131 ?_
   refine T.le (EnvLe.cons rfl (EnvLe.cons rfl (EnvLe.cons rfl (EnvLe.cons rfl (EnvLe.cons rfl (EnvLe.cons rfl EnvLe.nil)))))) (T.pick [2, 3, 1, 4, 5, 0] 6 rfl rfl nla rfl (T.loop (s0 := (r3.2.2.1, r3.2.2.2, ([] : List (Int × Bool)), 0)) (env := fun s4 x7 => [(0, .slice A0 l0.length c0), (2, .pointer (some ⟨b1, 0, none⟩)), (4, .pointer (some ⟨b2, 0, none⟩)), (5, .pointer (some ⟨b3, 0, none⟩)), (30, .int .i64 r3.1), (31, .int .i64 s4.2.2.2)]) (hs := fun (s4 : Int × Bool × (List (Int × Bool)) × Int) (x7 : (Option Addr × Nat)) => Ro E8 A0 c0 l0 :: Cl b1 62 [str (([] : List UInt8)), .slice none 0 0, .slice none 0 0] :: Cl b2 125 [.slice A0 l0.length c0, .int .i64 s4.1, .bool s4.2.1] :: Cl b3 62 [str r1.1, .slice x2.1 s1.2.2.length x2.2, .slice x7.1 s4.2.2.1.length x7.2] :: Bf (Elt.pair EStr (Elt.pair E64 E64)) 129 x2.1 x2.2 s1.2.2 :: Bf (Elt.pair E64 EBool) 131 x7.1 x7.2 s4.2.2.1 :: hs) hl1 (none, 0) (fun K1 s4 x7 o1 he1 hm1 hx1 => ?_)))
   unfold schema_Decode.st1 at he1
   refine T.seq (T.region (T.bin .list rfl w0 rfl rfl rfl rfl (T.nil (T.then_normal (T.seq ?_)))))
   refine T.cond rfl (fun hb4 => ?_) (fun hb4 => ?_)
   ·replace he1 := inv_posB hb4 he1
    refine T.skip (T.then_normal (T.seq (T.block (T.dStart mixed (T.field (.dPure (i := 0) rfl (by kernel_rfl) (fun d _ _ _ _ h => by cases d <;> exact h)) rfl w0 rfl rfl (T.move (.dPure (i := 2) rfl (by kernel_rfl) (fun d _ _ _ _ h => by cases d <;> exact h)) rfl w0 rfl rfl (T.move (.dPure (i := 4) rfl (by kernel_rfl) (fun d _ _ _ _ h => by cases d <;> exact h)) rfl w0 rfl rfl (T.dAdd 11 (fun w => w.heap[b3]? = some (.cells [str r1.1, .slice x2.1 s1.2.2.length x2.2, .slice x7.1 s4.2.2.1.length x7.2].toArray 62 (0, 0))) (Cl.stays 3 rfl) (T.valS 0 (i := 1) (.slice x7.1 s4.2.2.1.length x7.2) rfl rfl (by kernel_rfl) (by kernel_rfl) (fun d _ _ _ _ h => by cases d <;> exact h) w0 rfl (run_ldCl rfl rfl rfl) ?_)))))))))
    obtain ⟨r4, hg4, he1⟩ := inv_bind he1
    refine T.pick [2, 0, 1, 3, 4, 5] 6 rfl rfl nla (hs' := Cl b2 125 [.slice A0 l0.length c0, .int .i64 s4.1, .bool s4.2.1] :: Ro E8 A0 c0 l0 :: Cl b1 62 [str (([] : List UInt8)), .slice none 0 0, .slice none 0 0] :: Cl b3 62 [str r1.1, .slice x2.1 s1.2.2.length x2.2, .slice x7.1 s4.2.2.1.length x7.2] :: Bf (Elt.pair EStr (Elt.pair E64 E64)) 129 x2.1 x2.2 s1.2.2 :: Bf (Elt.pair E64 EBool) 131 x7.1 x7.2 s4.2.2.1 :: hs) rfl (T.dOnly (i := 3) (by kernel_rfl) ?_)
    refine T.call (.dOne rfl (by kernel_rfl)) w0 rfl (run_callF (vs := [_, _]) rfl Tryd.func70 rfl (by decide) rfl) (fun w hS => schema_reader_byte.c hB hS (i0a := 1) (o0 := (l0, s4.1, s4.2.1)) rfl hg4) (fun x8 => ?_)
    refine T.dNext (phi_cons (.inr (Cl.stays 3 rfl)) phi_nil) ?_
    obtain ⟨r5, hg5, he1⟩ := inv_bind he1
    refine T.pick [0, 1, 2, 3, 4, 5] 6 rfl rfl nla (hs' := Cl b2 125 [.slice A0 l0.length c0, .int .i64 r4.2.2.1, .bool r4.2.2.2] :: Ro E8 A0 c0 l0 :: Cl b1 62 [str (([] : List UInt8)), .slice none 0 0, .slice none 0 0] :: Cl b3 62 [str r1.1, .slice x2.1 s1.2.2.length x2.2, .slice x7.1 s4.2.2.1.length x7.2] :: Bf (Elt.pair EStr (Elt.pair E64 E64)) 129 x2.1 x2.2 s1.2.2 :: Bf (Elt.pair E64 EBool) 131 x7.1 x7.2 s4.2.2.1 :: hs) rfl (T.dOnly (i := 5) (by kernel_rfl) ?_)
    refine T.call (.dOne rfl (by kernel_rfl)) w0 rfl (run_callF (vs := [_, _]) rfl Tryd.func70 rfl (by decide) rfl) (fun w hS => schema_reader_byte.c hB hS (i0a := 1) (o0 := (l0, r4.2.2.1, r4.2.2.2)) rfl hg5) (fun x9 => ?_)
    refine T.dNext (phi_cons (.inr (Cl.stays 3 rfl)) phi_nil) (T.bin (.dPure (i := 6) rfl (by kernel_rfl) (fun d _ _ _ _ h => by cases d <;> exact h)) rfl w0 rfl rfl rfl rfl (T.build (.dPure (i := 7) rfl (by kernel_rfl) (fun d _ _ _ _ h => by cases d <;> exact h)) (vals := [(0, .int .i64 r4.1), (1, .bool ((decide (r5.1 = 1))))]) (cells := #[.int .i64 r4.1, .bool ((decide (r5.1 = 1)))]) rfl w0 rfl rfl (run_buildStruct (sizes := [1, 1]) (by kernel_rfl) (by kernel_rfl)) (T.dOnly (i := 8) (by kernel_rfl) ?_)))
    refine T.lit (E := Elt.pair E64 EBool) (.dOne rfl (by kernel_rfl)) (vals := [(0, .agg #[.int .i64 r4.1, .bool ((decide (r5.1 = 1)))])]) (cells := #[.int .i64 r4.1, .bool ((decide (r5.1 = 1)))]) rfl w0 rfl rfl rfl rfl rfl (by kernel_rfl) ([(r4.1, (decide (r5.1 = 1)))] : List (Int × Bool)) rfl (fun _ _ _ _ ho => (Has.encs ho (Has.pair (Has.sc rfl) (Has.sc rfl) rfl) rfl rfl)) (fun b4 => ?_)
    refine T.dNext (phi_cons (.inr (Cl.stays 4 rfl)) phi_nil) ?_
    obtain ⟨hc1, he1⟩ := inv_chk he1
    refine T.dOnly (i := 9) (by kernel_rfl) ?_
    refine T.appBf (.dOne rfl (by kernel_rfl)) 6 0 rfl rfl rfl rfl rfl w0 rfl rfl rfl rfl rfl rfl hc1 (fun _ _ => rfl) (fun A2 c2 => ?_)
    refine T.dNext (phi_cons (.inr (Cl.stays 4 rfl)) phi_nil) (T.field (.dPure (i := 10) rfl (by kernel_rfl) (fun d _ _ _ _ h => by cases d <;> exact h)) rfl w0 rfl rfl (T.dOnly (i := 11) (by kernel_rfl) ?_))
    refine T.store (.dOne rfl (by kernel_rfl)) 4 rfl rfl w0 rfl rfl rfl rfl (Nat.le_of_ble_eq_true rfl) rfl (cs' := [str r1.1, .slice x2.1 s1.2.2.length x2.2, .slice A2 (((s4.2.2.1 ++ (([(r4.1, (decide (r5.1 = 1)))] : List (Int × Bool))))).length) c2]) rfl rfl (T.dNext (phi_cons (.inl (by kernel_rfl)) phi_nil) (T.dDone (by kernel_rfl) (T.in_normal (T.then_normal (T.region (T.bin .list rfl w0 rfl rfl rfl rfl (T.mv rfl rfl rfl rfl (T.nil (T.then_normal ?_)))))))))
    obtain rfl := inv_some he1
    exact T.le (EnvLe.cons rfl (EnvLe.cons rfl (EnvLe.cons rfl (EnvLe.cons rfl (EnvLe.cons rfl (EnvLe.cons rfl EnvLe.nil)))))) (T.pick [2, 3, 1, 4, 5, 6] 7 rfl rfl nla rfl (hm1 (r5.2.2.1, r5.2.2.2, (s4.2.2.1 ++ (([(r4.1, (decide (r5.1 = 1)))] : List (Int × Bool)))), IntKind.i64.wrap (s4.2.2.2 + 1)) rfl (A2, c2)))
   ·replace he1 := inv_negB hb4 he1
    refine T.exit (T.then_exit (T.then_exit ?_))
    obtain rfl := inv_some he1
    obtain rfl := hx1 _ rfl
    refine T.in_hit (T.then_normal ?_)
    exact T.le (EnvLe.cons rfl (EnvLe.cons rfl (EnvLe.cons rfl (EnvLe.cons rfl EnvLe.nil)))) (T.pick [0, 1, 2, 3, 4, 5] 6 rfl rfl nla rfl (J2 (s4.1, s4.2.1, s4.2.2.1) x7 hk1))
 ·refine T.seq (T.region (T.mv rfl rfl rfl rfl (T.pick [1, 0, 2, 3] 4 rfl rfl nla (hs' := Cl b2 125 [.slice A0 l0.length c0, .int .i64 r1.2.2.1, .bool r1.2.2.2] :: Cl b3 62 [str r1.1, .slice none 0 0, .slice none 0 0] :: Cl b1 62 [str (([] : List UInt8)), .slice none 0 0, .slice none 0 0] :: Ro E8 A0 c0 l0 :: hs) rfl ?_)))
  obtain ⟨r6, hg6, hr⟩ := inv_bind hr
  refine T.call .list w0 rfl (run_callF (vs := [_, _]) rfl Tryd.func70 rfl (by decide) rfl) (fun w hS => schema_reader_byte.c hB hS (i0a := 3) (o0 := (l0, r1.2.2.1, r1.2.2.2)) rfl hg6) (fun x10 => ?_)
  refine T.mv rfl rfl rfl rfl (T.nil (T.then_normal (T.block ?_)))
  obtain ⟨e2, hl2, hr⟩ := inv_bind hr
  refine T.nilBf (Elt.pair EStr (Elt.pair E64 E64)) 129 ?_
  refine T.le (EnvLe.cons rfl (EnvLe.cons rfl (EnvLe.cons rfl (EnvLe.cons rfl (EnvLe.cons rfl (EnvLe.cons rfl EnvLe.nil)))))) (T.pick [4, 3, 1, 2, 0] 5 rfl rfl nla rfl (T.loop (s0 := (r6.2.2.1, r6.2.2.2, ([] : List ((List UInt8) × Int × Int)), 0)) (env := fun s5 x11 => [(0, .slice A0 l0.length c0), (2, .pointer (some ⟨b1, 0, none⟩)), (4, .pointer (some ⟨b2, 0, none⟩)), (5, .pointer (some ⟨b3, 0, none⟩)), (13, .int .i64 r6.1), (14, .int .i64 s5.2.2.2)]) (hs := fun (s5 : Int × Bool × (List ((List UInt8) × Int × Int)) × Int) (x11 : (Option Addr × Nat)) => Ro E8 A0 c0 l0 :: Cl b1 62 [str (([] : List UInt8)), .slice none 0 0, .slice none 0 0] :: Cl b2 125 [.slice A0 l0.length c0, .int .i64 s5.1, .bool s5.2.1] :: Cl b3 62 [str r1.1, .slice x11.1 s5.2.2.1.length x11.2, .slice none 0 0] :: Bf (Elt.pair EStr (Elt.pair E64 E64)) 129 x11.1 x11.2 s5.2.2.1 :: hs) hl2 (none, 0) (fun K2 s5 x11 o2 he2 hm2 hx2 => ?_)))
  unfold schema_Decode.st2 at he2
  refine T.seq (T.region (T.bin .list rfl w0 rfl rfl rfl rfl (T.nil (T.then_normal (T.seq ?_)))))
  refine T.cond rfl (fun hb5 => ?_) (fun hb5 => ?_)
  ·replace he2 := inv_posB hb5 he2
   refine T.skip (T.then_normal (T.seq (T.block (T.dStart mixed (T.field (.dPure (i := 0) rfl (by kernel_rfl) (fun d _ _ _ _ h => by cases d <;> exact h)) rfl w0 rfl rfl (T.move (.dPure (i := 2) rfl (by kernel_rfl) (fun d _ _ _ _ h => by cases d <;> exact h)) rfl w0 rfl rfl (T.move (.dPure (i := 4) rfl (by kernel_rfl) (fun d _ _ _ _ h => by cases d <;> exact h)) rfl w0 rfl rfl (T.move (.dPure (i := 6) rfl (by kernel_rfl) (fun d _ _ _ _ h => by cases d <;> exact h)) rfl w0 rfl rfl (T.dAdd 12 (fun w => w.heap[b3]? = some (.cells [str r1.1, .slice x11.1 s5.2.2.1.length x11.2, .slice none 0 0].toArray 62 (0, 0))) (Cl.stays 3 rfl) (T.valS 0 (i := 1) (.slice x11.1 s5.2.2.1.length x11.2) rfl rfl (by kernel_rfl) (by kernel_rfl) (fun d _ _ _ _ h => by cases d <;> exact h) w0 rfl (run_ldCl rfl rfl rfl) ?_))))))))))
   obtain ⟨r7, hg7, he2⟩ := inv_bind he2
   refine T.pick [2, 0, 1, 3, 4] 5 rfl rfl nla (hs' := Cl b2 125 [.slice A0 l0.length c0, .int .i64 s5.1, .bool s5.2.1] :: Ro E8 A0 c0 l0 :: Cl b1 62 [str (([] : List UInt8)), .slice none 0 0, .slice none 0 0] :: Cl b3 62 [str r1.1, .slice x11.1 s5.2.2.1.length x11.2, .slice none 0 0] :: Bf (Elt.pair EStr (Elt.pair E64 E64)) 129 x11.1 x11.2 s5.2.2.1 :: hs) rfl (T.dOnly (i := 3) (by kernel_rfl) ?_)
   refine T.call (.dOne rfl (by kernel_rfl)) w0 rfl (run_callF (vs := [_]) rfl Tryd.func69 rfl (by decide) rfl) (fun w hS => schema_reader_name.c hB hS (i0a := 1) (o0 := (l0, s5.1, s5.2.1)) rfl hg7) (fun x12 => ?_)
   refine T.dNext (phi_cons (.inr (Cl.stays 3 rfl)) phi_nil) ?_
   obtain ⟨r8, hg8, he2⟩ := inv_bind he2
   refine T.pick [0, 1, 2, 3, 4] 5 rfl rfl nla (hs' := Cl b2 125 [.slice A0 l0.length c0, .int .i64 r7.2.2.1, .bool r7.2.2.2] :: Ro E8 A0 c0 l0 :: Cl b1 62 [str (([] : List UInt8)), .slice none 0 0, .slice none 0 0] :: Cl b3 62 [str r1.1, .slice x11.1 s5.2.2.1.length x11.2, .slice none 0 0] :: Bf (Elt.pair EStr (Elt.pair E64 E64)) 129 x11.1 x11.2 s5.2.2.1 :: hs) rfl (T.dOnly (i := 5) (by kernel_rfl) ?_)
   refine T.call (.dOne rfl (by kernel_rfl)) w0 rfl (run_callF (vs := [_, _]) rfl Tryd.func70 rfl (by decide) rfl) (fun w hS => schema_reader_byte.c hB hS (i0a := 1) (o0 := (l0, r7.2.2.1, r7.2.2.2)) rfl hg8) (fun x13 => ?_)
   refine T.dNext (phi_cons (.inr (Cl.stays 3 rfl)) phi_nil) ?_
   obtain ⟨r9, hg9, he2⟩ := inv_bind he2
   refine T.pick [0, 1, 2, 3, 4] 5 rfl rfl nla (hs' := Cl b2 125 [.slice A0 l0.length c0, .int .i64 r8.2.2.1, .bool r8.2.2.2] :: Ro E8 A0 c0 l0 :: Cl b1 62 [str (([] : List UInt8)), .slice none 0 0, .slice none 0 0] :: Cl b3 62 [str r1.1, .slice x11.1 s5.2.2.1.length x11.2, .slice none 0 0] :: Bf (Elt.pair EStr (Elt.pair E64 E64)) 129 x11.1 x11.2 s5.2.2.1 :: hs) rfl (T.dOnly (i := 7) (by kernel_rfl) ?_)
   refine T.call (.dOne rfl (by kernel_rfl)) w0 rfl (run_callF (vs := [_, _]) rfl Tryd.func70 rfl (by decide) rfl) (fun w hS => schema_reader_byte.c hB hS (i0a := 1) (o0 := (l0, r8.2.2.1, r8.2.2.2)) rfl hg9) (fun x14 => ?_)
   refine T.dNext (phi_cons (.inr (Cl.stays 3 rfl)) phi_nil) (T.build (.dPure (i := 8) rfl (by kernel_rfl) (fun d _ _ _ _ h => by cases d <;> exact h)) (vals := [(0, str r7.1), (1, .int .i64 r8.1), (2, .int .i64 r9.1)]) (cells := #[str r7.1, .int .i64 r8.1, .int .i64 r9.1]) rfl w0 rfl rfl (run_buildStruct (sizes := [1, 1, 1]) (by kernel_rfl) (by kernel_rfl)) (T.dOnly (i := 9) (by kernel_rfl) ?_))
   refine T.lit (E := Elt.pair EStr (Elt.pair E64 E64)) (.dOne rfl (by kernel_rfl)) (vals := [(0, .agg #[str r7.1, .int .i64 r8.1, .int .i64 r9.1])]) (cells := #[str r7.1, .int .i64 r8.1, .int .i64 r9.1]) rfl w0 rfl rfl rfl rfl rfl (by kernel_rfl) ([(r7.1, r8.1, r9.1)] : List ((List UInt8) × Int × Int)) rfl (fun _ _ _ _ ho => (Has.encs ho (Has.pair (Has.sc rfl) (Has.pair (Has.sc rfl) (Has.sc rfl) rfl) rfl) rfl rfl)) (fun b5 => ?_)
   refine T.dNext (phi_cons (.inr (Cl.stays 4 rfl)) phi_nil) ?_
   obtain ⟨hc2, he2⟩ := inv_chk he2
   refine T.dOnly (i := 10) (by kernel_rfl) ?_
   refine T.appBf (.dOne rfl (by kernel_rfl)) 5 0 rfl rfl rfl rfl rfl w0 rfl rfl rfl rfl rfl rfl hc2 (fun _ _ => rfl) (fun A3 c3 => ?_)
   refine T.dNext (phi_cons (.inr (Cl.stays 4 rfl)) phi_nil) (T.field (.dPure (i := 11) rfl (by kernel_rfl) (fun d _ _ _ _ h => by cases d <;> exact h)) rfl w0 rfl rfl (T.dOnly (i := 12) (by kernel_rfl) ?_))
   refine T.store (.dOne rfl (by kernel_rfl)) 4 rfl rfl w0 rfl rfl rfl rfl (Nat.le_of_ble_eq_true rfl) rfl (cs' := [str r1.1, .slice A3 (((s5.2.2.1 ++ (([(r7.1, r8.1, r9.1)] : List ((List UInt8) × Int × Int))))).length) c3, .slice none 0 0]) rfl rfl (T.dNext (phi_cons (.inl (by kernel_rfl)) phi_nil) (T.dDone (by kernel_rfl) (T.in_normal (T.then_normal (T.region (T.bin .list rfl w0 rfl rfl rfl rfl (T.mv rfl rfl rfl rfl (T.nil (T.then_normal ?_)))))))))
   obtain rfl := inv_some he2
   exact T.le (EnvLe.cons rfl (EnvLe.cons rfl (EnvLe.cons rfl (EnvLe.cons rfl (EnvLe.cons rfl (EnvLe.cons rfl EnvLe.nil)))))) (T.pick [2, 3, 1, 4, 5] 6 rfl rfl nla rfl (hm2 (r9.2.2.1, r9.2.2.2, (s5.2.2.1 ++ (([(r7.1, r8.1, r9.1)] : List ((List UInt8) × Int × Int)))), IntKind.i64.wrap (s5.2.2.2 + 1)) rfl (A3, c3)))
  ·replace he2 := inv_negB hb5 he2
   refine T.exit (T.then_exit (T.then_exit ?_))
   obtain rfl := inv_some he2
   obtain rfl := hx2 _ rfl
   refine T.in_hit (T.then_normal ?_)
   exact T.le (EnvLe.cons rfl (EnvLe.cons rfl (EnvLe.cons rfl (EnvLe.cons rfl EnvLe.nil)))) (T.pick [0, 1, 2, 3, 4] 5 rfl rfl nla rfl (J1 (s5.1, s5.2.1, s5.2.2.1) x11 hr))

noncomputable def schema_EncodeRow.k1 (l0 : List (Int × Int × (List UInt8))) (s1 : Unit) : Option (List UInt8 × Int) :=
  (keys_Key.impl l0).bind fun r1 => (if ((!(decide (r1.2 = 0)))) = true then some (([] : List UInt8), 62) else some (r1.1, 0))
noncomputable def schema_EncodeRow.k2 (s2 : Int) (s3 : Bool) : Option (Int ⊕ ((List UInt8 × Int) ⊕ Unit)) :=
  (if s3 = true then some (.inr (.inl (([] : List UInt8), 62))) else some (.inl (IntKind.i64.wrap (s2 + 1))))
noncomputable def schema_EncodeRow.st1 (l0 : List (Int × Int × (List UInt8))) (s2 : Int) : Option (Int ⊕ ((List UInt8 × Int) ⊕ Unit)) :=
  (if ((decide (s2 < ((l0.length : Int))))) = true then chk (0 ≤ s2 ∧ s2 < (l0.length : Int)) ((if ((decide (((((((l0).getD (s2 : Int).toNat default)).1))) = 2))) = true then (keys_Runes.impl (((((l0).getD (s2 : Int).toNat default)).2.2))).bind fun r2 => schema_EncodeRow.k2 s2 (decide ((8 : Int) < r2)) else schema_EncodeRow.k2 s2 false)) else some (.inr (.inr ())))
noncomputable def schema_EncodeRow.impl (l0 : List (Int × Int × (List UInt8))) : Option (List UInt8 × Int) :=
  (if ((decide ((3 : Int) < ((l0.length : Int))))) = true then some (([] : List UInt8), 2) else (loop (schema_EncodeRow.st1 l0) 0).bind (fun e1 => match e1 with | .inl v => some v | .inr v => schema_EncodeRow.k1 l0 v))
set_option maxRecDepth 100000 in
set_option maxHeartbeats 4000000 in
theorem schema_EncodeRow.c {B : World} {hs : List MP} {w : World} {i0 c0 : Nat} {A0 : Option Addr} {l0 : List (Int × Int × (List UInt8))} (hB : Base B) (hS : St B hs w) (h0 : (hs)[i0]? = some (Ro (Elt.pair E64 (Elt.pair E64 EStr)) A0 c0 l0)) {r : List UInt8 × Int} (hr : schema_EncodeRow.impl l0 = some r) :
    Calls Tryd.prog 19 #[.slice A0 l0.length c0] w fun e w' => ∃ x : (Option Addr × Nat), e = .returned (.tuple #[.slice x.1 r.1.length x.2, .int .i64 r.2]) ∧ St B (Bf E8 5 x.1 x.2 r.1 :: hs) w' := by
 unfold schema_EncodeRow.impl at hr
 refine calls_T Tryd.func19 rfl rfl rfl hS ?_
 refine T.front i0 h0 (T.seq (T.region (T.asg rfl rfl rfl rfl (T.asg rfl rfl rfl rfl (T.nil (T.then_normal (T.seq (T.seq (T.region (T.mv rfl rfl rfl rfl (T.lenSlice .list rfl w0 rfl rfl ?_)))))))))))
 refine T.bin .list rfl w0 rfl rfl rfl rfl (T.nil (T.then_normal ?_))
 refine T.cond rfl (fun hb1 => ?_) (fun hb1 => ?_)
 ·replace hr := inv_posB hb1 hr
  refine T.seq (T.region (T.asg rfl rfl rfl rfl (T.asg rfl rfl rfl rfl (T.nil (T.then_normal (T.ret (T.then_ret ?_)))))))
  obtain rfl := inv_some hr
  refine T.nilBf E8 5 (T.pick [0] 2 rfl rfl nla rfl ?_)
  refine T.ret2 rfl rfl rfl (fun w hS => ⟨(none, 0), rfl, hS⟩)
 ·replace hr := inv_negB hb1 hr
  refine T.skip (T.then_normal ?_)
  refine T.seqJ (fun (s1 : Unit) (x1 : Unit) => [(0, .slice A0 l0.length c0)]) (fun s1 x1 => Ro (Elt.pair E64 (Elt.pair E64 EStr)) A0 c0 l0 :: hs) (fun s1 => schema_EncodeRow.k1 l0 s1 = some r) (fun s1 x1 hk1 => ?_) (fun J1 => ?_)
  ·unfold schema_EncodeRow.k1 at hk1
   refine T.seq (T.region (T.mv rfl rfl rfl rfl ?_))
   obtain ⟨r1, hg1, hk1⟩ := inv_bind hk1
   refine T.call .list w0 rfl (run_callF (vs := [_]) rfl Tryd.func43 rfl (by decide) rfl) (fun w hS => keys_Key.c hB hS (i0 := 0) rfl hg1) (fun x2 => ?_)
   refine T.mv rfl rfl rfl rfl (T.extract .list rfl w0 rfl rfl rfl (T.extract .list rfl w0 rfl rfl rfl (T.asg rfl rfl rfl rfl (T.asg rfl rfl rfl rfl (T.nil (T.then_normal (T.seq (T.seq (T.region (T.mv rfl rfl rfl rfl (T.bin .list rfl w0 rfl rfl rfl rfl ?_)))))))))))
   refine T.nil (T.then_normal ?_)
   refine T.cond rfl (fun hb2 => ?_) (fun hb2 => ?_)
   ·replace hk1 := inv_posB hb2 hk1
    refine T.seq (T.region (T.asg rfl rfl rfl rfl (T.asg rfl rfl rfl rfl (T.nil (T.then_normal (T.ret (T.then_ret ?_)))))))
    obtain rfl := inv_some hk1
    refine T.nilBf E8 5 (T.pick [0] 3 rfl rfl nla rfl ?_)
    refine T.ret2 rfl rfl rfl (fun w hS => ⟨(none, 0), rfl, hS⟩)
   ·replace hk1 := inv_negB hb2 hk1
    refine T.skip (T.then_normal (T.seq (T.region (T.mv rfl rfl rfl rfl (T.asg rfl rfl rfl rfl (T.asg rfl rfl rfl rfl (T.nil (T.then_normal (T.ret ?_)))))))))
    obtain rfl := inv_some hk1
    refine T.pick [0] 2 rfl rfl nla rfl ?_
    refine T.ret2 rfl rfl rfl (fun w hS => ⟨x2, rfl, hS⟩)
  ·refine T.seq (T.region (T.mv rfl rfl rfl rfl (T.lenSlice .list rfl w0 rfl rfl (T.mv rfl rfl rfl rfl (T.nil (T.then_normal (T.block ?_)))))))
   obtain ⟨e1, hl1, hr⟩ := inv_bind hr
   refine T.le (EnvLe.cons rfl (EnvLe.cons rfl (EnvLe.cons rfl (EnvLe.cons rfl EnvLe.nil)))) (T.pick [0] 1 rfl rfl nla rfl (T.loop (s0 := 0) (env := fun s2 x3 => [(0, .slice A0 l0.length c0), (11, .slice A0 l0.length c0), (12, .int .i64 ((l0.length : Int))), (13, .int .i64 s2)]) (hs := fun (s2 : Int) (x3 : Unit) => Ro (Elt.pair E64 (Elt.pair E64 EStr)) A0 c0 l0 :: hs) hl1 () (fun K1 s2 x3 o1 he1 hm1 hx1 => ?_)))
   unfold schema_EncodeRow.st1 at he1
   refine T.seq (T.region (T.bin .list rfl w0 rfl rfl rfl rfl (T.nil (T.then_normal (T.seq ?_)))))
   refine T.cond rfl (fun hb3 => ?_) (fun hb3 => ?_)
   ·replace he1 := inv_posB hb3 he1
    refine T.skip (T.then_normal (T.seq (T.block (T.seq (T.region ?_)))))
    obtain ⟨hc1, he1⟩ := inv_chk he1
    refine T.idxRo .list 0 rfl rfl w0 rfl rfl rfl hc1.1 hc1.2 (Nat.le_refl _) ?_
    refine T.ldFRo 0 .list Fd.self (Sh.pair Sh.sc (Sh.pair Sh.sc Sh.sc)) rfl (.inl rfl) rfl rfl hc1.1 hc1.2 rfl w0 rfl rfl rfl (v := fun x4 => .agg #[.int .i64 (((((l0).getD (s2 : Int).toNat default)).1)), .int .i64 (((((l0).getD (s2 : Int).toNat default)).2.1)), str (((((l0).getD (s2 : Int).toNat default)).2.2))]) (hs' := fun x4 => Ro (Elt.pair E64 (Elt.pair E64 EStr)) A0 c0 l0 :: hs) (fun _ => rfl) (fun _ => rfl) (fun x4 => ?_)
    refine T.allocS .list rfl w0 rfl (cs := [.int .i64 0, .int .i64 0, str (([] : List UInt8))]) rfl (fun b1 => ?_)
    refine T.store .list 0 rfl rfl w0 rfl rfl rfl rfl (Nat.le_of_ble_eq_true rfl) rfl (cs' := [.int .i64 (((((l0).getD (s2 : Int).toNat default)).1)), .int .i64 (((((l0).getD (s2 : Int).toNat default)).2.1)), str (((((l0).getD (s2 : Int).toNat default)).2.2))]) rfl rfl (T.nil (T.then_normal ?_))
    refine T.seqJ (fun (s3 : Bool) (x5 : Unit) => [(0, .slice A0 l0.length c0), (11, .slice A0 l0.length c0), (12, .int .i64 ((l0.length : Int))), (13, .int .i64 s2), (25, .bool s3)]) (fun s3 x5 => Ro (Elt.pair E64 (Elt.pair E64 EStr)) A0 c0 l0 :: hs) (fun s3 => schema_EncodeRow.k2 s2 s3 = some o1) (fun s3 x5 hk2 => ?_) (fun J2 => ?_)
    ·unfold schema_EncodeRow.k2 at hk2
     refine T.cond rfl (fun hb4 => ?_) (fun hb4 => ?_)
     ·replace hk2 := inv_posB hb4 hk2
      refine T.seq (T.region (T.asg rfl rfl rfl rfl (T.asg rfl rfl rfl rfl (T.nil (T.then_normal (T.ret (T.in_ret (T.then_ret (T.then_ret ?_)))))))))
      obtain rfl := inv_some hk2
      obtain rfl := hx1 _ rfl
      refine T.in_ret (T.then_ret ?_)
      obtain rfl := inv_some hr
      refine T.nilBf E8 5 (T.pick [0] 2 rfl rfl nla rfl ?_)
      refine T.ret2 rfl rfl rfl (fun w hS => ⟨(none, 0), rfl, hS⟩)
     ·replace hk2 := inv_negB hb4 hk2
      refine T.skip (T.in_normal (T.then_normal (T.region (T.bin .list rfl w0 rfl rfl rfl rfl (T.mv rfl rfl rfl rfl (T.nil (T.then_normal ?_)))))))
      obtain rfl := inv_some hk2
      exact T.le (EnvLe.cons rfl (EnvLe.cons rfl (EnvLe.cons rfl (EnvLe.cons rfl EnvLe.nil)))) (T.pick [0] 1 rfl rfl nla rfl (hm1 (IntKind.i64.wrap (s2 + 1)) rfl ()))
    ·refine T.region (T.field .list rfl w0 rfl rfl (T.load .list 0 rfl rfl w0 rfl rfl rfl (T.bin .list rfl w0 rfl rfl rfl rfl (T.mv rfl rfl rfl rfl ?_))))
     refine T.bool (b := (decide (((((((l0).getD (s2 : Int).toNat default)).1))) = 2))) (fun hb5 => ?_) (fun hb5 => ?_)
     ·replace he1 := inv_posB hb5 he1
      refine T.field .list rfl (wants1 rfl rfl rfl hb5) rfl rfl (T.load .list 0 rfl rfl (wants1 rfl rfl rfl hb5) rfl rfl rfl ?_)
      obtain ⟨r2, hg2, he1⟩ := inv_bind he1
      refine T.call .list (wants1 rfl rfl rfl hb5) rfl (run_callF (vs := [_]) rfl Tryd.func42 rfl (by decide) rfl) (fun w hS => keys_Runes.c hB hS  hg2) (fun x6 => ?_)
      refine T.bin .list rfl (wants1 rfl rfl rfl hb5) rfl rfl rfl rfl (T.pickT .list rfl w0 rfl rfl hb5 rfl (T.nil (T.then_normal ?_)))
      exact T.le (EnvLe.cons rfl (EnvLe.cons rfl (EnvLe.cons rfl (EnvLe.cons rfl (EnvLe.cons rfl EnvLe.nil))))) (T.pick [1] 2 rfl rfl nla rfl (J2 (decide ((8 : Int) < r2)) () he1))
     ·replace he1 := inv_negB hb5 he1
      refine T.lv rfl rfl rfl hb5 rfl (T.lv rfl rfl rfl hb5 rfl (T.lv rfl rfl rfl hb5 rfl (T.lv rfl rfl rfl hb5 rfl (T.pickF .list rfl w0 rfl rfl hb5 rfl (T.nil (T.then_normal ?_))))))
      exact T.le (EnvLe.cons rfl (EnvLe.cons rfl (EnvLe.cons rfl (EnvLe.cons rfl (EnvLe.cons rfl EnvLe.nil))))) (T.pick [1] 2 rfl rfl nla rfl (J2 false () he1))
   ·replace he1 := inv_negB hb3 he1
    refine T.exit (T.then_exit (T.then_exit ?_))
    obtain rfl := inv_some he1
    obtain rfl := hx1 _ rfl
    refine T.in_hit (T.then_normal ?_)
    exact T.le (EnvLe.cons rfl EnvLe.nil) (T.pick [0] 1 rfl rfl nla rfl (J1 () () hr))

noncomputable def schema_DecodeRow.impl (l0 : List UInt8) : Option ((List (Int × Int × (List UInt8))) × Int) :=
  (keys_Read.impl l0).bind fun r1 => (if ((!(decide (r1.2 = 0)))) = true then some (([] : List (Int × Int × (List UInt8))), 11) else (schema_EncodeRow.impl r1.1).bind fun r2 => (if ((!(decide (r2.2 = 0)))) = true then some (([] : List (Int × Int × (List UInt8))), 11) else some (r1.1, 0)))
set_option maxRecDepth 100000 in
set_option maxHeartbeats 4000000 in
theorem schema_DecodeRow.c {B : World} {hs : List MP} {w : World} {i0 c0 : Nat} {A0 : Option Addr} {l0 : List UInt8} (hB : Base B) (hS : St B hs w) (h0 : (hs)[i0]? = some (Ro E8 A0 c0 l0)) {r : (List (Int × Int × (List UInt8))) × Int} (hr : schema_DecodeRow.impl l0 = some r) :
    Calls Tryd.prog 46 #[.slice A0 l0.length c0] w fun e w' => ∃ x : (Option Addr × Nat), e = .returned (.tuple #[.slice x.1 r.1.length x.2, .int .i64 r.2]) ∧ St B (Bf (Elt.pair E64 (Elt.pair E64 EStr)) 64 x.1 x.2 r.1 :: hs) w' := by
 unfold schema_DecodeRow.impl at hr
 refine calls_T Tryd.func46 rfl rfl rfl hS ?_
 refine T.front i0 h0 (T.seq (T.region (T.asg rfl rfl rfl rfl (T.asg rfl rfl rfl rfl (T.nil (T.then_normal (T.seq (T.region (T.mv rfl rfl rfl rfl ?_)))))))))
 obtain ⟨r1, hg1, hr⟩ := inv_bind hr
 refine T.call .list w0 rfl (run_callF (vs := [_]) rfl Tryd.func67 rfl (by decide) rfl) (fun w hS => keys_Read.c hB hS (i0 := 0) rfl hg1) (fun x1 => ?_)
 refine T.mv rfl rfl rfl rfl (T.extract .list rfl w0 rfl rfl rfl (T.extract .list rfl w0 rfl rfl rfl (T.asg rfl rfl rfl rfl (T.asg rfl rfl rfl rfl (T.nil (T.then_normal (T.seq (T.seq (T.region (T.mv rfl rfl rfl rfl (T.bin .list rfl w0 rfl rfl rfl rfl ?_)))))))))))
 refine T.nil (T.then_normal ?_)
 refine T.cond rfl (fun hb1 => ?_) (fun hb1 => ?_)
 ·replace hr := inv_posB hb1 hr
  refine T.seq (T.region (T.asg rfl rfl rfl rfl (T.asg rfl rfl rfl rfl (T.nil (T.then_normal (T.ret (T.then_ret ?_)))))))
  obtain rfl := inv_some hr
  refine T.nilBf (Elt.pair E64 (Elt.pair E64 EStr)) 64 (T.pick [0] 3 rfl rfl nla rfl ?_)
  refine T.ret2 rfl rfl rfl (fun w hS => ⟨(none, 0), rfl, hS⟩)
 ·replace hr := inv_negB hb1 hr
  refine T.skip (T.then_normal (T.seq (T.seq (T.region (T.mv rfl rfl rfl rfl ?_)))))
  obtain ⟨r2, hg2, hr⟩ := inv_bind hr
  refine T.call .list w0 rfl (run_callF (vs := [_]) rfl Tryd.func19 rfl (by decide) rfl) (fun w hS => (schema_EncodeRow.c (hB.up hS) (St.borrow (ros := [Ro (Elt.pair E64 (Elt.pair E64 EStr)) x1.1 x1.2 r1.1]) (Ros.cons (hS.roBf 0 rfl rfl) Ros.nil)) (i0 := 0) rfl hg2).mono fun e w' ⟨x, he, h1⟩ => ⟨x, he, hS.unborrow (post := [Bf E8 5 x.1 x.2 r2.1]) h1 (Frees.cons (Bf.free .sc) Frees.nil)⟩) (fun x2 => ?_)
  refine T.mv rfl rfl rfl rfl (T.extract .list rfl w0 rfl rfl rfl (T.extract .list rfl w0 rfl rfl rfl (T.asg rfl rfl rfl rfl (T.asg rfl rfl rfl rfl (T.nil (T.then_normal (T.seq (T.region (T.mv rfl rfl rfl rfl (T.bin .list rfl w0 rfl rfl rfl rfl (T.nil ?_)))))))))))
  refine T.then_normal ?_
  refine T.cond rfl (fun hb2 => ?_) (fun hb2 => ?_)
  ·replace hr := inv_posB hb2 hr
   refine T.seq (T.region (T.asg rfl rfl rfl rfl (T.asg rfl rfl rfl rfl (T.nil (T.then_normal (T.ret (T.then_ret ?_)))))))
   obtain rfl := inv_some hr
   refine T.nilBf (Elt.pair E64 (Elt.pair E64 EStr)) 64 (T.pick [0] 4 rfl rfl nla rfl ?_)
   refine T.ret2 rfl rfl rfl (fun w hS => ⟨(none, 0), rfl, hS⟩)
  ·replace hr := inv_negB hb2 hr
   refine T.skip (T.then_normal (T.seq (T.region (T.mv rfl rfl rfl rfl (T.asg rfl rfl rfl rfl (T.asg rfl rfl rfl rfl (T.nil (T.then_normal (T.ret ?_)))))))))
   obtain rfl := inv_some hr
   refine T.pick [1] 3 rfl rfl nla rfl ?_
   refine T.ret2 rfl rfl rfl (fun w hS => ⟨x1, rfl, hS⟩)

noncomputable def slices_Equal_api_Column_api_Column_.k1 (s1 : Unit) : Option Bool :=
  some true
noncomputable def slices_Equal_api_Column_api_Column_.st1 (l0 : List ((List UInt8) × Int × Int)) (l1 : List ((List UInt8) × Int × Int)) (s2 : Int) : Option (Int ⊕ (Bool ⊕ Unit)) :=
  (if ((decide (s2 < ((l0.length : Int))))) = true then chk (0 ≤ s2 ∧ s2 < (l0.length : Int)) (chk (0 ≤ s2 ∧ s2 < (l1.length : Int)) ((if ((!(decide (((l0).getD (s2 : Int).toNat default) = ((l1).getD (s2 : Int).toNat default))))) = true then some (.inr (.inl false)) else some (.inl (IntKind.i64.wrap (s2 + 1)))))) else some (.inr (.inr ())))
noncomputable def slices_Equal_api_Column_api_Column_.impl (l0 : List ((List UInt8) × Int × Int)) (l1 : List ((List UInt8) × Int × Int)) : Option Bool :=
  (if ((!(decide ((((l0.length : Int))) = ((l1.length : Int)))))) = true then some false else (loop (slices_Equal_api_Column_api_Column_.st1 l0 l1) 0).bind (fun e1 => match e1 with | .inl v => some v | .inr v => slices_Equal_api_Column_api_Column_.k1 v))
set_option maxRecDepth 100000 in
set_option maxHeartbeats 4000000 in
theorem slices_Equal_api_Column_api_Column_.c {B : World} {hs : List MP} {w : World} {i0 c0 : Nat} {A0 : Option Addr} {l0 : List ((List UInt8) × Int × Int)} {i1 c1 : Nat} {A1 : Option Addr} {l1 : List ((List UInt8) × Int × Int)} (hB : Base B) (hS : St B hs w) (h0 : (hs)[i0]? = some (Ro (Elt.pair EStr (Elt.pair E64 E64)) A0 c0 l0)) (h1 : (hs)[i1]? = some (Ro (Elt.pair EStr (Elt.pair E64 E64)) A1 c1 l1)) {r : Bool} (hr : slices_Equal_api_Column_api_Column_.impl l0 l1 = some r) :
    Calls Tryd.prog 78 #[.slice A0 l0.length c0, .slice A1 l1.length c1] w fun e w' => ∃ x : Unit, e = .returned (.bool r) ∧ St B hs w' := by
 unfold slices_Equal_api_Column_api_Column_.impl at hr
 refine calls_T Tryd.func78 rfl rfl rfl hS ?_
 refine T.front i0 h0 (T.front (i1 + 1) h1 (T.seq (T.region (T.asg rfl rfl rfl rfl (T.nil (T.then_normal (T.seq (T.seq (T.region (T.mv rfl rfl rfl rfl (T.lenSlice .list rfl w0 rfl rfl ?_)))))))))))
 refine T.mv rfl rfl rfl rfl (T.lenSlice .list rfl w0 rfl rfl (T.bin .list rfl w0 rfl rfl rfl rfl (T.nil (T.then_normal ?_))))
 refine T.cond rfl (fun hb1 => ?_) (fun hb1 => ?_)
 ·replace hr := inv_posB hb1 hr
  refine T.seq (T.region (T.asg rfl rfl rfl rfl (T.nil (T.then_normal (T.ret (T.then_ret ?_))))))
  obtain rfl := inv_some hr
  refine T.pick [] 2 rfl rfl nla rfl ?_
  refine T.ret1 rfl rfl (fun w hS => ⟨(), rfl, hS⟩)
 ·replace hr := inv_negB hb1 hr
  refine T.skip (T.then_normal ?_)
  refine T.seqJ (fun (s1 : Unit) (x1 : Unit) => []) (fun s1 x1 => hs) (fun s1 => slices_Equal_api_Column_api_Column_.k1 s1 = some r) (fun s1 x1 hk1 => ?_) (fun J1 => ?_)
  ·unfold slices_Equal_api_Column_api_Column_.k1 at hk1
   refine T.seq (T.region (T.asg rfl rfl rfl rfl (T.nil (T.then_normal (T.ret ?_)))))
   obtain rfl := inv_some hk1
   refine T.pick [] 0 rfl rfl nla rfl ?_
   refine T.ret1 rfl rfl (fun w hS => ⟨(), rfl, hS⟩)
  ·refine T.seq (T.region (T.mv rfl rfl rfl rfl (T.lenSlice .list rfl w0 rfl rfl (T.mv rfl rfl rfl rfl (T.nil (T.then_normal (T.block ?_)))))))
   obtain ⟨e1, hl1, hr⟩ := inv_bind hr
   refine T.le (EnvLe.cons rfl (EnvLe.cons rfl (EnvLe.cons rfl (EnvLe.cons rfl EnvLe.nil)))) (T.pick [1, 0] 2 rfl rfl nla rfl (T.loop (s0 := 0) (env := fun s2 x2 => [(0, .slice A0 l0.length c0), (1, .slice A1 l1.length c1), (12, .int .i64 ((l0.length : Int))), (13, .int .i64 s2)]) (hs := fun (s2 : Int) (x2 : Unit) => Ro (Elt.pair EStr (Elt.pair E64 E64)) A0 c0 l0 :: Ro (Elt.pair EStr (Elt.pair E64 E64)) A1 c1 l1 :: hs) hl1 () (fun K1 s2 x2 o1 he1 hm1 hx1 => ?_)))
   unfold slices_Equal_api_Column_api_Column_.st1 at he1
   refine T.seq (T.region (T.bin .list rfl w0 rfl rfl rfl rfl (T.nil (T.then_normal (T.seq ?_)))))
   refine T.cond rfl (fun hb2 => ?_) (fun hb2 => ?_)
   ·replace he1 := inv_posB hb2 he1
    refine T.skip (T.then_normal (T.seq (T.block (T.seq (T.region (T.mv rfl rfl rfl rfl (T.asg rfl rfl rfl rfl (T.nil (T.then_normal (T.seq (T.plan [(0, 0), (1, 0), (2, 0), (4, 0), (5, 0), (6, 0), (3, 1), (7, 1), (8, 0)] mixed (by kernel_rfl) (by kernel_rfl) rfl (fun d _ _ _ _ h => by cases d <;> exact h) ?_)))))))))))
    refine T.move (.plan rfl) rfl w0 rfl rfl (T.move (.plan rfl) rfl w0 rfl rfl ?_)
    obtain ⟨hc1, he1⟩ := inv_chk he1
    refine T.idxRo (.plan rfl) 0 rfl rfl w0 rfl rfl rfl hc1.1 hc1.2 (Nat.le_refl _) (T.move (.plan rfl) rfl w0 rfl rfl (T.move (.plan rfl) rfl w0 rfl rfl ?_))
    obtain ⟨hc2, he1⟩ := inv_chk he1
    refine T.idxRo (.plan rfl) 1 rfl rfl w0 rfl rfl rfl hc2.1 hc2.2 (Nat.le_refl _) ?_
    refine T.ldFRo 0 (.plan rfl) Fd.self (Sh.pair Sh.sc (Sh.pair Sh.sc Sh.sc)) rfl (.inl rfl) rfl rfl hc1.1 hc1.2 rfl w0 rfl rfl rfl (v := fun x3 => .agg #[str (((((l0).getD (s2 : Int).toNat default)).1)), .int .i64 (((((l0).getD (s2 : Int).toNat default)).2.1)), .int .i64 (((((l0).getD (s2 : Int).toNat default)).2.2))]) (hs' := fun x3 => Ro (Elt.pair EStr (Elt.pair E64 E64)) A0 c0 l0 :: Ro (Elt.pair EStr (Elt.pair E64 E64)) A1 c1 l1 :: hs) (fun _ => rfl) (fun _ => rfl) (fun x3 => ?_)
    refine T.ldFRo 1 (.plan rfl) Fd.self (Sh.pair Sh.sc (Sh.pair Sh.sc Sh.sc)) rfl (.inl rfl) rfl rfl hc2.1 hc2.2 rfl w0 rfl rfl rfl (v := fun x4 => .agg #[str (((((l1).getD (s2 : Int).toNat default)).1)), .int .i64 (((((l1).getD (s2 : Int).toNat default)).2.1)), .int .i64 (((((l1).getD (s2 : Int).toNat default)).2.2))]) (hs' := fun x4 => Ro (Elt.pair EStr (Elt.pair E64 E64)) A0 c0 l0 :: Ro (Elt.pair EStr (Elt.pair E64 E64)) A1 c1 l1 :: hs) (fun _ => rfl) (fun _ => rfl) (fun x4 => ?_)
    refine T.neS (.plan rfl) rfl w0 rfl rfl rfl (by kernel_rfl) (by kernel_rfl) (by kernel_rfl) (l := [(9, 0), (3, 1), (3, 2)]) (by kernel_rfl) (.str rfl rfl (.int rfl rfl (.int rfl rfl .nil))) (b' := (decide (((l0).getD (s2 : Int).toNat default) = ((l1).getD (s2 : Int).toNat default)))) (by rw [Bool.eq_iff_iff]; simp [Prod.ext_iff]) (T.planEnd (T.then_normal ?_))
    refine T.cond rfl (fun hb3 => ?_) (fun hb3 => ?_)
    ·replace he1 := inv_posB hb3 he1
     refine T.seq (T.region (T.asg rfl rfl rfl rfl (T.nil (T.then_normal (T.ret (T.in_ret (T.then_ret (T.then_ret ?_))))))))
     obtain rfl := inv_some he1
     obtain rfl := hx1 _ rfl
     refine T.in_ret (T.then_ret ?_)
     obtain rfl := inv_some hr
     refine T.pick [] 2 rfl rfl nla rfl ?_
     refine T.ret1 rfl rfl (fun w hS => ⟨(), rfl, hS⟩)
    ·replace he1 := inv_negB hb3 he1
     refine T.skip (T.in_normal (T.then_normal (T.region (T.bin .list rfl w0 rfl rfl rfl rfl (T.mv rfl rfl rfl rfl (T.nil (T.then_normal ?_)))))))
     obtain rfl := inv_some he1
     exact T.le (EnvLe.cons rfl (EnvLe.cons rfl (EnvLe.cons rfl (EnvLe.cons rfl EnvLe.nil)))) (T.pick [0, 1] 2 rfl rfl nla rfl (hm1 (IntKind.i64.wrap (s2 + 1)) rfl ()))
   ·replace he1 := inv_negB hb2 he1
    refine T.exit (T.then_exit (T.then_exit ?_))
    obtain rfl := inv_some he1
    obtain rfl := hx1 _ rfl
    refine T.in_hit (T.then_normal ?_)
    exact T.le EnvLe.nil (T.pick [] 2 rfl rfl nla rfl (J1 () () hr))

noncomputable def slices_Equal_api_Index_api_Index_.k1 (s1 : Unit) : Option Bool :=
  some true
noncomputable def slices_Equal_api_Index_api_Index_.st1 (l0 : List (Int × Bool)) (l1 : List (Int × Bool)) (s2 : Int) : Option (Int ⊕ (Bool ⊕ Unit)) :=
  (if ((decide (s2 < ((l0.length : Int))))) = true then chk (0 ≤ s2 ∧ s2 < (l0.length : Int)) (chk (0 ≤ s2 ∧ s2 < (l1.length : Int)) ((if ((!(decide (((l0).getD (s2 : Int).toNat default) = ((l1).getD (s2 : Int).toNat default))))) = true then some (.inr (.inl false)) else some (.inl (IntKind.i64.wrap (s2 + 1)))))) else some (.inr (.inr ())))
noncomputable def slices_Equal_api_Index_api_Index_.impl (l0 : List (Int × Bool)) (l1 : List (Int × Bool)) : Option Bool :=
  (if ((!(decide ((((l0.length : Int))) = ((l1.length : Int)))))) = true then some false else (loop (slices_Equal_api_Index_api_Index_.st1 l0 l1) 0).bind (fun e1 => match e1 with | .inl v => some v | .inr v => slices_Equal_api_Index_api_Index_.k1 v))
set_option maxRecDepth 100000 in
set_option maxHeartbeats 4000000 in
theorem slices_Equal_api_Index_api_Index_.c {B : World} {hs : List MP} {w : World} {i0 c0 : Nat} {A0 : Option Addr} {l0 : List (Int × Bool)} {i1 c1 : Nat} {A1 : Option Addr} {l1 : List (Int × Bool)} (hB : Base B) (hS : St B hs w) (h0 : (hs)[i0]? = some (Ro (Elt.pair E64 EBool) A0 c0 l0)) (h1 : (hs)[i1]? = some (Ro (Elt.pair E64 EBool) A1 c1 l1)) {r : Bool} (hr : slices_Equal_api_Index_api_Index_.impl l0 l1 = some r) :
    Calls Tryd.prog 79 #[.slice A0 l0.length c0, .slice A1 l1.length c1] w fun e w' => ∃ x : Unit, e = .returned (.bool r) ∧ St B hs w' := by
 unfold slices_Equal_api_Index_api_Index_.impl at hr
 refine calls_T Tryd.func79 rfl rfl rfl hS ?_
 refine T.front i0 h0 (T.front (i1 + 1) h1 (T.seq (T.region (T.asg rfl rfl rfl rfl (T.nil (T.then_normal (T.seq (T.seq (T.region (T.mv rfl rfl rfl rfl (T.lenSlice .list rfl w0 rfl rfl ?_)))))))))))
 refine T.mv rfl rfl rfl rfl (T.lenSlice .list rfl w0 rfl rfl (T.bin .list rfl w0 rfl rfl rfl rfl (T.nil (T.then_normal ?_))))
 refine T.cond rfl (fun hb1 => ?_) (fun hb1 => ?_)
 ·replace hr := inv_posB hb1 hr
  refine T.seq (T.region (T.asg rfl rfl rfl rfl (T.nil (T.then_normal (T.ret (T.then_ret ?_))))))
  obtain rfl := inv_some hr
  refine T.pick [] 2 rfl rfl nla rfl ?_
  refine T.ret1 rfl rfl (fun w hS => ⟨(), rfl, hS⟩)
 ·replace hr := inv_negB hb1 hr
  refine T.skip (T.then_normal ?_)
  refine T.seqJ (fun (s1 : Unit) (x1 : Unit) => []) (fun s1 x1 => hs) (fun s1 => slices_Equal_api_Index_api_Index_.k1 s1 = some r) (fun s1 x1 hk1 => ?_) (fun J1 => ?_)
  ·unfold slices_Equal_api_Index_api_Index_.k1 at hk1
   refine T.seq (T.region (T.asg rfl rfl rfl rfl (T.nil (T.then_normal (T.ret ?_)))))
   obtain rfl := inv_some hk1
   refine T.pick [] 0 rfl rfl nla rfl ?_
   refine T.ret1 rfl rfl (fun w hS => ⟨(), rfl, hS⟩)
  ·refine T.seq (T.region (T.mv rfl rfl rfl rfl (T.lenSlice .list rfl w0 rfl rfl (T.mv rfl rfl rfl rfl (T.nil (T.then_normal (T.block ?_)))))))
   obtain ⟨e1, hl1, hr⟩ := inv_bind hr
   refine T.le (EnvLe.cons rfl (EnvLe.cons rfl (EnvLe.cons rfl (EnvLe.cons rfl EnvLe.nil)))) (T.pick [1, 0] 2 rfl rfl nla rfl (T.loop (s0 := 0) (env := fun s2 x2 => [(0, .slice A0 l0.length c0), (1, .slice A1 l1.length c1), (12, .int .i64 ((l0.length : Int))), (13, .int .i64 s2)]) (hs := fun (s2 : Int) (x2 : Unit) => Ro (Elt.pair E64 EBool) A0 c0 l0 :: Ro (Elt.pair E64 EBool) A1 c1 l1 :: hs) hl1 () (fun K1 s2 x2 o1 he1 hm1 hx1 => ?_)))
   unfold slices_Equal_api_Index_api_Index_.st1 at he1
   refine T.seq (T.region (T.bin .list rfl w0 rfl rfl rfl rfl (T.nil (T.then_normal (T.seq ?_)))))
   refine T.cond rfl (fun hb2 => ?_) (fun hb2 => ?_)
   ·replace he1 := inv_posB hb2 he1
    refine T.skip (T.then_normal (T.seq (T.block (T.seq (T.region (T.mv rfl rfl rfl rfl (T.asg rfl rfl rfl rfl (T.nil (T.then_normal (T.seq (T.plan [(0, 0), (1, 0), (2, 0), (4, 0), (5, 0), (6, 0), (3, 1), (7, 1), (8, 0)] mixed (by kernel_rfl) (by kernel_rfl) rfl (fun d _ _ _ _ h => by cases d <;> exact h) ?_)))))))))))
    refine T.move (.plan rfl) rfl w0 rfl rfl (T.move (.plan rfl) rfl w0 rfl rfl ?_)
    obtain ⟨hc1, he1⟩ := inv_chk he1
    refine T.idxRo (.plan rfl) 0 rfl rfl w0 rfl rfl rfl hc1.1 hc1.2 (Nat.le_refl _) (T.move (.plan rfl) rfl w0 rfl rfl (T.move (.plan rfl) rfl w0 rfl rfl ?_))
    obtain ⟨hc2, he1⟩ := inv_chk he1
    refine T.idxRo (.plan rfl) 1 rfl rfl w0 rfl rfl rfl hc2.1 hc2.2 (Nat.le_refl _) ?_
    refine T.ldFRo 0 (.plan rfl) Fd.self (Sh.pair Sh.sc Sh.sc) rfl (.inl rfl) rfl rfl hc1.1 hc1.2 rfl w0 rfl rfl rfl (v := fun x3 => .agg #[.int .i64 (((((l0).getD (s2 : Int).toNat default)).1)), .bool (((((l0).getD (s2 : Int).toNat default)).2))]) (hs' := fun x3 => Ro (Elt.pair E64 EBool) A0 c0 l0 :: Ro (Elt.pair E64 EBool) A1 c1 l1 :: hs) (fun _ => rfl) (fun _ => rfl) (fun x3 => ?_)
    refine T.ldFRo 1 (.plan rfl) Fd.self (Sh.pair Sh.sc Sh.sc) rfl (.inl rfl) rfl rfl hc2.1 hc2.2 rfl w0 rfl rfl rfl (v := fun x4 => .agg #[.int .i64 (((((l1).getD (s2 : Int).toNat default)).1)), .bool (((((l1).getD (s2 : Int).toNat default)).2))]) (hs' := fun x4 => Ro (Elt.pair E64 EBool) A0 c0 l0 :: Ro (Elt.pair E64 EBool) A1 c1 l1 :: hs) (fun _ => rfl) (fun _ => rfl) (fun x4 => ?_)
    refine T.neS (.plan rfl) rfl w0 rfl rfl rfl (by kernel_rfl) (by kernel_rfl) (by kernel_rfl) (l := [(3, 0), (4, 1)]) (by kernel_rfl) (.int rfl rfl (.bool (by kernel_rfl) rfl rfl .nil)) (b' := (decide (((l0).getD (s2 : Int).toNat default) = ((l1).getD (s2 : Int).toNat default)))) (by rw [Bool.eq_iff_iff]; simp [Prod.ext_iff]) (T.planEnd (T.then_normal ?_))
    refine T.cond rfl (fun hb3 => ?_) (fun hb3 => ?_)
    ·replace he1 := inv_posB hb3 he1
     refine T.seq (T.region (T.asg rfl rfl rfl rfl (T.nil (T.then_normal (T.ret (T.in_ret (T.then_ret (T.then_ret ?_))))))))
     obtain rfl := inv_some he1
     obtain rfl := hx1 _ rfl
     refine T.in_ret (T.then_ret ?_)
     obtain rfl := inv_some hr
     refine T.pick [] 2 rfl rfl nla rfl ?_
     refine T.ret1 rfl rfl (fun w hS => ⟨(), rfl, hS⟩)
    ·replace he1 := inv_negB hb3 he1
     refine T.skip (T.in_normal (T.then_normal (T.region (T.bin .list rfl w0 rfl rfl rfl rfl (T.mv rfl rfl rfl rfl (T.nil (T.then_normal ?_)))))))
     obtain rfl := inv_some he1
     exact T.le (EnvLe.cons rfl (EnvLe.cons rfl (EnvLe.cons rfl (EnvLe.cons rfl EnvLe.nil)))) (T.pick [0, 1] 2 rfl rfl nla rfl (hm1 (IntKind.i64.wrap (s2 + 1)) rfl ()))
   ·replace he1 := inv_negB hb2 he1
    refine T.exit (T.then_exit (T.then_exit ?_))
    obtain rfl := inv_some he1
    obtain rfl := hx1 _ rfl
    refine T.in_hit (T.then_normal ?_)
    exact T.le EnvLe.nil (T.pick [] 2 rfl rfl nla rfl (J1 () () hr))

noncomputable def slices_Equal_api_Value_api_Value_.k1 (s1 : Unit) : Option Bool :=
  some true
noncomputable def slices_Equal_api_Value_api_Value_.st1 (l0 : List (Int × Int × (List UInt8))) (l1 : List (Int × Int × (List UInt8))) (s2 : Int) : Option (Int ⊕ (Bool ⊕ Unit)) :=
  (if ((decide (s2 < ((l0.length : Int))))) = true then chk (0 ≤ s2 ∧ s2 < (l0.length : Int)) (chk (0 ≤ s2 ∧ s2 < (l1.length : Int)) ((if ((!(decide (((l0).getD (s2 : Int).toNat default) = ((l1).getD (s2 : Int).toNat default))))) = true then some (.inr (.inl false)) else some (.inl (IntKind.i64.wrap (s2 + 1)))))) else some (.inr (.inr ())))
noncomputable def slices_Equal_api_Value_api_Value_.impl (l0 : List (Int × Int × (List UInt8))) (l1 : List (Int × Int × (List UInt8))) : Option Bool :=
  (if ((!(decide ((((l0.length : Int))) = ((l1.length : Int)))))) = true then some false else (loop (slices_Equal_api_Value_api_Value_.st1 l0 l1) 0).bind (fun e1 => match e1 with | .inl v => some v | .inr v => slices_Equal_api_Value_api_Value_.k1 v))
set_option maxRecDepth 100000 in
set_option maxHeartbeats 4000000 in
theorem slices_Equal_api_Value_api_Value_.c {B : World} {hs : List MP} {w : World} {i0 c0 : Nat} {A0 : Option Addr} {l0 : List (Int × Int × (List UInt8))} {i1 c1 : Nat} {A1 : Option Addr} {l1 : List (Int × Int × (List UInt8))} (hB : Base B) (hS : St B hs w) (h0 : (hs)[i0]? = some (Ro (Elt.pair E64 (Elt.pair E64 EStr)) A0 c0 l0)) (h1 : (hs)[i1]? = some (Ro (Elt.pair E64 (Elt.pair E64 EStr)) A1 c1 l1)) {r : Bool} (hr : slices_Equal_api_Value_api_Value_.impl l0 l1 = some r) :
    Calls Tryd.prog 80 #[.slice A0 l0.length c0, .slice A1 l1.length c1] w fun e w' => ∃ x : Unit, e = .returned (.bool r) ∧ St B hs w' := by
 unfold slices_Equal_api_Value_api_Value_.impl at hr
 refine calls_T Tryd.func80 rfl rfl rfl hS ?_
 refine T.front i0 h0 (T.front (i1 + 1) h1 (T.seq (T.region (T.asg rfl rfl rfl rfl (T.nil (T.then_normal (T.seq (T.seq (T.region (T.mv rfl rfl rfl rfl (T.lenSlice .list rfl w0 rfl rfl ?_)))))))))))
 refine T.mv rfl rfl rfl rfl (T.lenSlice .list rfl w0 rfl rfl (T.bin .list rfl w0 rfl rfl rfl rfl (T.nil (T.then_normal ?_))))
 refine T.cond rfl (fun hb1 => ?_) (fun hb1 => ?_)
 ·replace hr := inv_posB hb1 hr
  refine T.seq (T.region (T.asg rfl rfl rfl rfl (T.nil (T.then_normal (T.ret (T.then_ret ?_))))))
  obtain rfl := inv_some hr
  refine T.pick [] 2 rfl rfl nla rfl ?_
  refine T.ret1 rfl rfl (fun w hS => ⟨(), rfl, hS⟩)
 ·replace hr := inv_negB hb1 hr
  refine T.skip (T.then_normal ?_)
  refine T.seqJ (fun (s1 : Unit) (x1 : Unit) => []) (fun s1 x1 => hs) (fun s1 => slices_Equal_api_Value_api_Value_.k1 s1 = some r) (fun s1 x1 hk1 => ?_) (fun J1 => ?_)
  ·unfold slices_Equal_api_Value_api_Value_.k1 at hk1
   refine T.seq (T.region (T.asg rfl rfl rfl rfl (T.nil (T.then_normal (T.ret ?_)))))
   obtain rfl := inv_some hk1
   refine T.pick [] 0 rfl rfl nla rfl ?_
   refine T.ret1 rfl rfl (fun w hS => ⟨(), rfl, hS⟩)
  ·refine T.seq (T.region (T.mv rfl rfl rfl rfl (T.lenSlice .list rfl w0 rfl rfl (T.mv rfl rfl rfl rfl (T.nil (T.then_normal (T.block ?_)))))))
   obtain ⟨e1, hl1, hr⟩ := inv_bind hr
   refine T.le (EnvLe.cons rfl (EnvLe.cons rfl (EnvLe.cons rfl (EnvLe.cons rfl EnvLe.nil)))) (T.pick [1, 0] 2 rfl rfl nla rfl (T.loop (s0 := 0) (env := fun s2 x2 => [(0, .slice A0 l0.length c0), (1, .slice A1 l1.length c1), (12, .int .i64 ((l0.length : Int))), (13, .int .i64 s2)]) (hs := fun (s2 : Int) (x2 : Unit) => Ro (Elt.pair E64 (Elt.pair E64 EStr)) A0 c0 l0 :: Ro (Elt.pair E64 (Elt.pair E64 EStr)) A1 c1 l1 :: hs) hl1 () (fun K1 s2 x2 o1 he1 hm1 hx1 => ?_)))
   unfold slices_Equal_api_Value_api_Value_.st1 at he1
   refine T.seq (T.region (T.bin .list rfl w0 rfl rfl rfl rfl (T.nil (T.then_normal (T.seq ?_)))))
   refine T.cond rfl (fun hb2 => ?_) (fun hb2 => ?_)
   ·replace he1 := inv_posB hb2 he1
    refine T.skip (T.then_normal (T.seq (T.block (T.seq (T.region (T.mv rfl rfl rfl rfl (T.asg rfl rfl rfl rfl (T.nil (T.then_normal (T.seq (T.plan [(0, 0), (1, 0), (2, 0), (4, 0), (5, 0), (6, 0), (3, 1), (7, 1), (8, 0)] mixed (by kernel_rfl) (by kernel_rfl) rfl (fun d _ _ _ _ h => by cases d <;> exact h) ?_)))))))))))
    refine T.move (.plan rfl) rfl w0 rfl rfl (T.move (.plan rfl) rfl w0 rfl rfl ?_)
    obtain ⟨hc1, he1⟩ := inv_chk he1
    refine T.idxRo (.plan rfl) 0 rfl rfl w0 rfl rfl rfl hc1.1 hc1.2 (Nat.le_refl _) (T.move (.plan rfl) rfl w0 rfl rfl (T.move (.plan rfl) rfl w0 rfl rfl ?_))
    obtain ⟨hc2, he1⟩ := inv_chk he1
    refine T.idxRo (.plan rfl) 1 rfl rfl w0 rfl rfl rfl hc2.1 hc2.2 (Nat.le_refl _) ?_
    refine T.ldFRo 0 (.plan rfl) Fd.self (Sh.pair Sh.sc (Sh.pair Sh.sc Sh.sc)) rfl (.inl rfl) rfl rfl hc1.1 hc1.2 rfl w0 rfl rfl rfl (v := fun x3 => .agg #[.int .i64 (((((l0).getD (s2 : Int).toNat default)).1)), .int .i64 (((((l0).getD (s2 : Int).toNat default)).2.1)), str (((((l0).getD (s2 : Int).toNat default)).2.2))]) (hs' := fun x3 => Ro (Elt.pair E64 (Elt.pair E64 EStr)) A0 c0 l0 :: Ro (Elt.pair E64 (Elt.pair E64 EStr)) A1 c1 l1 :: hs) (fun _ => rfl) (fun _ => rfl) (fun x3 => ?_)
    refine T.ldFRo 1 (.plan rfl) Fd.self (Sh.pair Sh.sc (Sh.pair Sh.sc Sh.sc)) rfl (.inl rfl) rfl rfl hc2.1 hc2.2 rfl w0 rfl rfl rfl (v := fun x4 => .agg #[.int .i64 (((((l1).getD (s2 : Int).toNat default)).1)), .int .i64 (((((l1).getD (s2 : Int).toNat default)).2.1)), str (((((l1).getD (s2 : Int).toNat default)).2.2))]) (hs' := fun x4 => Ro (Elt.pair E64 (Elt.pair E64 EStr)) A0 c0 l0 :: Ro (Elt.pair E64 (Elt.pair E64 EStr)) A1 c1 l1 :: hs) (fun _ => rfl) (fun _ => rfl) (fun x4 => ?_)
    refine T.neS (.plan rfl) rfl w0 rfl rfl rfl (by kernel_rfl) (by kernel_rfl) (by kernel_rfl) (l := [(3, 0), (3, 1), (9, 2)]) (by kernel_rfl) (.int rfl rfl (.int rfl rfl (.str rfl rfl .nil))) (b' := (decide (((l0).getD (s2 : Int).toNat default) = ((l1).getD (s2 : Int).toNat default)))) (by rw [Bool.eq_iff_iff]; simp [Prod.ext_iff]) (T.planEnd (T.then_normal ?_))
    refine T.cond rfl (fun hb3 => ?_) (fun hb3 => ?_)
    ·replace he1 := inv_posB hb3 he1
     refine T.seq (T.region (T.asg rfl rfl rfl rfl (T.nil (T.then_normal (T.ret (T.in_ret (T.then_ret (T.then_ret ?_))))))))
     obtain rfl := inv_some he1
     obtain rfl := hx1 _ rfl
     refine T.in_ret (T.then_ret ?_)
     obtain rfl := inv_some hr
     refine T.pick [] 2 rfl rfl nla rfl ?_
     refine T.ret1 rfl rfl (fun w hS => ⟨(), rfl, hS⟩)
    ·replace he1 := inv_negB hb3 he1
     refine T.skip (T.in_normal (T.then_normal (T.region (T.bin .list rfl w0 rfl rfl rfl rfl (T.mv rfl rfl rfl rfl (T.nil (T.then_normal ?_)))))))
     obtain rfl := inv_some he1
     exact T.le (EnvLe.cons rfl (EnvLe.cons rfl (EnvLe.cons rfl (EnvLe.cons rfl EnvLe.nil)))) (T.pick [0, 1] 2 rfl rfl nla rfl (hm1 (IntKind.i64.wrap (s2 + 1)) rfl ()))
   ·replace he1 := inv_negB hb2 he1
    refine T.exit (T.then_exit (T.then_exit ?_))
    obtain rfl := inv_some he1
    obtain rfl := hx1 _ rfl
    refine T.in_hit (T.then_normal ?_)
    exact T.le EnvLe.nil (T.pick [] 2 rfl rfl nla rfl (J1 () () hr))

noncomputable def schema_Same.impl (a0 : (List UInt8) × (List ((List UInt8) × Int × Int)) × (List (Int × Bool))) (a1 : (List UInt8) × (List ((List UInt8) × Int × Int)) × (List (Int × Bool))) : Option Bool :=
  (if ((decide (a0.1 = a1.1))) = true then (slices_Equal_api_Column_api_Column_.impl a0.2.1 a1.2.1).bind fun r1 => (if r1 = true then (slices_Equal_api_Index_api_Index_.impl a0.2.2 a1.2.2).bind fun r2 => some r2 else some false) else some false)
set_option maxRecDepth 100000 in
set_option maxHeartbeats 4000000 in
theorem schema_Same.c {B : World} {hs : List MP} {w : World} {a0 : (List UInt8) × (List ((List UInt8) × Int × Int)) × (List (Int × Bool))} {i0a c0a : Nat} {A0a : Option Addr} {i0b c0b : Nat} {A0b : Option Addr} {a1 : (List UInt8) × (List ((List UInt8) × Int × Int)) × (List (Int × Bool))} {i1a c1a : Nat} {A1a : Option Addr} {i1b c1b : Nat} {A1b : Option Addr} (hB : Base B) (hS : St B hs w) (h0a : (hs)[i0a]? = some (Ro (Elt.pair EStr (Elt.pair E64 E64)) A0a c0a a0.2.1)) (h0b : (hs)[i0b]? = some (Ro (Elt.pair E64 EBool) A0b c0b a0.2.2)) (h1a : (hs)[i1a]? = some (Ro (Elt.pair EStr (Elt.pair E64 E64)) A1a c1a a1.2.1)) (h1b : (hs)[i1b]? = some (Ro (Elt.pair E64 EBool) A1b c1b a1.2.2)) {r : Bool} (hr : schema_Same.impl a0 a1 = some r) :
    Calls Tryd.prog 57 #[.agg #[str a0.1, .slice A0a a0.2.1.length c0a, .slice A0b a0.2.2.length c0b], .agg #[str a1.1, .slice A1a a1.2.1.length c1a, .slice A1b a1.2.2.length c1b]] w fun e w' => ∃ x : Unit, e = .returned (.bool r) ∧ St B hs w' := by
 unfold schema_Same.impl at hr
 refine calls_T Tryd.func57 rfl rfl rfl hS ?_
 refine T.front i0a h0a (T.front (i0b + 1) h0b (T.front (i1a + 2) h1a (T.front (i1b + 3) h1b (T.seq (T.region ?_)))))
 refine T.boxS .list rfl w0 rfl rfl (cs := [str a0.1, .slice A0a a0.2.1.length c0a, .slice A0b a0.2.2.length c0b]) rfl (fun b1 => ?_)
 refine T.boxS .list rfl w0 rfl rfl (cs := [str a1.1, .slice A1a a1.2.1.length c1a, .slice A1b a1.2.2.length c1b]) rfl (fun b2 => ?_)
 refine T.asg rfl rfl rfl rfl (T.nil (T.then_normal (T.seq (T.region (T.field .list rfl w0 rfl rfl (T.load .list 1 rfl rfl w0 rfl rfl rfl (T.field .list rfl w0 rfl rfl (T.load .list 0 rfl rfl w0 rfl rfl rfl (T.strEq .list rfl w0 rfl (l := a0.1) (l' := a1.1) rfl rfl (T.mv rfl rfl rfl rfl ?_))))))))))
 refine T.bool (b := (decide (a0.1 = a1.1))) (fun hb1 => ?_) (fun hb1 => ?_)
 ·replace hr := inv_posB hb1 hr
  refine T.field .list rfl (wants1 rfl rfl rfl hb1) rfl rfl (T.load .list 1 rfl rfl (wants1 rfl rfl rfl hb1) rfl rfl rfl (T.field .list rfl (wants1 rfl rfl rfl hb1) rfl rfl (T.load .list 0 rfl rfl (wants1 rfl rfl rfl hb1) rfl rfl rfl ?_)))
  obtain ⟨r1, hg1, hr⟩ := inv_bind hr
  refine T.call .list (wants1 rfl rfl rfl hb1) rfl (run_callF (vs := [_, _]) rfl Tryd.func78 rfl (by decide) rfl) (fun w hS => slices_Equal_api_Column_api_Column_.c hB hS (i0 := 5) (i1 := 3) rfl rfl hg1) (fun x1 => ?_)
  refine T.pickT .list rfl w0 rfl rfl hb1 rfl (T.mv rfl rfl rfl rfl ?_)
  refine T.bool (b := r1) (fun hb2 => ?_) (fun hb2 => ?_)
  ·replace hr := inv_posB hb2 hr
   refine T.field .list rfl (wants1 rfl rfl rfl hb2) rfl rfl (T.load .list 1 rfl rfl (wants1 rfl rfl rfl hb2) rfl rfl rfl (T.field .list rfl (wants1 rfl rfl rfl hb2) rfl rfl (T.load .list 0 rfl rfl (wants1 rfl rfl rfl hb2) rfl rfl rfl ?_)))
   obtain ⟨r2, hg2, hr⟩ := inv_bind hr
   refine T.call .list (wants1 rfl rfl rfl hb2) rfl (run_callF (vs := [_, _]) rfl Tryd.func79 rfl (by decide) rfl) (fun w hS => slices_Equal_api_Index_api_Index_.c hB hS (i0 := 4) (i1 := 2) rfl rfl hg2) (fun x2 => ?_)
   refine T.pickT .list rfl w0 rfl rfl hb2 rfl (T.asg rfl rfl rfl rfl (T.nil (T.then_normal (T.ret ?_))))
   obtain rfl := inv_some hr
   refine T.pick [] 6 rfl rfl nla rfl ?_
   refine T.ret1 rfl rfl (fun w hS => ⟨(), rfl, hS⟩)
  ·replace hr := inv_negB hb2 hr
   refine T.lv rfl rfl rfl hb2 rfl (T.lv rfl rfl rfl hb2 rfl (T.lv rfl rfl rfl hb2 rfl (T.lv rfl rfl rfl hb2 rfl (T.lv rfl rfl rfl hb2 rfl (T.pickF .list rfl w0 rfl rfl hb2 rfl (T.asg rfl rfl rfl rfl (T.nil (T.then_normal (T.ret ?_)))))))))
   obtain rfl := inv_some hr
   refine T.pick [] 6 rfl rfl nla rfl ?_
   refine T.ret1 rfl rfl (fun w hS => ⟨(), rfl, hS⟩)
 ·replace hr := inv_negB hb1 hr
  refine T.lv rfl rfl rfl hb1 rfl (T.lv rfl rfl rfl hb1 rfl (T.lv rfl rfl rfl hb1 rfl (T.lv rfl rfl rfl hb1 rfl (T.lv rfl rfl rfl hb1 rfl (T.pickF .list rfl w0 rfl rfl hb1 rfl (T.mv rfl rfl rfl rfl (T.lv rfl rfl rfl rfl rfl (T.lv rfl rfl rfl rfl rfl (T.lv rfl rfl rfl rfl rfl (T.lv rfl rfl rfl rfl rfl (T.lv rfl rfl rfl rfl rfl ?_)))))))))))
  refine T.pickF .list rfl w0 rfl rfl rfl rfl (T.asg rfl rfl rfl rfl (T.nil (T.then_normal (T.ret ?_))))
  obtain rfl := inv_some hr
  refine T.pick [] 6 rfl rfl nla rfl ?_
  refine T.ret1 rfl rfl (fun w hS => ⟨(), rfl, hS⟩)

noncomputable def schema_SameRow.impl (l0 : List (Int × Int × (List UInt8))) (l1 : List (Int × Int × (List UInt8))) : Option Bool :=
  (slices_Equal_api_Value_api_Value_.impl l0 l1).bind fun r1 => some r1
set_option maxRecDepth 100000 in
set_option maxHeartbeats 4000000 in
theorem schema_SameRow.c {B : World} {hs : List MP} {w : World} {i0 c0 : Nat} {A0 : Option Addr} {l0 : List (Int × Int × (List UInt8))} {i1 c1 : Nat} {A1 : Option Addr} {l1 : List (Int × Int × (List UInt8))} (hB : Base B) (hS : St B hs w) (h0 : (hs)[i0]? = some (Ro (Elt.pair E64 (Elt.pair E64 EStr)) A0 c0 l0)) (h1 : (hs)[i1]? = some (Ro (Elt.pair E64 (Elt.pair E64 EStr)) A1 c1 l1)) {r : Bool} (hr : schema_SameRow.impl l0 l1 = some r) :
    Calls Tryd.prog 58 #[.slice A0 l0.length c0, .slice A1 l1.length c1] w fun e w' => ∃ x : Unit, e = .returned (.bool r) ∧ St B hs w' := by
 unfold schema_SameRow.impl at hr
 refine calls_T Tryd.func58 rfl rfl rfl hS ?_
 refine T.front i0 h0 (T.front (i1 + 1) h1 (T.seq (T.region (T.asg rfl rfl rfl rfl (T.nil (T.then_normal (T.seq (T.region (T.mv rfl rfl rfl rfl (T.mv rfl rfl rfl rfl ?_))))))))))
 obtain ⟨r1, hg1, hr⟩ := inv_bind hr
 refine T.call .list w0 rfl (run_callF (vs := [_, _]) rfl Tryd.func80 rfl (by decide) rfl) (fun w hS => slices_Equal_api_Value_api_Value_.c hB hS (i0 := 1) (i1 := 0) rfl rfl hg1) (fun x1 => ?_)
 refine T.asg rfl rfl rfl rfl (T.nil (T.then_normal (T.ret ?_)))
 obtain rfl := inv_some hr
 refine T.pick [] 2 rfl rfl nla rfl ?_
 refine T.ret1 rfl rfl (fun w hS => ⟨(), rfl, hS⟩)
end Go.Proofs.YtpogdeibkghhaaaDoor
