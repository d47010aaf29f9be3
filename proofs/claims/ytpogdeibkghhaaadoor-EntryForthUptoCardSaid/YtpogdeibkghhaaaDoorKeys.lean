/- Keys: what the functions compute, and that the program computes it; printed by a program of ours. -/
import Derived.Test.YtpogdeibkghhaaaDoorValid
import Derived.Test.YtpogdeibkghhaaaDoorCks
set_option linter.unusedVariables false
set_option linter.unusedSimpArgs false
namespace Go.Proofs.YtpogdeibkghhaaaDoor
open Go.RowKit
abbrev dyT : DyT := ⟨3, 4, 9, 112⟩
noncomputable def keys_inside.impl (a0 : Int × Int × (List UInt8)) : Option Dy :=
  (if ((decide (a0.1 = 3))) = true then some (Dy.bool ((!(decide (a0.2.1 = 0))))) else (if ((decide (a0.1 = 1))) = true then some (Dy.int a0.2.1) else (if ((decide (a0.1 = 2))) = true then some (Dy.str a0.2.2) else some Dy.unit)))
set_option maxRecDepth 100000 in
set_option maxHeartbeats 4000000 in
theorem keys_inside.c {B : World} {hs : List MP} {w : World} {a0 : Int × Int × (List UInt8)} (hB : Base B) (hS : St B hs w) {r : Dy} (hr : keys_inside.impl a0 = some r) :
    Calls Tryd.prog 62 #[.agg #[.int .i64 a0.1, .int .i64 a0.2.1, str a0.2.2]] w fun e w' => ∃ x : Unit, e = .returned (Dy.val dyT r) ∧ St B hs w' := by
 unfold keys_inside.impl at hr
 refine calls_T Tryd.func62 rfl rfl rfl hS ?_
 refine T.seq (T.region ?_)
 refine T.boxS .list rfl w0 rfl rfl (cs := [.int .i64 a0.1, .int .i64 a0.2.1, str a0.2.2]) rfl (fun b1 => ?_)
 refine T.asg rfl rfl rfl rfl (T.nil (T.then_normal (T.seq (T.seq (T.region (T.field .list rfl w0 rfl rfl (T.load .list 0 rfl rfl w0 rfl rfl rfl (T.nil (T.then_normal (T.block (T.seq ?_)))))))))))
 refine T.region (T.bin .list rfl w0 rfl rfl rfl rfl (T.asg rfl rfl rfl rfl (T.nil (T.then_normal ?_))))
 refine T.cond rfl (fun hb1 => ?_) (fun hb1 => ?_)
 ·replace hr := inv_posB hb1 hr
  refine T.seq (T.region (T.field .list rfl w0 rfl rfl (T.load .list 0 rfl rfl w0 rfl rfl rfl (T.bin .list rfl w0 rfl rfl rfl rfl (T.dyBool (Y := dyT) .list (by kernel_rfl) rfl w0 rfl rfl (T.asg rfl rfl rfl rfl (T.nil (T.then_normal (T.ret (T.in_ret (T.then_ret ?_)))))))))))
  obtain rfl := inv_some hr
  refine T.pick [] 1 rfl rfl nla rfl ?_
  refine T.ret1 rfl rfl (fun w hS => ⟨(), rfl, hS⟩)
 ·replace hr := inv_negB hb1 hr
  refine T.seq (T.region (T.bin .list rfl w0 rfl rfl rfl rfl (T.asg rfl rfl rfl rfl (T.nil (T.then_normal ?_)))))
  refine T.cond rfl (fun hb2 => ?_) (fun hb2 => ?_)
  ·replace hr := inv_posB hb2 hr
   refine T.seq (T.region (T.field .list rfl w0 rfl rfl (T.load .list 0 rfl rfl w0 rfl rfl rfl (T.dyInt (Y := dyT) (ht := (inferInstance : INT Tryd.prog 3 .i64)) .list rfl w0 rfl rfl (T.asg rfl rfl rfl rfl (T.nil (T.then_normal (T.ret (T.in_ret (T.then_ret ?_))))))))))
   obtain rfl := inv_some hr
   refine T.pick [] 1 rfl rfl nla rfl ?_
   refine T.ret1 rfl rfl (fun w hS => ⟨(), rfl, hS⟩)
  ·replace hr := inv_negB hb2 hr
   refine T.seq (T.region (T.bin .list rfl w0 rfl rfl rfl rfl (T.asg rfl rfl rfl rfl (T.nil (T.then_normal ?_)))))
   refine T.cond rfl (fun hb3 => ?_) (fun hb3 => ?_)
   ·replace hr := inv_posB hb3 hr
    refine T.seq (T.region (T.field .list rfl w0 rfl rfl (T.load .list 0 rfl rfl w0 rfl rfl rfl (T.dyStr (Y := dyT) (ht := (inferInstance : STR Tryd.prog 9)) .list rfl w0 rfl (l := a0.2.2) rfl (T.asg rfl rfl rfl rfl (T.nil (T.then_normal (T.ret (T.in_ret (T.then_ret ?_))))))))))
    obtain rfl := inv_some hr
    refine T.pick [] 1 rfl rfl nla rfl ?_
    refine T.ret1 rfl rfl (fun w hS => ⟨(), rfl, hS⟩)
   ·replace hr := inv_negB hb3 hr
    refine T.skip (T.in_normal (T.then_normal (T.seq (T.region (T.build .list (vals := []) (cells := #[]) rfl w0 rfl rfl (run_buildStruct (sizes := []) (by kernel_rfl) (by kernel_rfl)) (T.dyUnit (Y := dyT) (fs := #[]) .list (by kernel_rfl) rfl w0 rfl rfl (T.asg rfl rfl rfl rfl (T.nil (T.then_normal (T.ret ?_))))))))))
    obtain rfl := inv_some hr
    refine T.pick [] 1 rfl rfl nla rfl ?_
    refine T.ret1 rfl rfl (fun w hS => ⟨(), rfl, hS⟩)

noncomputable def keys_eight.k1 (s1 : List UInt8) : Option (List UInt8) :=
  some s1
noncomputable def keys_eight.st1 (a0 : Int) (s2 : List UInt8 × Int) : Option ((List UInt8 × Int) ⊕ (List UInt8)) :=
  (if ((decide (s2.2 < (((List.replicate (8 : Int).toNat (0 : UInt8)).length : Int))))) = true then chk (0 ≤ IntKind.i64.wrap (56 - (IntKind.i64.wrap (8 * s2.2)))) (chk (0 ≤ s2.2 ∧ s2.2 < (s2.1.length : Int)) (some (.inl (((s2.1).set (s2.2 : Int).toNat (u8 (IntKind.u8.wrap (shrI .u64 a0 (IntKind.i64.wrap (56 - (IntKind.i64.wrap (8 * s2.2)))))))), IntKind.i64.wrap (s2.2 + 1))))) else some (.inr s2.1))
noncomputable def keys_eight.impl (a0 : Int) : Option (List UInt8) :=
  chk (0 ≤ (8 : Int) ∧ (8 : Int) * 1 ≤ 140737488355328) ((loop (keys_eight.st1 a0) (List.replicate (8 : Int).toNat (0 : UInt8), 0)).bind (fun e1 => keys_eight.k1 e1))
set_option maxRecDepth 100000 in
set_option maxHeartbeats 4000000 in
theorem keys_eight.c {B : World} {hs : List MP} {w : World} {a0 : Int} (hB : Base B) (hS : St B hs w) {r : List UInt8} (hr : keys_eight.impl a0 = some r) :
    Calls Tryd.prog 63 #[.int .u64 a0] w fun e w' => ∃ x : (Option Addr × Nat), e = .returned (.slice x.1 r.length x.2) ∧ St B (Bf E8 5 x.1 x.2 r :: hs) w' := by
 unfold keys_eight.impl at hr
 refine calls_T Tryd.func63 rfl rfl rfl hS ?_
 refine T.seq (T.region (T.asg rfl rfl rfl rfl (T.nil (T.then_normal (T.seq (T.region ?_))))))
 obtain ⟨hc1, hr⟩ := inv_chk hr
 refine T.make .list (enc := b8) (h1' := fun _ => rfl) (z0 := (0 : UInt8)) (by rfl) rfl w0 rfl rfl rfl rfl hc1 (fun b1 => ?_)
 refine T.asg rfl rfl rfl rfl (T.nil (T.then_normal ?_))
 refine T.seqJ (fun (s1 : List UInt8) (x1 : (Option Addr × Nat)) => [(3, .slice x1.1 s1.length x1.2)]) (fun s1 x1 => Bf E8 5 x1.1 x1.2 s1 :: hs) (fun s1 => keys_eight.k1 s1 = some r) (fun s1 x1 hk1 => ?_) (fun J1 => ?_)
 ·unfold keys_eight.k1 at hk1
  refine T.seq (T.region (T.mv rfl rfl rfl rfl (T.asg rfl rfl rfl rfl (T.nil (T.then_normal (T.ret ?_))))))
  obtain rfl := inv_some hk1
  refine T.pick [0] 1 rfl rfl nla rfl ?_
  refine T.ret1 rfl rfl (fun w hS => ⟨x1, rfl, hS⟩)
 ·refine T.seq (T.region (T.mv rfl rfl rfl rfl (T.lenSlice .list rfl w0 rfl rfl (T.mv rfl rfl rfl rfl (T.nil (T.then_normal (T.block ?_)))))))
  obtain ⟨e1, hl1, hr⟩ := inv_bind hr
  refine T.le (EnvLe.cons rfl (EnvLe.cons rfl (EnvLe.cons rfl (EnvLe.cons rfl EnvLe.nil)))) (T.pick [0] 1 rfl rfl nla rfl (T.loop (s0 := (List.replicate (8 : Int).toNat (0 : UInt8), 0)) (env := fun s2 x2 => [(0, .int .u64 a0), (3, .slice x2.1 s2.1.length x2.2), (7, .int .i64 (((List.replicate (8 : Int).toNat (0 : UInt8)).length : Int))), (8, .int .i64 s2.2)]) (hs := fun (s2 : List UInt8 × Int) (x2 : (Option Addr × Nat)) => Bf E8 5 x2.1 x2.2 s2.1 :: hs) hl1 (some ⟨b1, 0, none⟩, (8 : Int).toNat) (fun K1 s2 x2 o1 he1 hm1 hx1 => ?_)))
  unfold keys_eight.st1 at he1
  refine T.seq (T.region (T.bin .list rfl w0 rfl rfl rfl rfl (T.nil (T.then_normal (T.seq ?_)))))
  refine T.cond rfl (fun hb1 => ?_) (fun hb1 => ?_)
  ·replace he1 := inv_posB hb1 he1
   refine T.skip (T.then_normal (T.seq (T.block (T.seq (T.region (T.mv rfl rfl rfl rfl (T.asg rfl rfl rfl rfl (T.nil (T.then_normal (T.region (T.mv rfl rfl rfl rfl ?_)))))))))))
   refine T.mv rfl rfl rfl rfl (T.mv rfl rfl rfl rfl (T.mv rfl rfl rfl rfl (T.bin .list rfl w0 rfl rfl rfl rfl (T.bin .list rfl w0 rfl rfl rfl rfl ?_))))
   obtain ⟨hc2, he1⟩ := inv_chk he1
   refine T.shr .list rfl w0 rfl rfl rfl hc2 (T.conv .list rfl w0 rfl rfl rfl ?_)
   obtain ⟨hc3, he1⟩ := inv_chk he1
   refine T.idxBf .list 0 rfl rfl w0 rfl rfl rfl hc3.1 hc3.2 (Nat.le_refl _) (T.stBf .list 0 rfl rfl w0 rfl rfl rfl (b8_wrap _) hc3.1 hc3.2 rfl (T.nil (T.in_normal (T.then_normal (T.region (T.bin .list rfl w0 rfl rfl rfl rfl (T.mv rfl rfl rfl rfl (T.nil (T.then_normal ?_)))))))))
   obtain rfl := inv_some he1
   refine T.env1 3 rfl (slc (n' := (((s2.1).set (s2.2 : Int).toNat (u8 (IntKind.u8.wrap (shrI .u64 a0 (IntKind.i64.wrap (56 - (IntKind.i64.wrap (8 * s2.2))))))))).length) (by simp only [List.length_set])) ?_
   exact T.le (EnvLe.cons rfl (EnvLe.cons rfl (EnvLe.cons rfl (EnvLe.cons rfl EnvLe.nil)))) (T.pick [0] 1 rfl rfl nla rfl (hm1 (((s2.1).set (s2.2 : Int).toNat (u8 (IntKind.u8.wrap (shrI .u64 a0 (IntKind.i64.wrap (56 - (IntKind.i64.wrap (8 * s2.2)))))))), IntKind.i64.wrap (s2.2 + 1)) rfl x2))
  ·replace he1 := inv_negB hb1 he1
   refine T.exit (T.then_exit (T.then_exit ?_))
   obtain rfl := inv_some he1
   obtain rfl := hx1 _ rfl
   refine T.in_hit (T.then_normal ?_)
   exact T.le (EnvLe.cons rfl EnvLe.nil) (T.pick [0] 1 rfl rfl nla rfl (J1 s2.1 x2 hr))

noncomputable def keys_Runes.k1 (s1 : Int) : Option Int :=
  some s1
noncomputable def keys_Runes.st1 (l0 : List UInt8) (s2 : Int × Nat) : Option ((Int × Nat) ⊕ Int) :=
  (if ((decide (s2.2 < l0.length))) = true then some (.inl (IntKind.i64.wrap (s2.1 + 1), (s2.2 + (runeAt l0 s2.2).2))) else some (.inr s2.1))
noncomputable def keys_Runes.impl (l0 : List UInt8) : Option Int :=
  (utf8_ValidString.impl l0).bind fun r1 => (if ((!r1)) = true then some (-1) else (loop (keys_Runes.st1 l0) (0, 0)).bind (fun e1 => keys_Runes.k1 e1))
set_option maxRecDepth 100000 in
set_option maxHeartbeats 4000000 in
theorem keys_Runes.c {B : World} {hs : List MP} {w : World} {l0 : List UInt8} (hB : Base B) (hS : St B hs w) {r : Int} (hr : keys_Runes.impl l0 = some r) :
    Calls Tryd.prog 42 #[str l0] w fun e w' => ∃ x : Unit, e = .returned (.int .i64 r) ∧ St B hs w' := by
 unfold keys_Runes.impl at hr
 refine calls_T Tryd.func42 rfl rfl rfl hS ?_
 refine T.seq (T.region (T.asg rfl rfl rfl rfl (T.nil (T.then_normal (T.seq (T.seq (T.region (T.mv rfl rfl rfl rfl ?_))))))))
 obtain ⟨r1, hg1, hr⟩ := inv_bind hr
 refine T.call .list w0 rfl (run_callF (vs := [_]) rfl Tryd.func60 rfl (by decide) rfl) (fun w hS => utf8_ValidString.c hB hS  hg1) (fun x1 => ?_)
 refine T.not .list rfl w0 rfl rfl (T.nil (T.then_normal ?_))
 refine T.cond rfl (fun hb1 => ?_) (fun hb1 => ?_)
 ·replace hr := inv_posB hb1 hr
  refine T.seq (T.region (T.asg rfl rfl rfl rfl (T.nil (T.then_normal (T.ret (T.then_ret ?_))))))
  obtain rfl := inv_some hr
  refine T.pick [] 0 rfl rfl nla rfl ?_
  refine T.ret1 rfl rfl (fun w hS => ⟨(), rfl, hS⟩)
 ·replace hr := inv_negB hb1 hr
  refine T.skip (T.then_normal (T.seq (T.region (T.asg rfl rfl rfl rfl (T.nil (T.then_normal ?_))))))
  refine T.seqJ (fun (s1 : Int) (x2 : Unit) => [(3, .int .i64 s1)]) (fun s1 x2 => hs) (fun s1 => keys_Runes.k1 s1 = some r) (fun s1 x2 hk1 => ?_) (fun J1 => ?_)
  ·unfold keys_Runes.k1 at hk1
   refine T.seq (T.region (T.mv rfl rfl rfl rfl (T.asg rfl rfl rfl rfl (T.nil (T.then_normal (T.ret ?_))))))
   obtain rfl := inv_some hk1
   refine T.pick [] 0 rfl rfl nla rfl ?_
   refine T.ret1 rfl rfl (fun w hS => ⟨(), rfl, hS⟩)
  ·refine T.seq (T.region (T.mv rfl rfl rfl rfl ?_))
   refine T.range .list rfl w0 rfl (l := l0) rfl (fun b1 => ?_)
   refine T.nil (T.then_normal (T.block ?_))
   obtain ⟨e1, hl1, hr⟩ := inv_bind hr
   refine T.le (EnvLe.cons rfl (EnvLe.cons rfl EnvLe.nil)) (T.pick [0] 1 rfl rfl nla rfl (T.loop (s0 := (0, 0)) (env := fun s2 x3 => [(3, .int .i64 s2.1), (8, .pointer (some ⟨b1, 0, none⟩))]) (hs := fun (s2 : Int × Nat) (x3 : Unit) => It b1 l0 s2.2 :: hs) hl1 () (fun K1 s2 x3 o1 he1 hm1 hx1 => ?_)))
   unfold keys_Runes.st1 at he1
   refine T.seq (T.region ?_)
   refine T.bool (b := (decide (s2.2 < l0.length))) (fun hb2 => ?_) (fun hb2 => ?_)
   ·replace he1 := inv_posB hb2 he1
    refine T.nextMore .list 0 rfl rfl w0 rfl rfl hb2 rfl (T.extract .list rfl w0 rfl rfl rfl (T.nil (T.then_normal (T.seq (T.condT rfl rfl (T.skip (T.then_normal (T.block (T.region (T.mv rfl rfl rfl rfl (T.bin .list rfl w0 rfl rfl rfl rfl ?_)))))))))))
    refine T.asg rfl rfl rfl rfl (T.nil (T.in_normal (T.then_normal ?_)))
    obtain rfl := inv_some he1
    exact T.le (EnvLe.cons rfl (EnvLe.cons rfl EnvLe.nil)) (T.pick [0] 1 rfl rfl nla rfl (hm1 (IntKind.i64.wrap (s2.1 + 1), (s2.2 + (runeAt l0 s2.2).2)) rfl ()))
   ·replace he1 := inv_negB hb2 he1
    refine T.nextOver .list 0 rfl rfl w0 rfl rfl hb2 (T.extract .list rfl w0 rfl rfl rfl (T.nil (T.then_normal (T.seq (T.condF rfl rfl (T.exit (T.then_exit (T.then_exit ?_))))))))
    obtain rfl := inv_some he1
    obtain rfl := hx1 _ rfl
    refine T.in_hit (T.then_normal ?_)
    exact T.le (EnvLe.cons rfl EnvLe.nil) (T.pick [] 1 rfl rfl nla rfl (J1 s2.1 () hr))

noncomputable def keys_Right.k5 (s5 : Bool) : Option Int :=
  (if s5 = true then some 12 else some 0)
noncomputable def keys_Right.k4 (a0 : Int × Int × (List UInt8)) (s4 : Bool) : Option Int :=
  (if s4 = true then some 1 else (keys_inside.impl a0).bind fun r1 => (if r1.isStr = true then (keys_Runes.impl r1.asStr).bind fun r2 => keys_Right.k5 (decide (r2 < 0)) else keys_Right.k5 false))
noncomputable def keys_Right.k3 (a0 : Int × Int × (List UInt8)) (s3 : Bool) : Option Int :=
  (if s3 = true then keys_Right.k4 a0 true else (if ((decide (a0.1 = 3))) = true then (if ((decide (a0.2.1 = 0))) = true then keys_Right.k4 a0 false else keys_Right.k4 a0 (!(decide (a0.2.1 = 1)))) else keys_Right.k4 a0 false))
noncomputable def keys_Right.k2 (a0 : Int × Int × (List UInt8)) (s2 : Bool) : Option Int :=
  (if s2 = true then keys_Right.k3 a0 true else (if ((decide (a0.1 = 0))) = true then keys_Right.k3 a0 (!(decide (a0.2.1 = 0))) else (if ((decide (a0.1 = 2))) = true then keys_Right.k3 a0 (!(decide (a0.2.1 = 0))) else keys_Right.k3 a0 false)))
noncomputable def keys_Right.k1 (a0 : Int × Int × (List UInt8)) (s1 : Bool) : Option Int :=
  (if s1 = true then keys_Right.k2 a0 true else (if ((decide (a0.1 = 2))) = true then keys_Right.k2 a0 false else keys_Right.k2 a0 (!(decide (a0.2.2 = (([] : List UInt8)))))))
noncomputable def keys_Right.impl (a0 : Int × Int × (List UInt8)) : Option Int :=
  (if ((decide (a0.1 < 0))) = true then keys_Right.k1 a0 true else keys_Right.k1 a0 (decide ((3 : Int) < a0.1)))
set_option maxRecDepth 100000 in
set_option maxHeartbeats 4000000 in
theorem keys_Right.c {B : World} {hs : List MP} {w : World} {a0 : Int × Int × (List UInt8)} (hB : Base B) (hS : St B hs w) {r : Int} (hr : keys_Right.impl a0 = some r) :
    Calls Tryd.prog 61 #[.agg #[.int .i64 a0.1, .int .i64 a0.2.1, str a0.2.2]] w fun e w' => ∃ x : Unit, e = .returned (.int .i64 r) ∧ St B hs w' := by
 unfold keys_Right.impl at hr
 refine calls_T Tryd.func61 rfl rfl rfl hS ?_
 refine T.seq (T.region ?_)
 refine T.boxS .list rfl w0 rfl rfl (cs := [.int .i64 a0.1, .int .i64 a0.2.1, str a0.2.2]) rfl (fun b1 => ?_)
 refine T.asg rfl rfl rfl rfl (T.nil (T.then_normal ?_))
 refine T.seqJ (fun (s1 : Bool) (x1 : Unit) => [(1, .pointer (some ⟨b1, 0, none⟩)), (3, .bool s1)]) (fun s1 x1 => Cl b1 64 [.int .i64 a0.1, .int .i64 a0.2.1, str a0.2.2] :: hs) (fun s1 => keys_Right.k1 a0 s1 = some r) (fun s1 x1 hk1 => ?_) (fun J1 => ?_)
 ·unfold keys_Right.k1 at hk1
  refine T.seqJ (fun (s2 : Bool) (x2 : Unit) => [(1, .pointer (some ⟨b1, 0, none⟩)), (3, .bool s2)]) (fun s2 x2 => Cl b1 64 [.int .i64 a0.1, .int .i64 a0.2.1, str a0.2.2] :: hs) (fun s2 => keys_Right.k2 a0 s2 = some r) (fun s2 x2 hk2 => ?_) (fun J2 => ?_)
  ·unfold keys_Right.k2 at hk2
   refine T.seqJ (fun (s3 : Bool) (x3 : Unit) => [(1, .pointer (some ⟨b1, 0, none⟩)), (3, .bool s3)]) (fun s3 x3 => Cl b1 64 [.int .i64 a0.1, .int .i64 a0.2.1, str a0.2.2] :: hs) (fun s3 => keys_Right.k3 a0 s3 = some r) (fun s3 x3 hk3 => ?_) (fun J3 => ?_)
   ·unfold keys_Right.k3 at hk3
    refine T.seq ?_
    refine T.seqJ (fun (s4 : Bool) (x4 : Unit) => [(1, .pointer (some ⟨b1, 0, none⟩)), (56, .bool s4)]) (fun s4 x4 => Cl b1 64 [.int .i64 a0.1, .int .i64 a0.2.1, str a0.2.2] :: hs) (fun s4 => keys_Right.k4 a0 s4 = some r) (fun s4 x4 hk4 => ?_) (fun J4 => ?_)
    ·unfold keys_Right.k4 at hk4
     refine T.cond rfl (fun hb1 => ?_) (fun hb1 => ?_)
     ·replace hk4 := inv_posB hb1 hk4
      refine T.seq (T.region (T.asg rfl rfl rfl rfl (T.nil (T.then_normal (T.ret (T.then_ret ?_))))))
      obtain rfl := inv_some hk4
      refine T.pick [] 1 rfl rfl nla rfl ?_
      refine T.ret1 rfl rfl (fun w hS => ⟨(), rfl, hS⟩)
     ·replace hk4 := inv_negB hb1 hk4
      refine T.skip (T.then_normal (T.seq (T.seq (T.region (T.loadN .list 0 rfl rfl w0 rfl rfl (vs := [.int .i64 a0.1, .int .i64 a0.2.1, str a0.2.2]) rfl rfl ?_)))))
      obtain ⟨r1, hg1, hk4⟩ := inv_bind hk4
      refine T.call .list w0 rfl (run_callF (vs := [_]) rfl Tryd.func62 rfl (by decide) rfl) (fun w hS => keys_inside.c hB hS (a0 := a0)  hg1) (fun x5 => ?_)
      refine T.assertStr (Y := dyT) (d := r1) (hst := (inferInstance : STR Tryd.prog 9)) (ht := (inferInstance : TI Tryd.prog 9 1 16 false (str []))) .list (by decide) rfl w0 rfl rfl (T.mv rfl rfl rfl rfl (T.extract .list rfl w0 rfl rfl rfl (T.extract .list rfl w0 rfl rfl rfl (T.asg rfl rfl rfl rfl (T.asg rfl rfl rfl rfl (T.nil (T.then_normal ?_)))))))
      refine T.seqJ (fun (s5 : Bool) (x6 : Unit) => [(68, .bool s5)]) (fun s5 x6 => hs) (fun s5 => keys_Right.k5 s5 = some r) (fun s5 x6 hk5 => ?_) (fun J5 => ?_)
      ·unfold keys_Right.k5 at hk5
       refine T.cond rfl (fun hb2 => ?_) (fun hb2 => ?_)
       ·replace hk5 := inv_posB hb2 hk5
        refine T.seq (T.region (T.asg rfl rfl rfl rfl (T.nil (T.then_normal (T.ret (T.then_ret ?_))))))
        obtain rfl := inv_some hk5
        refine T.pick [] 0 rfl rfl nla rfl ?_
        refine T.ret1 rfl rfl (fun w hS => ⟨(), rfl, hS⟩)
       ·replace hk5 := inv_negB hb2 hk5
        refine T.skip (T.then_normal (T.seq (T.region (T.asg rfl rfl rfl rfl (T.nil (T.then_normal (T.ret ?_)))))))
        obtain rfl := inv_some hk5
        refine T.pick [] 0 rfl rfl nla rfl ?_
        refine T.ret1 rfl rfl (fun w hS => ⟨(), rfl, hS⟩)
      ·refine T.region (T.mv rfl rfl rfl rfl (T.mv rfl rfl rfl rfl ?_))
       refine T.bool (b := r1.isStr) (fun hb3 => ?_) (fun hb3 => ?_)
       ·replace hk4 := inv_posB hb3 hk4
        refine T.move .list rfl (wants1 rfl rfl rfl hb3) rfl rfl ?_
        obtain ⟨r2, hg2, hk4⟩ := inv_bind hk4
        refine T.call .list (wants1 rfl rfl rfl hb3) rfl (run_callF (vs := [_]) rfl Tryd.func42 rfl (by decide) rfl) (fun w hS => keys_Runes.c hB hS  hg2) (fun x7 => ?_)
        refine T.bin .list rfl (wants1 rfl rfl rfl hb3) rfl rfl rfl rfl (T.pickT .list rfl w0 rfl rfl hb3 rfl (T.nil (T.then_normal ?_)))
        exact T.le (EnvLe.cons rfl EnvLe.nil) (T.pick [] 1 rfl rfl nla rfl (J5 (decide (r2 < 0)) () hk4))
       ·replace hk4 := inv_negB hb3 hk4
        refine T.lv rfl rfl rfl hb3 rfl (T.lv rfl rfl rfl hb3 rfl (T.lv rfl rfl rfl hb3 rfl (T.pickF .list rfl w0 rfl rfl hb3 rfl (T.nil (T.then_normal ?_)))))
        exact T.le (EnvLe.cons rfl EnvLe.nil) (T.pick [] 1 rfl rfl nla rfl (J5 false () hk4))
    ·refine T.region (T.mv rfl rfl rfl rfl (T.mv rfl rfl rfl rfl ?_))
     refine T.bool (b := s3) (fun hb4 => ?_) (fun hb4 => ?_)
     ·replace hk3 := inv_posB hb4 hk3
      refine T.lv rfl rfl rfl hb4 rfl (T.lv rfl rfl rfl hb4 rfl (T.lv rfl rfl rfl hb4 rfl (T.lv rfl rfl rfl hb4 rfl (T.leave .list (wantsUndef rfl rfl rfl) rfl (T.leave .list (wantsUndef rfl rfl rfl) rfl (T.leave .list (wantsUndef rfl rfl rfl) rfl (T.lv rfl rfl rfl hb4 rfl (T.lv rfl rfl rfl hb4 rfl (T.leave .list (wantsUndef rfl rfl rfl) rfl (T.leave .list (wantsUndef rfl rfl rfl) rfl (T.leave .list (wantsUndef rfl rfl rfl) rfl ?_)))))))))))
      refine T.lv rfl rfl rfl hb4 rfl (T.pickT .list rfl w0 rfl rfl hb4 rfl (T.nil (T.then_normal ?_)))
      exact T.le (EnvLe.cons rfl (EnvLe.cons rfl EnvLe.nil)) (T.pick [0] 1 rfl rfl nla rfl (J4 true () hk3))
     ·replace hk3 := inv_negB hb4 hk3
      refine T.field .list rfl (wants1 rfl rfl rfl hb4) rfl rfl (T.load .list 0 rfl rfl (wants1 rfl rfl rfl hb4) rfl rfl rfl (T.bin .list rfl (wants1 rfl rfl rfl hb4) rfl rfl rfl rfl (T.move .list rfl (wants1 rfl rfl rfl hb4) rfl rfl ?_)))
      refine T.bool (b := (decide (a0.1 = 3))) (fun hb5 => ?_) (fun hb5 => ?_)
      ·replace hk3 := inv_posB hb5 hk3
       refine T.field .list rfl (wants1 rfl rfl rfl hb5) rfl rfl (T.load .list 0 rfl rfl (wants1 rfl rfl rfl hb5) rfl rfl rfl (T.bin .list rfl (wants1 rfl rfl rfl hb5) rfl rfl rfl rfl (T.pickT .list rfl (wants1 rfl rfl rfl hb4) rfl rfl hb5 rfl (T.move .list rfl (wants1 rfl rfl rfl hb4) rfl rfl ?_))))
       refine T.bool (b := (decide (a0.2.1 = 0))) (fun hb6 => ?_) (fun hb6 => ?_)
       ·replace hk3 := inv_posB hb6 hk3
        refine T.leave .list (wantsNot rfl rfl rfl (not_t hb6)) rfl (T.leave .list (wantsNot rfl rfl rfl (not_t hb6)) rfl (T.leave .list (wantsNot rfl rfl rfl (not_t hb6)) rfl (T.pickF .list rfl (wants1 rfl rfl rfl hb4) rfl rfl (not_t hb6) rfl (T.pickF .list rfl w0 rfl rfl hb4 rfl (T.nil (T.then_normal ?_))))))
        exact T.le (EnvLe.cons rfl (EnvLe.cons rfl EnvLe.nil)) (T.pick [0] 1 rfl rfl nla rfl (J4 false () hk3))
       ·replace hk3 := inv_negB hb6 hk3
        refine T.field .list rfl (wants1 rfl rfl rfl (not_f hb6)) rfl rfl (T.load .list 0 rfl rfl (wants1 rfl rfl rfl (not_f hb6)) rfl rfl rfl (T.bin .list rfl (wants1 rfl rfl rfl (not_f hb6)) rfl rfl rfl rfl (T.pickT .list rfl (wants1 rfl rfl rfl hb4) rfl rfl (not_f hb6) rfl (T.pickF .list rfl w0 rfl rfl hb4 rfl (T.nil (T.then_normal ?_))))))
        exact T.le (EnvLe.cons rfl (EnvLe.cons rfl EnvLe.nil)) (T.pick [0] 1 rfl rfl nla rfl (J4 (!(decide (a0.2.1 = 1))) () hk3))
      ·replace hk3 := inv_negB hb5 hk3
       refine T.lv rfl rfl rfl hb5 rfl (T.lv rfl rfl rfl hb5 rfl (T.lv rfl rfl rfl hb5 rfl (T.pickF .list rfl (wants1 rfl rfl rfl hb4) rfl rfl hb5 rfl (T.move .list rfl (wants1 rfl rfl rfl hb4) rfl rfl (T.lv rfl rfl rfl rfl rfl (T.lv rfl rfl rfl rfl rfl (T.lv rfl rfl rfl rfl rfl (T.pickF .list rfl (wants1 rfl rfl rfl hb4) rfl rfl rfl rfl (T.pickF .list rfl w0 rfl rfl hb4 rfl (T.nil (T.then_normal ?_)))))))))))
       exact T.le (EnvLe.cons rfl (EnvLe.cons rfl EnvLe.nil)) (T.pick [0] 1 rfl rfl nla rfl (J4 false () hk3))
   ·refine T.region (T.mv rfl rfl rfl rfl (T.mv rfl rfl rfl rfl ?_))
    refine T.bool (b := s2) (fun hb7 => ?_) (fun hb7 => ?_)
    ·replace hk2 := inv_posB hb7 hk2
     refine T.lv rfl rfl rfl hb7 rfl (T.lv rfl rfl rfl hb7 rfl (T.lv rfl rfl rfl hb7 rfl (T.lv rfl rfl rfl hb7 rfl (T.leave .list (wantsUndef rfl rfl rfl) rfl (T.leave .list (wantsUndef rfl rfl rfl) rfl (T.leave .list (wantsUndef rfl rfl rfl) rfl (T.lv rfl rfl rfl hb7 rfl (T.lv rfl rfl rfl hb7 rfl (T.leave .list (wantsUndef rfl rfl rfl) rfl (T.leave .list (wantsUndef rfl rfl rfl) rfl (T.leave .list (wantsUndef rfl rfl rfl) rfl ?_)))))))))))
     refine T.lv rfl rfl rfl hb7 rfl (T.pickT .list rfl w0 rfl rfl hb7 rfl (T.asg rfl rfl rfl rfl (T.nil (T.then_normal ?_))))
     exact T.le (EnvLe.cons rfl (EnvLe.cons rfl EnvLe.nil)) (T.pick [0] 1 rfl rfl nla rfl (J3 true () hk2))
    ·replace hk2 := inv_negB hb7 hk2
     refine T.field .list rfl (wants1 rfl rfl rfl hb7) rfl rfl (T.load .list 0 rfl rfl (wants1 rfl rfl rfl hb7) rfl rfl rfl (T.bin .list rfl (wants1 rfl rfl rfl hb7) rfl rfl rfl rfl (T.move .list rfl (wants1 rfl rfl rfl hb7) rfl rfl ?_)))
     refine T.bool (b := (decide (a0.1 = 0))) (fun hb8 => ?_) (fun hb8 => ?_)
     ·replace hk2 := inv_posB hb8 hk2
      refine T.lv rfl rfl rfl hb8 rfl (T.lv rfl rfl rfl hb8 rfl (T.lv rfl rfl rfl hb8 rfl (T.pickT .list rfl (wants1 rfl rfl rfl hb7) rfl rfl hb8 rfl (T.move .list rfl (wants1 rfl rfl rfl hb7) rfl rfl (T.field .list rfl (wants1 rfl rfl rfl rfl) rfl rfl (T.load .list 0 rfl rfl (wants1 rfl rfl rfl rfl) rfl rfl rfl (T.bin .list rfl (wants1 rfl rfl rfl rfl) rfl rfl rfl rfl (T.pickT .list rfl (wants1 rfl rfl rfl hb7) rfl rfl rfl rfl (T.pickF .list rfl w0 rfl rfl hb7 rfl (T.asg rfl rfl rfl rfl (T.nil ?_)))))))))))
      refine T.then_normal ?_
      exact T.le (EnvLe.cons rfl (EnvLe.cons rfl EnvLe.nil)) (T.pick [0] 1 rfl rfl nla rfl (J3 (!(decide (a0.2.1 = 0))) () hk2))
     ·replace hk2 := inv_negB hb8 hk2
      refine T.field .list rfl (wants1 rfl rfl rfl hb8) rfl rfl (T.load .list 0 rfl rfl (wants1 rfl rfl rfl hb8) rfl rfl rfl (T.bin .list rfl (wants1 rfl rfl rfl hb8) rfl rfl rfl rfl (T.pickF .list rfl (wants1 rfl rfl rfl hb7) rfl rfl hb8 rfl (T.move .list rfl (wants1 rfl rfl rfl hb7) rfl rfl ?_))))
      refine T.bool (b := (decide (a0.1 = 2))) (fun hb9 => ?_) (fun hb9 => ?_)
      ·replace hk2 := inv_posB hb9 hk2
       refine T.field .list rfl (wants1 rfl rfl rfl hb9) rfl rfl (T.load .list 0 rfl rfl (wants1 rfl rfl rfl hb9) rfl rfl rfl (T.bin .list rfl (wants1 rfl rfl rfl hb9) rfl rfl rfl rfl (T.pickT .list rfl (wants1 rfl rfl rfl hb7) rfl rfl hb9 rfl (T.pickF .list rfl w0 rfl rfl hb7 rfl (T.asg rfl rfl rfl rfl (T.nil (T.then_normal ?_)))))))
       exact T.le (EnvLe.cons rfl (EnvLe.cons rfl EnvLe.nil)) (T.pick [0] 1 rfl rfl nla rfl (J3 (!(decide (a0.2.1 = 0))) () hk2))
      ·replace hk2 := inv_negB hb9 hk2
       refine T.lv rfl rfl rfl hb9 rfl (T.lv rfl rfl rfl hb9 rfl (T.lv rfl rfl rfl hb9 rfl (T.pickF .list rfl (wants1 rfl rfl rfl hb7) rfl rfl hb9 rfl (T.pickF .list rfl w0 rfl rfl hb7 rfl (T.asg rfl rfl rfl rfl (T.nil (T.then_normal ?_)))))))
       exact T.le (EnvLe.cons rfl (EnvLe.cons rfl EnvLe.nil)) (T.pick [0] 1 rfl rfl nla rfl (J3 false () hk2))
  ·refine T.region (T.mv rfl rfl rfl rfl (T.mv rfl rfl rfl rfl ?_))
   refine T.bool (b := s1) (fun hb10 => ?_) (fun hb10 => ?_)
   ·replace hk1 := inv_posB hb10 hk1
    refine T.lv rfl rfl rfl hb10 rfl (T.lv rfl rfl rfl hb10 rfl (T.lv rfl rfl rfl hb10 rfl (T.lv rfl rfl rfl hb10 rfl (T.leave .list (wantsUndef rfl rfl rfl) rfl (T.leave .list (wantsUndef rfl rfl rfl) rfl (T.leave .list (wantsUndef rfl rfl rfl) rfl (T.lv rfl rfl rfl hb10 rfl (T.pickT .list rfl w0 rfl rfl hb10 rfl (T.asg rfl rfl rfl rfl (T.nil (T.then_normal ?_)))))))))))
    exact T.le (EnvLe.cons rfl (EnvLe.cons rfl EnvLe.nil)) (T.pick [0] 1 rfl rfl nla rfl (J2 true () hk1))
   ·replace hk1 := inv_negB hb10 hk1
    refine T.field .list rfl (wants1 rfl rfl rfl hb10) rfl rfl (T.load .list 0 rfl rfl (wants1 rfl rfl rfl hb10) rfl rfl rfl (T.bin .list rfl (wants1 rfl rfl rfl hb10) rfl rfl rfl rfl (T.move .list rfl (wants1 rfl rfl rfl hb10) rfl rfl ?_)))
    refine T.bool (b := (decide (a0.1 = 2))) (fun hb11 => ?_) (fun hb11 => ?_)
    ·replace hk1 := inv_posB hb11 hk1
     refine T.leave .list (wantsNot rfl rfl rfl (not_t hb11)) rfl (T.leave .list (wantsNot rfl rfl rfl (not_t hb11)) rfl (T.leave .list (wantsNot rfl rfl rfl (not_t hb11)) rfl (T.pickF .list rfl (wants1 rfl rfl rfl hb10) rfl rfl (not_t hb11) rfl (T.pickF .list rfl w0 rfl rfl hb10 rfl (T.asg rfl rfl rfl rfl (T.nil (T.then_normal ?_)))))))
     exact T.le (EnvLe.cons rfl (EnvLe.cons rfl EnvLe.nil)) (T.pick [0] 1 rfl rfl nla rfl (J2 false () hk1))
    ·replace hk1 := inv_negB hb11 hk1
     refine T.field .list rfl (wants1 rfl rfl rfl (not_f hb11)) rfl rfl (T.load .list 0 rfl rfl (wants1 rfl rfl rfl (not_f hb11)) rfl rfl rfl (T.strNe .list rfl (wants1 rfl rfl rfl (not_f hb11)) rfl (l := a0.2.2) (l' := (([] : List UInt8))) rfl rfl (T.pickT .list rfl (wants1 rfl rfl rfl hb10) rfl rfl (not_f hb11) rfl (T.pickF .list rfl w0 rfl rfl hb10 rfl (T.asg rfl rfl rfl rfl (T.nil (T.then_normal ?_)))))))
     exact T.le (EnvLe.cons rfl (EnvLe.cons rfl EnvLe.nil)) (T.pick [0] 1 rfl rfl nla rfl (J2 (!(decide (a0.2.2 = (([] : List UInt8))))) () hk1))
 ·refine T.region (T.field .list rfl w0 rfl rfl (T.load .list 0 rfl rfl w0 rfl rfl rfl (T.bin .list rfl w0 rfl rfl rfl rfl (T.mv rfl rfl rfl rfl ?_))))
  refine T.bool (b := (decide (a0.1 < 0))) (fun hb12 => ?_) (fun hb12 => ?_)
  ·replace hr := inv_posB hb12 hr
   refine T.lv rfl rfl rfl hb12 rfl (T.lv rfl rfl rfl hb12 rfl (T.lv rfl rfl rfl hb12 rfl (T.pickT .list rfl w0 rfl rfl hb12 rfl (T.asg rfl rfl rfl rfl (T.nil (T.then_normal ?_))))))
   exact T.le (EnvLe.cons rfl (EnvLe.cons rfl EnvLe.nil)) (T.pick [0] 1 rfl rfl nla rfl (J1 true () hr))
  ·replace hr := inv_negB hb12 hr
   refine T.field .list rfl (wants1 rfl rfl rfl hb12) rfl rfl (T.load .list 0 rfl rfl (wants1 rfl rfl rfl hb12) rfl rfl rfl (T.bin .list rfl (wants1 rfl rfl rfl hb12) rfl rfl rfl rfl (T.pickF .list rfl w0 rfl rfl hb12 rfl (T.asg rfl rfl rfl rfl (T.nil (T.then_normal ?_))))))
   exact T.le (EnvLe.cons rfl (EnvLe.cons rfl EnvLe.nil)) (T.pick [0] 1 rfl rfl nla rfl (J1 (decide ((3 : Int) < a0.1)) () hr))

noncomputable def keys_runes.k1 (s1 : List UInt8) : Option (List UInt8) :=
  chk ((s1.length + (([(0 : UInt8), (0 : UInt8), (0 : UInt8)] : List UInt8)).length) * 1 ≤ 140737488355328) (some (s1 ++ (([(0 : UInt8), (0 : UInt8), (0 : UInt8)] : List UInt8))))
noncomputable def keys_runes.st1 (l0 : List UInt8) (s2 : List UInt8 × Nat) : Option ((List UInt8 × Nat) ⊕ (List UInt8)) :=
  (if ((decide (s2.2 < l0.length))) = true then chk ((s2.1.length + (([(u8 (IntKind.u8.wrap (shrI .i32 (IntKind.i32.wrap ((((runeAt l0 s2.2).1 : Int)) + 1)) 16))), (u8 (IntKind.u8.wrap (shrI .i32 (IntKind.i32.wrap ((((runeAt l0 s2.2).1 : Int)) + 1)) 8))), (u8 (IntKind.u8.wrap (IntKind.i32.wrap ((((runeAt l0 s2.2).1 : Int)) + 1))))] : List UInt8)).length) * 1 ≤ 140737488355328) (some (.inl ((s2.1 ++ (([(u8 (IntKind.u8.wrap (shrI .i32 (IntKind.i32.wrap ((((runeAt l0 s2.2).1 : Int)) + 1)) 16))), (u8 (IntKind.u8.wrap (shrI .i32 (IntKind.i32.wrap ((((runeAt l0 s2.2).1 : Int)) + 1)) 8))), (u8 (IntKind.u8.wrap (IntKind.i32.wrap ((((runeAt l0 s2.2).1 : Int)) + 1))))] : List UInt8))), (s2.2 + (runeAt l0 s2.2).2)))) else some (.inr s2.1))
noncomputable def keys_runes.impl (l0 : List UInt8) : Option (List UInt8) :=
  (loop (keys_runes.st1 l0) (([] : List UInt8), 0)).bind (fun e1 => keys_runes.k1 e1)
set_option maxRecDepth 100000 in
set_option maxHeartbeats 4000000 in
theorem keys_runes.c {B : World} {hs : List MP} {w : World} {l0 : List UInt8} (hB : Base B) (hS : St B hs w) {r : List UInt8} (hr : keys_runes.impl l0 = some r) :
    Calls Tryd.prog 64 #[str l0] w fun e w' => ∃ x : (Option Addr × Nat), e = .returned (.slice x.1 r.length x.2) ∧ St B (Bf E8 5 x.1 x.2 r :: hs) w' := by
 unfold keys_runes.impl at hr
 refine calls_T Tryd.func64 rfl rfl rfl hS ?_
 refine T.seq (T.region (T.asg rfl rfl rfl rfl (T.nil (T.then_normal (T.seq (T.region (T.asg rfl rfl rfl rfl (T.nil (T.then_normal ?_)))))))))
 refine T.seqJ (fun (s1 : List UInt8) (x1 : (Option Addr × Nat)) => [(3, .slice x1.1 s1.length x1.2)]) (fun s1 x1 => Bf E8 5 x1.1 x1.2 s1 :: hs) (fun s1 => keys_runes.k1 s1 = some r) (fun s1 x1 hk1 => ?_) (fun J1 => ?_)
 ·unfold keys_runes.k1 at hk1
  refine T.seq (T.region (T.mv rfl rfl rfl rfl ?_))
  refine T.lit (E := E8) .list (vals := [(0, .int .u8 0), (1, .int .u8 0), (2, .int .u8 0)]) (cells := #[.int .u8 0, .int .u8 0, .int .u8 0]) rfl w0 rfl rfl rfl rfl rfl (by kernel_rfl) ([(0 : UInt8), (0 : UInt8), (0 : UInt8)] : List UInt8) rfl (fun _ _ _ _ _ => (Encs.c1 (enc := b8) (h1 := fun _ => rfl) rfl (Encs.c1 (enc := b8) (h1 := fun _ => rfl) rfl (Encs.c1 (enc := b8) (h1 := fun _ => rfl) rfl rfl)))) (fun b1 => ?_)
  obtain ⟨hc1, hk1⟩ := inv_chk hk1
  refine T.appBf .list 1 0 rfl rfl rfl rfl rfl w0 rfl rfl rfl rfl rfl rfl hc1 (fun _ _ => rfl) (fun A2 c2 => ?_)
  refine T.asg rfl rfl rfl rfl (T.nil (T.then_normal (T.ret ?_)))
  obtain rfl := inv_some hk1
  refine T.pick [1] 2 rfl rfl nla rfl ?_
  refine T.ret1 rfl rfl (fun w hS => ⟨(A2, c2), rfl, hS⟩)
 ·refine T.seq (T.region (T.mv rfl rfl rfl rfl ?_))
  refine T.range .list rfl w0 rfl (l := l0) rfl (fun b2 => ?_)
  refine T.nil (T.then_normal (T.block ?_))
  obtain ⟨e1, hl1, hr⟩ := inv_bind hr
  refine T.nilBf E8 5 ?_
  refine T.le (EnvLe.cons rfl (EnvLe.cons rfl EnvLe.nil)) (T.pick [0, 1] 2 rfl rfl nla rfl (T.loop (s0 := (([] : List UInt8), 0)) (env := fun s2 x2 => [(3, .slice x2.1 s2.1.length x2.2), (8, .pointer (some ⟨b2, 0, none⟩))]) (hs := fun (s2 : List UInt8 × Nat) (x2 : (Option Addr × Nat)) => Bf E8 5 x2.1 x2.2 s2.1 :: It b2 l0 s2.2 :: hs) hl1 (none, 0) (fun K1 s2 x2 o1 he1 hm1 hx1 => ?_)))
  unfold keys_runes.st1 at he1
  refine T.seq (T.region ?_)
  refine T.bool (b := (decide (s2.2 < l0.length))) (fun hb1 => ?_) (fun hb1 => ?_)
  ·replace he1 := inv_posB hb1 he1
   refine T.nextMore .list 1 rfl rfl w0 rfl rfl hb1 rfl (T.extract .list rfl w0 rfl rfl rfl (T.nil (T.then_normal (T.seq (T.condT rfl rfl (T.skip (T.then_normal (T.block (T.seq (T.region (T.extract .list rfl w0 rfl rfl rfl ?_)))))))))))
   refine T.asg rfl rfl rfl rfl (T.nil (T.then_normal (T.seq (T.region (T.mv rfl rfl rfl rfl (T.bin .list rfl w0 rfl rfl rfl rfl (T.asg rfl rfl rfl rfl (T.nil (T.then_normal (T.region (T.mv rfl rfl rfl rfl ?_)))))))))))
   refine T.mv rfl rfl rfl rfl (T.shr .list rfl w0 rfl rfl rfl (by decide) (T.conv .list rfl w0 rfl rfl rfl (T.mv rfl rfl rfl rfl (T.shr .list rfl w0 rfl rfl rfl (by decide) (T.conv .list rfl w0 rfl rfl rfl (T.mv rfl rfl rfl rfl (T.conv .list rfl w0 rfl rfl rfl ?_)))))))
   refine T.lit (E := E8) .list (vals := [(0, .int .u8 (IntKind.u8.wrap (shrI .i32 (IntKind.i32.wrap ((((runeAt l0 s2.2).1 : Int)) + 1)) 16))), (1, .int .u8 (IntKind.u8.wrap (shrI .i32 (IntKind.i32.wrap ((((runeAt l0 s2.2).1 : Int)) + 1)) 8))), (2, .int .u8 (IntKind.u8.wrap (IntKind.i32.wrap ((((runeAt l0 s2.2).1 : Int)) + 1))))]) (cells := #[.int .u8 (IntKind.u8.wrap (shrI .i32 (IntKind.i32.wrap ((((runeAt l0 s2.2).1 : Int)) + 1)) 16)), .int .u8 (IntKind.u8.wrap (shrI .i32 (IntKind.i32.wrap ((((runeAt l0 s2.2).1 : Int)) + 1)) 8)), .int .u8 (IntKind.u8.wrap (IntKind.i32.wrap ((((runeAt l0 s2.2).1 : Int)) + 1)))]) rfl w0 rfl rfl rfl rfl rfl (by kernel_rfl) ([(u8 (IntKind.u8.wrap (shrI .i32 (IntKind.i32.wrap ((((runeAt l0 s2.2).1 : Int)) + 1)) 16))), (u8 (IntKind.u8.wrap (shrI .i32 (IntKind.i32.wrap ((((runeAt l0 s2.2).1 : Int)) + 1)) 8))), (u8 (IntKind.u8.wrap (IntKind.i32.wrap ((((runeAt l0 s2.2).1 : Int)) + 1))))] : List UInt8) rfl (fun _ _ _ _ _ => (Encs.c1 (enc := b8) (h1 := fun _ => rfl) (b8_wrap _) (Encs.c1 (enc := b8) (h1 := fun _ => rfl) (b8_wrap _) (Encs.c1 (enc := b8) (h1 := fun _ => rfl) (b8_wrap _) rfl)))) (fun b3 => ?_)
   obtain ⟨hc2, he1⟩ := inv_chk he1
   refine T.appBf .list 1 0 rfl rfl rfl rfl rfl w0 rfl rfl rfl rfl rfl rfl hc2 (fun _ _ => rfl) (fun A3 c3 => ?_)
   refine T.asg rfl rfl rfl rfl (T.nil (T.in_normal (T.then_normal ?_)))
   obtain rfl := inv_some he1
   exact T.le (EnvLe.cons rfl (EnvLe.cons rfl EnvLe.nil)) (T.pick [1, 2] 3 rfl rfl nla rfl (hm1 ((s2.1 ++ (([(u8 (IntKind.u8.wrap (shrI .i32 (IntKind.i32.wrap ((((runeAt l0 s2.2).1 : Int)) + 1)) 16))), (u8 (IntKind.u8.wrap (shrI .i32 (IntKind.i32.wrap ((((runeAt l0 s2.2).1 : Int)) + 1)) 8))), (u8 (IntKind.u8.wrap (IntKind.i32.wrap ((((runeAt l0 s2.2).1 : Int)) + 1))))] : List UInt8))), (s2.2 + (runeAt l0 s2.2).2)) rfl (A3, c3)))
  ·replace he1 := inv_negB hb1 he1
   refine T.nextOver .list 1 rfl rfl w0 rfl rfl hb1 (T.extract .list rfl w0 rfl rfl rfl (T.nil (T.then_normal (T.seq (T.condF rfl rfl (T.exit (T.then_exit (T.then_exit ?_))))))))
   obtain rfl := inv_some he1
   obtain rfl := hx1 _ rfl
   refine T.in_hit (T.then_normal ?_)
   exact T.le (EnvLe.cons rfl EnvLe.nil) (T.pick [0] 2 rfl rfl nla rfl (J1 s2.1 x2 hr))

noncomputable def utf8_ValidRune.k2 (s2 : Bool) : Option Bool :=
  (if s2 = true then some true else some false)
noncomputable def utf8_ValidRune.k1 (a0 : Int) (s1 : Bool) : Option Bool :=
  (if s1 = true then some true else (if ((decide ((57343 : Int) < a0))) = true then utf8_ValidRune.k2 (decide (a0 ≤ 1114111)) else utf8_ValidRune.k2 false))
noncomputable def utf8_ValidRune.impl (a0 : Int) : Option Bool :=
  (if ((decide ((0 : Int) ≤ a0))) = true then utf8_ValidRune.k1 a0 (decide (a0 < 55296)) else utf8_ValidRune.k1 a0 false)
set_option maxRecDepth 100000 in
set_option maxHeartbeats 4000000 in
theorem utf8_ValidRune.c {B : World} {hs : List MP} {w : World} {a0 : Int} (hB : Base B) (hS : St B hs w) {r : Bool} (hr : utf8_ValidRune.impl a0 = some r) :
    Calls Tryd.prog 100 #[.int .i32 a0] w fun e w' => ∃ x : Unit, e = .returned (.bool r) ∧ St B hs w' := by
 unfold utf8_ValidRune.impl at hr
 refine calls_T Tryd.func100 rfl rfl rfl hS ?_
 refine T.seq (T.region (T.asg rfl rfl rfl rfl (T.nil (T.then_normal (T.seq (T.block ?_))))))
 refine T.seqJ (fun (s1 : Bool) (x1 : Unit) => [(0, .int .i32 a0), (3, .bool s1)]) (fun s1 x1 => hs) (fun s1 => utf8_ValidRune.k1 a0 s1 = some r) (fun s1 x1 hk1 => ?_) (fun J1 => ?_)
 ·unfold utf8_ValidRune.k1 at hk1
  refine T.cond rfl (fun hb1 => ?_) (fun hb1 => ?_)
  ·replace hk1 := inv_posB hb1 hk1
   refine T.seq (T.region (T.asg rfl rfl rfl rfl (T.nil (T.then_normal (T.ret (T.in_ret (T.then_ret ?_)))))))
   obtain rfl := inv_some hk1
   refine T.pick [] 0 rfl rfl nla rfl ?_
   refine T.ret1 rfl rfl (fun w hS => ⟨(), rfl, hS⟩)
  ·replace hk1 := inv_negB hb1 hk1
   refine T.seqJ (fun (s2 : Bool) (x2 : Unit) => [(10, .bool s2)]) (fun s2 x2 => hs) (fun s2 => utf8_ValidRune.k2 s2 = some r) (fun s2 x2 hk2 => ?_) (fun J2 => ?_)
   ·unfold utf8_ValidRune.k2 at hk2
    refine T.cond rfl (fun hb2 => ?_) (fun hb2 => ?_)
    ·replace hk2 := inv_posB hb2 hk2
     refine T.seq (T.region (T.asg rfl rfl rfl rfl (T.nil (T.then_normal (T.ret (T.in_ret (T.then_ret ?_)))))))
     obtain rfl := inv_some hk2
     refine T.pick [] 0 rfl rfl nla rfl ?_
     refine T.ret1 rfl rfl (fun w hS => ⟨(), rfl, hS⟩)
    ·replace hk2 := inv_negB hb2 hk2
     refine T.skip (T.in_normal (T.then_normal (T.seq (T.region (T.asg rfl rfl rfl rfl (T.nil (T.then_normal (T.ret ?_))))))))
     obtain rfl := inv_some hk2
     refine T.pick [] 0 rfl rfl nla rfl ?_
     refine T.ret1 rfl rfl (fun w hS => ⟨(), rfl, hS⟩)
   ·refine T.region (T.mv rfl rfl rfl rfl (T.bin .list rfl w0 rfl rfl rfl rfl (T.mv rfl rfl rfl rfl ?_)))
    refine T.bool (b := (decide ((57343 : Int) < a0))) (fun hb3 => ?_) (fun hb3 => ?_)
    ·replace hk1 := inv_posB hb3 hk1
     refine T.move .list rfl (wants1 rfl rfl rfl hb3) rfl rfl (T.bin .list rfl (wants1 rfl rfl rfl hb3) rfl rfl rfl rfl (T.pickT .list rfl w0 rfl rfl hb3 rfl (T.asg rfl rfl rfl rfl (T.nil (T.then_normal ?_)))))
     exact T.le (EnvLe.cons rfl EnvLe.nil) (T.pick [] 0 rfl rfl nla rfl (J2 (decide (a0 ≤ 1114111)) () hk1))
    ·replace hk1 := inv_negB hb3 hk1
     refine T.lv rfl rfl rfl hb3 rfl (T.lv rfl rfl rfl hb3 rfl (T.pickF .list rfl w0 rfl rfl hb3 rfl (T.asg rfl rfl rfl rfl (T.nil (T.then_normal ?_)))))
     exact T.le (EnvLe.cons rfl EnvLe.nil) (T.pick [] 0 rfl rfl nla rfl (J2 false () hk1))
 ·refine T.region (T.mv rfl rfl rfl rfl (T.bin .list rfl w0 rfl rfl rfl rfl (T.mv rfl rfl rfl rfl ?_)))
  refine T.bool (b := (decide ((0 : Int) ≤ a0))) (fun hb4 => ?_) (fun hb4 => ?_)
  ·replace hr := inv_posB hb4 hr
   refine T.move .list rfl (wants1 rfl rfl rfl hb4) rfl rfl (T.bin .list rfl (wants1 rfl rfl rfl hb4) rfl rfl rfl rfl (T.pickT .list rfl w0 rfl rfl hb4 rfl (T.asg rfl rfl rfl rfl (T.nil (T.then_normal ?_)))))
   exact T.le (EnvLe.cons rfl (EnvLe.cons rfl EnvLe.nil)) (T.pick [] 0 rfl rfl nla rfl (J1 (decide (a0 < 55296)) () hr))
  ·replace hr := inv_negB hb4 hr
   refine T.lv rfl rfl rfl hb4 rfl (T.lv rfl rfl rfl hb4 rfl (T.pickF .list rfl w0 rfl rfl hb4 rfl (T.asg rfl rfl rfl rfl (T.nil (T.then_normal ?_)))))
   exact T.le (EnvLe.cons rfl (EnvLe.cons rfl EnvLe.nil)) (T.pick [] 0 rfl rfl nla rfl (J1 false () hr))

noncomputable def keys_text.k1 (s1 : Unit) : Option ((Int × Int × (List UInt8)) × Int) :=
  some ((0, 0, ([] : List UInt8)), 0)
noncomputable def keys_text.st1 (l0 : List UInt8) (s2 : List Int × Int) : Option ((List Int × Int) ⊕ (((Int × Int × (List UInt8)) × Int) ⊕ Unit)) :=
  (if ((decide (((IntKind.i64.wrap (s2.2 + 3))) ≤ ((l0.length : Int))))) = true then chk (0 ≤ s2.2 ∧ s2.2 < (l0.length : Int)) (chk (0 ≤ (IntKind.i64.wrap (s2.2 + 1)) ∧ (IntKind.i64.wrap (s2.2 + 1)) < (l0.length : Int)) (chk (0 ≤ (IntKind.i64.wrap (s2.2 + 2)) ∧ (IntKind.i64.wrap (s2.2 + 2)) < (l0.length : Int)) ((if ((decide (((bitsOf .or .i32 (bitsOf .or .i32 (shlI .i32 (IntKind.i32.wrap ((((l0).getD (s2.2 : Int).toNat default).toNat : Int))) 16) (shlI .i32 (IntKind.i32.wrap ((((l0).getD (IntKind.i64.wrap (s2.2 + 1) : Int).toNat default).toNat : Int))) 8)) (IntKind.i32.wrap ((((l0).getD (IntKind.i64.wrap (s2.2 + 2) : Int).toNat default).toNat : Int))))) = 0))) = true then some (.inr (.inl ((2, 0, ofRunes s2.1), IntKind.i64.wrap (s2.2 + 3)))) else (utf8_ValidRune.impl (IntKind.i32.wrap ((bitsOf .or .i32 (bitsOf .or .i32 (shlI .i32 (IntKind.i32.wrap ((((l0).getD (s2.2 : Int).toNat default).toNat : Int))) 16) (shlI .i32 (IntKind.i32.wrap ((((l0).getD (IntKind.i64.wrap (s2.2 + 1) : Int).toNat default).toNat : Int))) 8)) (IntKind.i32.wrap ((((l0).getD (IntKind.i64.wrap (s2.2 + 2) : Int).toNat default).toNat : Int)))) - 1))).bind fun r1 => (if ((!r1)) = true then some (.inr (.inl ((0, 0, ([] : List UInt8)), 0))) else chk ((s2.1.length + (([(IntKind.i32.wrap ((bitsOf .or .i32 (bitsOf .or .i32 (shlI .i32 (IntKind.i32.wrap ((((l0).getD (s2.2 : Int).toNat default).toNat : Int))) 16) (shlI .i32 (IntKind.i32.wrap ((((l0).getD (IntKind.i64.wrap (s2.2 + 1) : Int).toNat default).toNat : Int))) 8)) (IntKind.i32.wrap ((((l0).getD (IntKind.i64.wrap (s2.2 + 2) : Int).toNat default).toNat : Int)))) - 1))] : List Int)).length) * 4 ≤ 140737488355328) (some (.inl ((s2.1 ++ (([(IntKind.i32.wrap ((bitsOf .or .i32 (bitsOf .or .i32 (shlI .i32 (IntKind.i32.wrap ((((l0).getD (s2.2 : Int).toNat default).toNat : Int))) 16) (shlI .i32 (IntKind.i32.wrap ((((l0).getD (IntKind.i64.wrap (s2.2 + 1) : Int).toNat default).toNat : Int))) 8)) (IntKind.i32.wrap ((((l0).getD (IntKind.i64.wrap (s2.2 + 2) : Int).toNat default).toNat : Int)))) - 1))] : List Int))), IntKind.i64.wrap (s2.2 + 3))))))))) else some (.inr (.inr ())))
noncomputable def keys_text.impl (l0 : List UInt8) : Option ((Int × Int × (List UInt8)) × Int) :=
  (loop (keys_text.st1 l0) (([] : List Int), 1)).bind (fun e1 => match e1 with | .inl v => some v | .inr v => keys_text.k1 v)
set_option maxRecDepth 100000 in
set_option maxHeartbeats 4000000 in
theorem keys_text.c {B : World} {hs : List MP} {w : World} {i0 c0 : Nat} {A0 : Option Addr} {l0 : List UInt8} (hB : Base B) (hS : St B hs w) (h0 : (hs)[i0]? = some (Ro E8 A0 c0 l0)) {r : (Int × Int × (List UInt8)) × Int} (hr : keys_text.impl l0 = some r) :
    Calls Tryd.prog 96 #[.slice A0 l0.length c0] w fun e w' => ∃ x : Unit, e = .returned (.tuple #[.agg #[.int .i64 r.1.1, .int .i64 r.1.2.1, str r.1.2.2], .int .i64 r.2]) ∧ St B hs w' := by
 unfold keys_text.impl at hr
 refine calls_T Tryd.func96 rfl rfl rfl hS ?_
 refine T.front i0 h0 (T.seq (T.region ?_))
 refine T.allocS .list rfl w0 rfl (cs := [.int .i64 0, .int .i64 0, str (([] : List UInt8))]) rfl (fun b1 => ?_)
 refine T.asg rfl rfl rfl rfl (T.nil (T.then_normal (T.seq (T.region (T.asg rfl rfl rfl rfl (T.nil (T.then_normal ?_)))))))
 refine T.seqJ (fun (s1 : Unit) (x1 : Unit) => [(2, .pointer (some ⟨b1, 0, none⟩))]) (fun s1 x1 => Cl b1 64 [.int .i64 0, .int .i64 0, str (([] : List UInt8))] :: hs) (fun s1 => keys_text.k1 s1 = some r) (fun s1 x1 hk1 => ?_) (fun J1 => ?_)
 ·unfold keys_text.k1 at hk1
  refine T.seq (T.region (T.build .list (vals := []) (cells := #[.int .i64 0, .int .i64 0, str (([] : List UInt8))]) rfl w0 rfl rfl (run_buildStruct (sizes := [1, 1, 1]) (by kernel_rfl) (by kernel_rfl)) ?_))
  refine T.store .list 0 rfl rfl w0 rfl rfl rfl rfl (Nat.le_of_ble_eq_true rfl) rfl (cs' := [.int .i64 0, .int .i64 0, str (([] : List UInt8))]) rfl rfl (T.asg rfl rfl rfl rfl (T.nil (T.then_normal (T.ret ?_))))
  obtain rfl := inv_some hk1
  refine T.out2 rfl (OutRun.cellN 0 rfl rfl (vs := [.int .i64 0, .int .i64 0, str (([] : List UInt8))]) rfl rfl) (OutRun.tmp rfl) (fun w hS => ⟨(), rfl, hS.pick [] 1 rfl rfl nla rfl⟩)
 ·refine T.seq (T.region (T.asg rfl rfl rfl rfl (T.nil (T.then_normal (T.block ?_)))))
  obtain ⟨e1, hl1, hr⟩ := inv_bind hr
  refine T.nilBf E32 21 ?_
  refine T.le (EnvLe.cons rfl (EnvLe.cons rfl (EnvLe.cons rfl (EnvLe.cons rfl EnvLe.nil)))) (T.pick [2, 1, 0] 3 rfl rfl nla rfl (T.loop (s0 := (([] : List Int), 1)) (env := fun s2 x2 => [(0, .slice A0 l0.length c0), (2, .pointer (some ⟨b1, 0, none⟩)), (4, .slice x2.1 s2.1.length x2.2), (5, .int .i64 s2.2)]) (hs := fun (s2 : List Int × Int) (x2 : (Option Addr × Nat)) => Ro E8 A0 c0 l0 :: Cl b1 64 [.int .i64 0, .int .i64 0, str (([] : List UInt8))] :: Bf E32 21 x2.1 x2.2 s2.1 :: hs) hl1 (none, 0) (fun K1 s2 x2 o1 he1 hm1 hx1 => ?_)))
  unfold keys_text.st1 at he1
  refine T.seq (T.seq (T.region (T.mv rfl rfl rfl rfl (T.bin .list rfl w0 rfl rfl rfl rfl (T.mv rfl rfl rfl rfl (T.lenSlice .list rfl w0 rfl rfl (T.bin .list rfl w0 rfl rfl rfl rfl (T.nil (T.then_normal ?_)))))))))
  refine T.cond rfl (fun hb1 => ?_) (fun hb1 => ?_)
  ·replace he1 := inv_posB hb1 he1
   refine T.skip (T.then_normal (T.seq (T.block (T.seq (T.plan [(0, 0), (1, 0), (2, 0), (6, 0), (7, 0), (8, 0), (9, 0), (14, 0), (15, 0), (16, 0), (17, 0), (3, 1), (4, 0), (5, 0), (10, 1), (11, 0), (12, 0), (13, 0), (18, 1), (19, 0), (20, 0), (21, 0)] mixed (by kernel_rfl) (by kernel_rfl) rfl (fun d _ _ _ _ h => by cases d <;> exact h) (T.move (.plan rfl) rfl w0 rfl rfl (T.move (.plan rfl) rfl w0 rfl rfl ?_)))))))
   obtain ⟨hc1, he1⟩ := inv_chk he1
   refine T.idxRo (.plan rfl) 0 rfl rfl w0 rfl rfl rfl hc1.1 hc1.2 (Nat.le_refl _) (T.move (.plan rfl) rfl w0 rfl rfl (T.move (.plan rfl) rfl w0 rfl rfl (T.bin (.plan rfl) rfl w0 rfl rfl rfl rfl ?_)))
   obtain ⟨hc2, he1⟩ := inv_chk he1
   refine T.idxRo (.plan rfl) 0 rfl rfl w0 rfl rfl rfl hc2.1 hc2.2 (Nat.le_refl _) (T.move (.plan rfl) rfl w0 rfl rfl (T.move (.plan rfl) rfl w0 rfl rfl (T.bin (.plan rfl) rfl w0 rfl rfl rfl rfl ?_)))
   obtain ⟨hc3, he1⟩ := inv_chk he1
   refine T.idxRo (.plan rfl) 0 rfl rfl w0 rfl rfl rfl hc3.1 hc3.2 (Nat.le_refl _) (T.ldRo1 (.plan rfl) 0 rfl rfl w0 rfl rfl hc1.1 hc1.2 (T.conv (.plan rfl) rfl w0 rfl rfl rfl (T.shl (.plan rfl) rfl w0 rfl rfl rfl (by decide) (T.ldRo1 (.plan rfl) 0 rfl rfl w0 rfl rfl hc2.1 hc2.2 (T.conv (.plan rfl) rfl w0 rfl rfl rfl (T.shl (.plan rfl) rfl w0 rfl rfl rfl (by decide) (T.bin (.plan rfl) rfl w0 rfl rfl rfl rfl (T.ldRo1 (.plan rfl) 0 rfl rfl w0 rfl rfl hc3.1 hc3.2 (T.conv (.plan rfl) rfl w0 rfl rfl rfl (T.bin (.plan rfl) rfl w0 rfl rfl rfl rfl (T.assign (.plan rfl) rfl w0 rfl rfl ?_)))))))))))
   refine T.planEnd (T.then_normal (T.seq (T.seq (T.region (T.mv rfl rfl rfl rfl (T.bin .list rfl w0 rfl rfl rfl rfl (T.nil (T.then_normal ?_))))))))
   refine T.cond rfl (fun hb2 => ?_) (fun hb2 => ?_)
   ·replace he1 := inv_posB hb2 he1
    refine T.seq (T.region (T.mv rfl rfl rfl rfl (T.freeze 2 rfl rfl rfl (T.runesRo .list 2 rfl rfl w0 rfl rfl rfl (T.build .list (vals := [(0, .int .i64 2), (2, str (ofRunes s2.1))]) (cells := #[.int .i64 2, .int .i64 0, str (ofRunes s2.1)]) rfl w0 rfl rfl (run_buildStruct (sizes := [1, 1, 1]) (by kernel_rfl) (by kernel_rfl)) (T.mv rfl rfl rfl rfl (T.bin .list rfl w0 rfl rfl rfl rfl ?_)))))))
    refine T.store .list 1 rfl rfl w0 rfl rfl rfl rfl (Nat.le_of_ble_eq_true rfl) rfl (cs' := [.int .i64 2, .int .i64 0, str (ofRunes s2.1)]) rfl rfl (T.asg rfl rfl rfl rfl (T.nil (T.then_normal (T.ret (T.then_ret (T.in_ret (T.then_ret (T.then_ret ?_))))))))
    obtain rfl := inv_some he1
    obtain rfl := hx1 _ rfl
    refine T.in_ret (T.then_ret ?_)
    obtain rfl := inv_some hr
    refine T.out2 rfl (OutRun.cellN 1 rfl rfl (vs := [.int .i64 2, .int .i64 0, str (ofRunes s2.1)]) rfl rfl) (OutRun.tmp rfl) (fun w hS => ⟨(), rfl, hS.pick [] 3 rfl rfl nla rfl⟩)
   ·replace he1 := inv_negB hb2 he1
    refine T.skip (T.then_normal (T.seq (T.seq (T.region (T.mv rfl rfl rfl rfl (T.bin .list rfl w0 rfl rfl rfl rfl ?_))))))
    obtain ⟨r1, hg1, he1⟩ := inv_bind he1
    refine T.call .list w0 rfl (run_callF (vs := [_]) rfl Tryd.func100 rfl (by decide) rfl) (fun w hS => utf8_ValidRune.c hB hS  hg1) (fun x3 => ?_)
    refine T.not .list rfl w0 rfl rfl (T.nil (T.then_normal ?_))
    refine T.cond rfl (fun hb3 => ?_) (fun hb3 => ?_)
    ·replace he1 := inv_posB hb3 he1
     refine T.seq (T.region (T.build .list (vals := []) (cells := #[.int .i64 0, .int .i64 0, str (([] : List UInt8))]) rfl w0 rfl rfl (run_buildStruct (sizes := [1, 1, 1]) (by kernel_rfl) (by kernel_rfl)) ?_))
     refine T.store .list 1 rfl rfl w0 rfl rfl rfl rfl (Nat.le_of_ble_eq_true rfl) rfl (cs' := [.int .i64 0, .int .i64 0, str (([] : List UInt8))]) rfl rfl (T.asg rfl rfl rfl rfl (T.nil (T.then_normal (T.ret (T.then_ret (T.in_ret (T.then_ret (T.then_ret ?_))))))))
     obtain rfl := inv_some he1
     obtain rfl := hx1 _ rfl
     refine T.in_ret (T.then_ret ?_)
     obtain rfl := inv_some hr
     refine T.out2 rfl (OutRun.cellN 1 rfl rfl (vs := [.int .i64 0, .int .i64 0, str (([] : List UInt8))]) rfl rfl) (OutRun.tmp rfl) (fun w hS => ⟨(), rfl, hS.pick [] 3 rfl rfl nla rfl⟩)
    ·replace he1 := inv_negB hb3 he1
     refine T.skip (T.then_normal (T.region (T.mv rfl rfl rfl rfl (T.mv rfl rfl rfl rfl (T.bin .list rfl w0 rfl rfl rfl rfl ?_)))))
     refine T.lit (E := E32) .list (vals := [(0, .int .i32 (IntKind.i32.wrap ((bitsOf .or .i32 (bitsOf .or .i32 (shlI .i32 (IntKind.i32.wrap ((((l0).getD (s2.2 : Int).toNat default).toNat : Int))) 16) (shlI .i32 (IntKind.i32.wrap ((((l0).getD (IntKind.i64.wrap (s2.2 + 1) : Int).toNat default).toNat : Int))) 8)) (IntKind.i32.wrap ((((l0).getD (IntKind.i64.wrap (s2.2 + 2) : Int).toNat default).toNat : Int)))) - 1)))]) (cells := #[.int .i32 (IntKind.i32.wrap ((bitsOf .or .i32 (bitsOf .or .i32 (shlI .i32 (IntKind.i32.wrap ((((l0).getD (s2.2 : Int).toNat default).toNat : Int))) 16) (shlI .i32 (IntKind.i32.wrap ((((l0).getD (IntKind.i64.wrap (s2.2 + 1) : Int).toNat default).toNat : Int))) 8)) (IntKind.i32.wrap ((((l0).getD (IntKind.i64.wrap (s2.2 + 2) : Int).toNat default).toNat : Int)))) - 1))]) rfl w0 rfl rfl rfl rfl rfl (by kernel_rfl) ([(IntKind.i32.wrap ((bitsOf .or .i32 (bitsOf .or .i32 (shlI .i32 (IntKind.i32.wrap ((((l0).getD (s2.2 : Int).toNat default).toNat : Int))) 16) (shlI .i32 (IntKind.i32.wrap ((((l0).getD (IntKind.i64.wrap (s2.2 + 1) : Int).toNat default).toNat : Int))) 8)) (IntKind.i32.wrap ((((l0).getD (IntKind.i64.wrap (s2.2 + 2) : Int).toNat default).toNat : Int)))) - 1))] : List Int) rfl (fun _ _ _ _ _ => (Encs.c1 (enc := (Value.int .i32)) (h1 := fun _ => rfl) rfl rfl)) (fun b2 => ?_)
     obtain ⟨hc4, he1⟩ := inv_chk he1
     refine T.appBf .list 3 0 rfl rfl rfl rfl rfl w0 rfl rfl rfl rfl rfl rfl hc4 (fun _ _ => rfl) (fun A2 c2 => ?_)
     refine T.asg rfl rfl rfl rfl (T.nil (T.in_normal (T.then_normal (T.region (T.mv rfl rfl rfl rfl (T.bin .list rfl w0 rfl rfl rfl rfl (T.asg rfl rfl rfl rfl (T.nil (T.then_normal ?_)))))))))
     obtain rfl := inv_some he1
     exact T.le (EnvLe.cons rfl (EnvLe.cons rfl (EnvLe.cons rfl (EnvLe.cons rfl EnvLe.nil)))) (T.pick [1, 2, 3] 4 rfl rfl nla rfl (hm1 ((s2.1 ++ (([(IntKind.i32.wrap ((bitsOf .or .i32 (bitsOf .or .i32 (shlI .i32 (IntKind.i32.wrap ((((l0).getD (s2.2 : Int).toNat default).toNat : Int))) 16) (shlI .i32 (IntKind.i32.wrap ((((l0).getD (IntKind.i64.wrap (s2.2 + 1) : Int).toNat default).toNat : Int))) 8)) (IntKind.i32.wrap ((((l0).getD (IntKind.i64.wrap (s2.2 + 2) : Int).toNat default).toNat : Int)))) - 1))] : List Int))), IntKind.i64.wrap (s2.2 + 3)) rfl (A2, c2)))
  ·replace he1 := inv_negB hb1 he1
   refine T.exit (T.then_exit (T.then_exit ?_))
   obtain rfl := inv_some he1
   obtain rfl := hx1 _ rfl
   refine T.in_hit (T.then_normal ?_)
   exact T.le (EnvLe.cons rfl EnvLe.nil) (T.pick [1] 3 rfl rfl nla rfl (J1 () () hr))

noncomputable def keys_one.k1 (s1 : Unit) : Option ((Int × Int × (List UInt8)) × Int) :=
  some ((0, 0, ([] : List UInt8)), 0)
noncomputable def keys_one.k4 (s4 : Int) : Option ((Int × Int × (List UInt8)) × Int) :=
  some ((1, IntKind.i64.wrap (bitsOf .xor .u64 s4 9223372036854775808), ([] : List UInt8)), 9)
noncomputable def keys_one.st1 (l0 : List UInt8) (s5 : Int × Int) : Option ((Int × Int) ⊕ Int) :=
  (if ((decide (s5.2 < (((subl l0 1 9).length : Int))))) = true then chk (0 ≤ s5.2 ∧ s5.2 < ((subl l0 1 9).length : Int)) (some (.inl (bitsOf .or .u64 (shlI .u64 s5.1 8) (IntKind.u64.wrap ((((subl l0 1 9).getD (s5.2 : Int).toNat default).toNat : Int))), IntKind.i64.wrap (s5.2 + 1)))) else some (.inr s5.1))
noncomputable def keys_one.k3 (l0 : List UInt8) (s3 : Bool) : Option ((Int × Int × (List UInt8)) × Int) :=
  (if s3 = true then chk (0 ≤ (1 : Int) ∧ (1 : Int) ≤ (9 : Int) ∧ (9 : Int) ≤ (l0.length : Int)) ((loop (keys_one.st1 l0) (0, 0)).bind (fun e1 => keys_one.k4 e1)) else chk (0 ≤ (0 : Int) ∧ (0 : Int) < (l0.length : Int)) ((if ((decide ((((((l0).getD (0 : Int).toNat default).toNat : Int))) = 3))) = true then (keys_text.impl l0).bind fun r1 => some r1 else keys_one.k1 ())))
noncomputable def keys_one.k2 (l0 : List UInt8) (s2 : Bool) : Option ((Int × Int × (List UInt8)) × Int) :=
  (if s2 = true then chk (0 ≤ (1 : Int) ∧ (1 : Int) < (l0.length : Int)) (some ((3, IntKind.i64.wrap ((((l0).getD (1 : Int).toNat default).toNat : Int)), ([] : List UInt8)), 2)) else chk (0 ≤ (0 : Int) ∧ (0 : Int) < (l0.length : Int)) ((if ((decide ((((((l0).getD (0 : Int).toNat default).toNat : Int))) = 2))) = true then keys_one.k3 l0 (decide ((9 : Int) ≤ ((l0.length : Int)))) else keys_one.k3 l0 false)))
noncomputable def keys_one.impl (l0 : List UInt8) : Option ((Int × Int × (List UInt8)) × Int) :=
  chk (0 ≤ (0 : Int) ∧ (0 : Int) < (l0.length : Int)) ((if ((decide ((((((l0).getD (0 : Int).toNat default).toNat : Int))) = 1))) = true then some ((0, 0, ([] : List UInt8)), 1) else chk (0 ≤ (0 : Int) ∧ (0 : Int) < (l0.length : Int)) ((if ((decide ((((((l0).getD (0 : Int).toNat default).toNat : Int))) = 4))) = true then (if ((decide ((2 : Int) ≤ ((l0.length : Int))))) = true then chk (0 ≤ (1 : Int) ∧ (1 : Int) < (l0.length : Int)) (keys_one.k2 l0 (decide ((((((l0).getD (1 : Int).toNat default).toNat : Int))) ≤ 1))) else keys_one.k2 l0 false) else keys_one.k2 l0 false))))
set_option maxRecDepth 100000 in
set_option maxHeartbeats 4000000 in
theorem keys_one.c {B : World} {hs : List MP} {w : World} {i0 c0 : Nat} {A0 : Option Addr} {l0 : List UInt8} (hB : Base B) (hS : St B hs w) (h0 : (hs)[i0]? = some (Ro E8 A0 c0 l0)) {r : (Int × Int × (List UInt8)) × Int} (hr : keys_one.impl l0 = some r) :
    Calls Tryd.prog 83 #[.slice A0 l0.length c0] w fun e w' => ∃ x : Unit, e = .returned (.tuple #[.agg #[.int .i64 r.1.1, .int .i64 r.1.2.1, str r.1.2.2], .int .i64 r.2]) ∧ St B hs w' := by
 unfold keys_one.impl at hr
 refine calls_T Tryd.func83 rfl rfl rfl hS ?_
 refine T.front i0 h0 (T.seq (T.region ?_))
 refine T.allocS .list rfl w0 rfl (cs := [.int .i64 0, .int .i64 0, str (([] : List UInt8))]) rfl (fun b1 => ?_)
 refine T.asg rfl rfl rfl rfl (T.nil (T.then_normal ?_))
 refine T.seqJ (fun (s1 : Unit) (x1 : Unit) => [(2, .pointer (some ⟨b1, 0, none⟩))]) (fun s1 x1 => Cl b1 64 [.int .i64 0, .int .i64 0, str (([] : List UInt8))] :: hs) (fun s1 => keys_one.k1 s1 = some r) (fun s1 x1 hk1 => ?_) (fun J1 => ?_)
 ·unfold keys_one.k1 at hk1
  refine T.seq (T.region (T.build .list (vals := []) (cells := #[.int .i64 0, .int .i64 0, str (([] : List UInt8))]) rfl w0 rfl rfl (run_buildStruct (sizes := [1, 1, 1]) (by kernel_rfl) (by kernel_rfl)) ?_))
  refine T.store .list 0 rfl rfl w0 rfl rfl rfl rfl (Nat.le_of_ble_eq_true rfl) rfl (cs' := [.int .i64 0, .int .i64 0, str (([] : List UInt8))]) rfl rfl (T.asg rfl rfl rfl rfl (T.nil (T.then_normal (T.ret ?_))))
  obtain rfl := inv_some hk1
  refine T.out2 rfl (OutRun.cellN 0 rfl rfl (vs := [.int .i64 0, .int .i64 0, str (([] : List UInt8))]) rfl rfl) (OutRun.tmp rfl) (fun w hS => ⟨(), rfl, hS.pick [] 1 rfl rfl nla rfl⟩)
 ·refine T.block (T.seq (T.region (T.mv rfl rfl rfl rfl ?_)))
  obtain ⟨hc1, hr⟩ := inv_chk hr
  refine T.idxRo .list 1 rfl rfl w0 rfl rfl rfl hc1.1 hc1.2 (Nat.le_refl _) (T.ldRo1 .list 1 rfl rfl w0 rfl rfl hc1.1 hc1.2 (T.bin .list rfl w0 rfl rfl rfl rfl (T.asg rfl rfl rfl rfl (T.nil (T.then_normal ?_)))))
  refine T.cond rfl (fun hb1 => ?_) (fun hb1 => ?_)
  ·replace hr := inv_posB hb1 hr
   refine T.seq (T.region (T.build .list (vals := []) (cells := #[.int .i64 0, .int .i64 0, str (([] : List UInt8))]) rfl w0 rfl rfl (run_buildStruct (sizes := [1, 1, 1]) (by kernel_rfl) (by kernel_rfl)) ?_))
   refine T.store .list 0 rfl rfl w0 rfl rfl rfl rfl (Nat.le_of_ble_eq_true rfl) rfl (cs' := [.int .i64 0, .int .i64 0, str (([] : List UInt8))]) rfl rfl (T.asg rfl rfl rfl rfl (T.nil (T.then_normal (T.ret (T.in_ret (T.then_ret ?_))))))
   obtain rfl := inv_some hr
   refine T.out2 rfl (OutRun.cellN 0 rfl rfl (vs := [.int .i64 0, .int .i64 0, str (([] : List UInt8))]) rfl rfl) (OutRun.tmp rfl) (fun w hS => ⟨(), rfl, hS.pick [] 2 rfl rfl nla rfl⟩)
  ·replace hr := inv_negB hb1 hr
   refine T.seqJ (fun (s2 : Bool) (x2 : Unit) => [(0, .slice A0 l0.length c0), (2, .pointer (some ⟨b1, 0, none⟩)), (13, .bool s2)]) (fun s2 x2 => Ro E8 A0 c0 l0 :: Cl b1 64 [.int .i64 0, .int .i64 0, str (([] : List UInt8))] :: hs) (fun s2 => keys_one.k2 l0 s2 = some r) (fun s2 x2 hk2 => ?_) (fun J2 => ?_)
   ·unfold keys_one.k2 at hk2
    refine T.cond rfl (fun hb2 => ?_) (fun hb2 => ?_)
    ·replace hk2 := inv_posB hb2 hk2
     refine T.seq (T.region (T.mv rfl rfl rfl rfl ?_))
     obtain ⟨hc2, hk2⟩ := inv_chk hk2
     refine T.idxRo .list 0 rfl rfl w0 rfl rfl rfl hc2.1 hc2.2 (Nat.le_refl _) (T.ldRo1 .list 0 rfl rfl w0 rfl rfl hc2.1 hc2.2 (T.conv .list rfl w0 rfl rfl rfl (T.build .list (vals := [(0, .int .i64 3), (1, .int .i64 (IntKind.i64.wrap ((((l0).getD (1 : Int).toNat default).toNat : Int))))]) (cells := #[.int .i64 3, .int .i64 (IntKind.i64.wrap ((((l0).getD (1 : Int).toNat default).toNat : Int))), str (([] : List UInt8))]) rfl w0 rfl rfl (run_buildStruct (sizes := [1, 1, 1]) (by kernel_rfl) (by kernel_rfl)) ?_)))
     refine T.store .list 1 rfl rfl w0 rfl rfl rfl rfl (Nat.le_of_ble_eq_true rfl) rfl (cs' := [.int .i64 3, .int .i64 (IntKind.i64.wrap ((((l0).getD (1 : Int).toNat default).toNat : Int))), str (([] : List UInt8))]) rfl rfl (T.asg rfl rfl rfl rfl (T.nil (T.then_normal (T.ret (T.in_ret (T.then_ret ?_))))))
     obtain rfl := inv_some hk2
     refine T.out2 rfl (OutRun.cellN 1 rfl rfl (vs := [.int .i64 3, .int .i64 (IntKind.i64.wrap ((((l0).getD (1 : Int).toNat default).toNat : Int))), str (([] : List UInt8))]) rfl rfl) (OutRun.tmp rfl) (fun w hS => ⟨(), rfl, hS.pick [] 2 rfl rfl nla rfl⟩)
    ·replace hk2 := inv_negB hb2 hk2
     refine T.seqJ (fun (s3 : Bool) (x3 : Unit) => [(0, .slice A0 l0.length c0), (2, .pointer (some ⟨b1, 0, none⟩)), (34, .bool s3)]) (fun s3 x3 => Ro E8 A0 c0 l0 :: Cl b1 64 [.int .i64 0, .int .i64 0, str (([] : List UInt8))] :: hs) (fun s3 => keys_one.k3 l0 s3 = some r) (fun s3 x3 hk3 => ?_) (fun J3 => ?_)
     ·unfold keys_one.k3 at hk3
      refine T.cond rfl (fun hb3 => ?_) (fun hb3 => ?_)
      ·replace hk3 := inv_posB hb3 hk3
       refine T.seq (T.region (T.asg rfl rfl rfl rfl (T.nil (T.then_normal ?_))))
       refine T.seqJ (fun (s4 : Int) (x4 : Unit) => [(2, .pointer (some ⟨b1, 0, none⟩)), (4, .int .u64 s4)]) (fun s4 x4 => Cl b1 64 [.int .i64 0, .int .i64 0, str (([] : List UInt8))] :: hs) (fun s4 => keys_one.k4 s4 = some r) (fun s4 x4 hk4 => ?_) (fun J4 => ?_)
       ·unfold keys_one.k4 at hk4
        refine T.seq (T.region (T.mv rfl rfl rfl rfl (T.bin .list rfl w0 rfl rfl rfl rfl (T.conv .list rfl w0 rfl rfl rfl (T.build .list (vals := [(0, .int .i64 1), (1, .int .i64 (IntKind.i64.wrap (bitsOf .xor .u64 s4 9223372036854775808)))]) (cells := #[.int .i64 1, .int .i64 (IntKind.i64.wrap (bitsOf .xor .u64 s4 9223372036854775808)), str (([] : List UInt8))]) rfl w0 rfl rfl (run_buildStruct (sizes := [1, 1, 1]) (by kernel_rfl) (by kernel_rfl)) ?_)))))
        refine T.store .list 0 rfl rfl w0 rfl rfl rfl rfl (Nat.le_of_ble_eq_true rfl) rfl (cs' := [.int .i64 1, .int .i64 (IntKind.i64.wrap (bitsOf .xor .u64 s4 9223372036854775808)), str (([] : List UInt8))]) rfl rfl (T.asg rfl rfl rfl rfl (T.nil (T.then_normal (T.ret (T.in_ret (T.then_ret ?_))))))
        obtain rfl := inv_some hk4
        refine T.out2 rfl (OutRun.cellN 0 rfl rfl (vs := [.int .i64 1, .int .i64 (IntKind.i64.wrap (bitsOf .xor .u64 s4 9223372036854775808)), str (([] : List UInt8))]) rfl rfl) (OutRun.tmp rfl) (fun w hS => ⟨(), rfl, hS.pick [] 1 rfl rfl nla rfl⟩)
       ·refine T.seq (T.region (T.mv rfl rfl rfl rfl ?_))
        obtain ⟨hc3, hk3⟩ := inv_chk hk3
        refine T.cut .list 0 rfl rfl rfl w0 rfl rfl (.inr ⟨_, _, rfl, rfl⟩) (.inr ⟨_, _, rfl, rfl⟩) hc3.1 hc3.2.1 hc3.2.2 (T.lenSlice .list rfl w0 rfl rfl (T.mv rfl rfl rfl rfl (T.nil (T.then_normal (T.block ?_)))))
        obtain ⟨e1, hl1, hk3⟩ := inv_bind hk3
        refine T.le (EnvLe.cons rfl (EnvLe.cons rfl (EnvLe.cons rfl (EnvLe.cons rfl (EnvLe.cons rfl EnvLe.nil))))) (T.pick [2, 0] 3 rfl rfl nla rfl (T.loop (s0 := (0, 0)) (env := fun s5 x5 => [(2, .pointer (some ⟨b1, 0, none⟩)), (4, .int .u64 s5.1), (45, .slice ((cutA A0 c0 (1 : Int) 1)) ((subl l0 1 9).length) ((c0 - (1 : Int).toNat))), (46, .int .i64 (((subl l0 1 9).length : Int))), (47, .int .i64 s5.2)]) (hs := fun (s5 : Int × Int) (x5 : Unit) => Cl b1 64 [.int .i64 0, .int .i64 0, str (([] : List UInt8))] :: Ro E8 ((cutA A0 c0 (1 : Int) 1)) ((c0 - (1 : Int).toNat)) (subl l0 1 9) :: hs) hl1 () (fun K1 s5 x5 o1 he1 hm1 hx1 => ?_)))
        unfold keys_one.st1 at he1
        refine T.seq (T.region (T.bin .list rfl w0 rfl rfl rfl rfl (T.nil (T.then_normal (T.seq ?_)))))
        refine T.cond rfl (fun hb4 => ?_) (fun hb4 => ?_)
        ·replace he1 := inv_posB hb4 he1
         refine T.skip (T.then_normal (T.seq (T.block (T.seq (T.region ?_)))))
         obtain ⟨hc4, he1⟩ := inv_chk he1
         refine T.idxRo .list 1 rfl rfl w0 rfl rfl rfl hc4.1 hc4.2 (Nat.le_refl _) (T.ldRo1 .list 1 rfl rfl w0 rfl rfl hc4.1 hc4.2 (T.asg rfl rfl rfl rfl (T.nil (T.then_normal (T.region (T.mv rfl rfl rfl rfl (T.shl .list rfl w0 rfl rfl rfl (by decide) (T.mv rfl rfl rfl rfl (T.conv .list rfl w0 rfl rfl rfl (T.bin .list rfl w0 rfl rfl rfl rfl (T.asg rfl rfl rfl rfl ?_)))))))))))
         refine T.nil (T.in_normal (T.then_normal (T.region (T.bin .list rfl w0 rfl rfl rfl rfl (T.mv rfl rfl rfl rfl (T.nil (T.then_normal ?_)))))))
         obtain rfl := inv_some he1
         exact T.le (EnvLe.cons rfl (EnvLe.cons rfl (EnvLe.cons rfl (EnvLe.cons rfl (EnvLe.cons rfl EnvLe.nil))))) (T.pick [0, 1] 2 rfl rfl nla rfl (hm1 (bitsOf .or .u64 (shlI .u64 s5.1 8) (IntKind.u64.wrap ((((subl l0 1 9).getD (s5.2 : Int).toNat default).toNat : Int))), IntKind.i64.wrap (s5.2 + 1)) rfl ()))
        ·replace he1 := inv_negB hb4 he1
         refine T.exit (T.then_exit (T.then_exit ?_))
         obtain rfl := inv_some he1
         obtain rfl := hx1 _ rfl
         refine T.in_hit (T.then_normal ?_)
         exact T.le (EnvLe.cons rfl (EnvLe.cons rfl EnvLe.nil)) (T.pick [0] 2 rfl rfl nla rfl (J4 s5.1 () hk3))
      ·replace hk3 := inv_negB hb3 hk3
       refine T.seq (T.region (T.mv rfl rfl rfl rfl ?_))
       obtain ⟨hc5, hk3⟩ := inv_chk hk3
       refine T.idxRo .list 0 rfl rfl w0 rfl rfl rfl hc5.1 hc5.2 (Nat.le_refl _) (T.ldRo1 .list 0 rfl rfl w0 rfl rfl hc5.1 hc5.2 (T.bin .list rfl w0 rfl rfl rfl rfl (T.asg rfl rfl rfl rfl (T.nil (T.then_normal ?_)))))
       refine T.cond rfl (fun hb5 => ?_) (fun hb5 => ?_)
       ·replace hk3 := inv_posB hb5 hk3
        refine T.seq (T.region (T.mv rfl rfl rfl rfl ?_))
        obtain ⟨r1, hg1, hk3⟩ := inv_bind hk3
        refine T.call .list w0 rfl (run_callF (vs := [_]) rfl Tryd.func96 rfl (by decide) rfl) (fun w hS => keys_text.c hB hS (i0 := 0) rfl hg1) (fun x6 => ?_)
        refine T.extract .list rfl w0 rfl rfl rfl (T.extract .list rfl w0 rfl rfl rfl ?_)
        refine T.store .list 1 rfl rfl w0 rfl rfl rfl rfl (Nat.le_of_ble_eq_true rfl) rfl (cs' := [.int .i64 r1.1.1, .int .i64 r1.1.2.1, str r1.1.2.2]) rfl rfl (T.asg rfl rfl rfl rfl (T.nil (T.then_normal (T.ret (T.in_ret (T.then_ret ?_))))))
        obtain rfl := inv_some hk3
        refine T.out2 rfl (OutRun.cellN 1 rfl rfl (vs := [.int .i64 r1.1.1, .int .i64 r1.1.2.1, str r1.1.2.2]) rfl rfl) (OutRun.tmp rfl) (fun w hS => ⟨(), rfl, hS.pick [] 2 rfl rfl nla rfl⟩)
       ·replace hk3 := inv_negB hb5 hk3
        refine T.skip (T.in_normal (T.then_normal ?_))
        exact T.le (EnvLe.cons rfl EnvLe.nil) (T.pick [1] 2 rfl rfl nla rfl (J1 () () hk3))
     ·refine T.region (T.mv rfl rfl rfl rfl ?_)
      obtain ⟨hc6, hk2⟩ := inv_chk hk2
      refine T.idxRo .list 0 rfl rfl w0 rfl rfl rfl hc6.1 hc6.2 (Nat.le_refl _) (T.ldRo1 .list 0 rfl rfl w0 rfl rfl hc6.1 hc6.2 (T.bin .list rfl w0 rfl rfl rfl rfl (T.mv rfl rfl rfl rfl ?_)))
      refine T.bool (b := (decide ((((((l0).getD (0 : Int).toNat default).toNat : Int))) = 2))) (fun hb6 => ?_) (fun hb6 => ?_)
      ·replace hk2 := inv_posB hb6 hk2
       refine T.move .list rfl (wants1 rfl rfl rfl hb6) rfl rfl (T.lenSlice .list rfl (wants1 rfl rfl rfl hb6) rfl rfl (T.bin .list rfl (wants1 rfl rfl rfl hb6) rfl rfl rfl rfl (T.pickT .list rfl w0 rfl rfl hb6 rfl (T.asg rfl rfl rfl rfl (T.nil (T.then_normal ?_))))))
       exact T.le (EnvLe.cons rfl (EnvLe.cons rfl (EnvLe.cons rfl EnvLe.nil))) (T.pick [0, 1] 2 rfl rfl nla rfl (J3 (decide ((9 : Int) ≤ ((l0.length : Int)))) () hk2))
      ·replace hk2 := inv_negB hb6 hk2
       refine T.lv rfl rfl rfl hb6 rfl (T.lv rfl rfl rfl hb6 rfl (T.lv rfl rfl rfl hb6 rfl (T.pickF .list rfl w0 rfl rfl hb6 rfl (T.asg rfl rfl rfl rfl (T.nil (T.then_normal ?_))))))
       exact T.le (EnvLe.cons rfl (EnvLe.cons rfl (EnvLe.cons rfl EnvLe.nil))) (T.pick [0, 1] 2 rfl rfl nla rfl (J3 false () hk2))
   ·refine T.region (T.mv rfl rfl rfl rfl ?_)
    obtain ⟨hc7, hr⟩ := inv_chk hr
    refine T.idxRo .list 1 rfl rfl w0 rfl rfl rfl hc7.1 hc7.2 (Nat.le_refl _) (T.ldRo1 .list 1 rfl rfl w0 rfl rfl hc7.1 hc7.2 (T.bin .list rfl w0 rfl rfl rfl rfl (T.mv rfl rfl rfl rfl ?_)))
    refine T.bool (b := (decide ((((((l0).getD (0 : Int).toNat default).toNat : Int))) = 4))) (fun hb7 => ?_) (fun hb7 => ?_)
    ·replace hr := inv_posB hb7 hr
     refine T.move .list rfl (wants1 rfl rfl rfl hb7) rfl rfl (T.lenSlice .list rfl (wants1 rfl rfl rfl hb7) rfl rfl (T.bin .list rfl (wants1 rfl rfl rfl hb7) rfl rfl rfl rfl (T.pickT .list rfl w0 rfl rfl hb7 rfl (T.mv rfl rfl rfl rfl ?_))))
     refine T.bool (b := (decide ((2 : Int) ≤ ((l0.length : Int))))) (fun hb8 => ?_) (fun hb8 => ?_)
     ·replace hr := inv_posB hb8 hr
      refine T.move .list rfl (wants1 rfl rfl rfl hb8) rfl rfl ?_
      obtain ⟨hc8, hr⟩ := inv_chk hr
      refine T.idxRo .list 1 rfl rfl (wants1 rfl rfl rfl hb8) rfl rfl rfl hc8.1 hc8.2 (Nat.le_refl _) (T.ldRo1 .list 1 rfl rfl (wants1 rfl rfl rfl hb8) rfl rfl hc8.1 hc8.2 (T.bin .list rfl (wants1 rfl rfl rfl hb8) rfl rfl rfl rfl (T.pickT .list rfl w0 rfl rfl hb8 rfl (T.asg rfl rfl rfl rfl (T.nil (T.then_normal ?_))))))
      exact T.le (EnvLe.cons rfl (EnvLe.cons rfl (EnvLe.cons rfl EnvLe.nil))) (T.pick [1, 0] 2 rfl rfl nla rfl (J2 (decide ((((((l0).getD (1 : Int).toNat default).toNat : Int))) ≤ 1)) () hr))
     ·replace hr := inv_negB hb8 hr
      refine T.lv rfl rfl rfl hb8 rfl (T.lv rfl rfl rfl hb8 rfl (T.lv rfl rfl rfl hb8 rfl (T.lv rfl rfl rfl hb8 rfl (T.pickF .list rfl w0 rfl rfl hb8 rfl (T.asg rfl rfl rfl rfl (T.nil (T.then_normal ?_)))))))
      exact T.le (EnvLe.cons rfl (EnvLe.cons rfl (EnvLe.cons rfl EnvLe.nil))) (T.pick [1, 0] 2 rfl rfl nla rfl (J2 false () hr))
    ·replace hr := inv_negB hb7 hr
     refine T.lv rfl rfl rfl hb7 rfl (T.lv rfl rfl rfl hb7 rfl (T.lv rfl rfl rfl hb7 rfl (T.pickF .list rfl w0 rfl rfl hb7 rfl (T.mv rfl rfl rfl rfl (T.lv rfl rfl rfl rfl rfl (T.lv rfl rfl rfl rfl rfl (T.lv rfl rfl rfl rfl rfl (T.lv rfl rfl rfl rfl rfl (T.pickF .list rfl w0 rfl rfl rfl rfl (T.asg rfl rfl rfl rfl (T.nil ?_)))))))))))
     refine T.then_normal ?_
     exact T.le (EnvLe.cons rfl (EnvLe.cons rfl (EnvLe.cons rfl EnvLe.nil))) (T.pick [1, 0] 2 rfl rfl nla rfl (J2 false () hr))

noncomputable def keys_Key.k1 (s1 : List UInt8) : Option (List UInt8 × Int) :=
  some (s1, 0)
noncomputable def keys_Key.k4 (r2 : Dy) (s2 : List UInt8 × Int) (s5 : List UInt8) : Option ((List UInt8 × Int) ⊕ ((List UInt8 × Int) ⊕ (List UInt8))) :=
  (if r2.isStr = true then chk ((s5.length + (([(3 : UInt8)] : List UInt8)).length) * 1 ≤ 140737488355328) ((keys_runes.impl r2.asStr).bind fun r3 => chk ((((s5 ++ (([(3 : UInt8)] : List UInt8)))).length + r3.length) * 1 ≤ 140737488355328) (some (.inl ((((s5 ++ (([(3 : UInt8)] : List UInt8)))) ++ r3), IntKind.i64.wrap (s2.2 + 1))))) else some (.inl (s5, IntKind.i64.wrap (s2.2 + 1))))
noncomputable def keys_Key.k3 (r2 : Dy) (s2 : List UInt8 × Int) (s4 : List UInt8) : Option ((List UInt8 × Int) ⊕ ((List UInt8 × Int) ⊕ (List UInt8))) :=
  (if r2.isInt = true then chk ((s4.length + (([(2 : UInt8)] : List UInt8)).length) * 1 ≤ 140737488355328) ((keys_eight.impl (bitsOf .xor .u64 (IntKind.u64.wrap r2.asInt) 9223372036854775808)).bind fun r4 => chk ((((s4 ++ (([(2 : UInt8)] : List UInt8)))).length + r4.length) * 1 ≤ 140737488355328) (keys_Key.k4 r2 s2 (((s4 ++ (([(2 : UInt8)] : List UInt8)))) ++ r4))) else keys_Key.k4 r2 s2 s4)
noncomputable def keys_Key.k2 (r2 : Dy) (l0 : List (Int × Int × (List UInt8))) (s2 : List UInt8 × Int) (s3 : List UInt8) : Option ((List UInt8 × Int) ⊕ ((List UInt8 × Int) ⊕ (List UInt8))) :=
  (if r2.isBool = true then chk ((s3.length + (([(4 : UInt8), (u8 (IntKind.u8.wrap (((((l0).getD (s2.2 : Int).toNat default)).2.1))))] : List UInt8)).length) * 1 ≤ 140737488355328) (keys_Key.k3 r2 s2 (s3 ++ (([(4 : UInt8), (u8 (IntKind.u8.wrap (((((l0).getD (s2.2 : Int).toNat default)).2.1))))] : List UInt8)))) else keys_Key.k3 r2 s2 s3)
noncomputable def keys_Key.st1 (l0 : List (Int × Int × (List UInt8))) (s2 : List UInt8 × Int) : Option ((List UInt8 × Int) ⊕ ((List UInt8 × Int) ⊕ (List UInt8))) :=
  (if ((decide (s2.2 < ((l0.length : Int))))) = true then chk (0 ≤ s2.2 ∧ s2.2 < (l0.length : Int)) ((keys_Right.impl ((((((l0).getD (s2.2 : Int).toNat default)).1), ((((l0).getD (s2.2 : Int).toNat default)).2.1), ((((l0).getD (s2.2 : Int).toNat default)).2.2)))).bind fun r1 => (if ((!(decide (r1 = 0)))) = true then some (.inr (.inl (([] : List UInt8), r1))) else (keys_inside.impl ((((((l0).getD (s2.2 : Int).toNat default)).1), ((((l0).getD (s2.2 : Int).toNat default)).2.1), ((((l0).getD (s2.2 : Int).toNat default)).2.2)))).bind fun r2 => (if r2.isUnit = true then chk ((s2.1.length + (([(1 : UInt8)] : List UInt8)).length) * 1 ≤ 140737488355328) (keys_Key.k2 r2 l0 s2 (s2.1 ++ (([(1 : UInt8)] : List UInt8)))) else keys_Key.k2 r2 l0 s2 s2.1))) else some (.inr (.inr s2.1)))
noncomputable def keys_Key.impl (l0 : List (Int × Int × (List UInt8))) : Option (List UInt8 × Int) :=
  (loop (keys_Key.st1 l0) (([] : List UInt8), 0)).bind (fun e1 => match e1 with | .inl v => some v | .inr v => keys_Key.k1 v)
set_option maxRecDepth 100000 in
set_option maxHeartbeats 4000000 in
theorem keys_Key.c {B : World} {hs : List MP} {w : World} {i0 c0 : Nat} {A0 : Option Addr} {l0 : List (Int × Int × (List UInt8))} (hB : Base B) (hS : St B hs w) (h0 : (hs)[i0]? = some (Ro (Elt.pair E64 (Elt.pair E64 EStr)) A0 c0 l0)) {r : List UInt8 × Int} (hr : keys_Key.impl l0 = some r) :
    Calls Tryd.prog 43 #[.slice A0 l0.length c0] w fun e w' => ∃ x : (Option Addr × Nat), e = .returned (.tuple #[.slice x.1 r.1.length x.2, .int .i64 r.2]) ∧ St B (Bf E8 5 x.1 x.2 r.1 :: hs) w' := by
 unfold keys_Key.impl at hr
 refine calls_T Tryd.func43 rfl rfl rfl hS ?_
 refine T.front i0 h0 (T.seq (T.region (T.asg rfl rfl rfl rfl (T.asg rfl rfl rfl rfl (T.nil (T.then_normal (T.seq (T.region (T.asg rfl rfl rfl rfl (T.nil (T.then_normal ?_)))))))))))
 refine T.seqJ (fun (s1 : List UInt8) (x1 : (Option Addr × Nat)) => [(4, .slice x1.1 s1.length x1.2)]) (fun s1 x1 => Bf E8 5 x1.1 x1.2 s1 :: hs) (fun s1 => keys_Key.k1 s1 = some r) (fun s1 x1 hk1 => ?_) (fun J1 => ?_)
 ·unfold keys_Key.k1 at hk1
  refine T.seq (T.region (T.mv rfl rfl rfl rfl (T.asg rfl rfl rfl rfl (T.asg rfl rfl rfl rfl (T.nil (T.then_normal (T.ret ?_)))))))
  obtain rfl := inv_some hk1
  refine T.pick [0] 1 rfl rfl nla rfl ?_
  refine T.ret2 rfl rfl rfl (fun w hS => ⟨x1, rfl, hS⟩)
 ·refine T.seq (T.region (T.mv rfl rfl rfl rfl (T.lenSlice .list rfl w0 rfl rfl (T.mv rfl rfl rfl rfl (T.nil (T.then_normal (T.block ?_)))))))
  obtain ⟨e1, hl1, hr⟩ := inv_bind hr
  refine T.nilBf E8 5 ?_
  refine T.le (EnvLe.cons rfl (EnvLe.cons rfl (EnvLe.cons rfl (EnvLe.cons rfl EnvLe.nil)))) (T.pick [0, 1] 2 rfl rfl nla rfl (T.loop (s0 := (([] : List UInt8), 0)) (env := fun s2 x2 => [(4, .slice x2.1 s2.1.length x2.2), (17, .slice A0 l0.length c0), (18, .int .i64 ((l0.length : Int))), (19, .int .i64 s2.2)]) (hs := fun (s2 : List UInt8 × Int) (x2 : (Option Addr × Nat)) => Bf E8 5 x2.1 x2.2 s2.1 :: Ro (Elt.pair E64 (Elt.pair E64 EStr)) A0 c0 l0 :: hs) hl1 (none, 0) (fun K1 s2 x2 o1 he1 hm1 hx1 => ?_)))
  unfold keys_Key.st1 at he1
  refine T.seq (T.region (T.bin .list rfl w0 rfl rfl rfl rfl (T.nil (T.then_normal (T.seq ?_)))))
  refine T.cond rfl (fun hb1 => ?_) (fun hb1 => ?_)
  ·replace he1 := inv_posB hb1 he1
   refine T.skip (T.then_normal (T.seq (T.block (T.seq (T.region ?_)))))
   obtain ⟨hc1, he1⟩ := inv_chk he1
   refine T.idxRo .list 1 rfl rfl w0 rfl rfl rfl hc1.1 hc1.2 (Nat.le_refl _) ?_
   refine T.ldFRo 1 .list Fd.self (Sh.pair Sh.sc (Sh.pair Sh.sc Sh.sc)) rfl (.inl rfl) rfl rfl hc1.1 hc1.2 rfl w0 rfl rfl rfl (v := fun x3 => .agg #[.int .i64 (((((l0).getD (s2.2 : Int).toNat default)).1)), .int .i64 (((((l0).getD (s2.2 : Int).toNat default)).2.1)), str (((((l0).getD (s2.2 : Int).toNat default)).2.2))]) (hs' := fun x3 => Bf E8 5 x2.1 x2.2 s2.1 :: Ro (Elt.pair E64 (Elt.pair E64 EStr)) A0 c0 l0 :: hs) (fun _ => rfl) (fun _ => rfl) (fun x3 => ?_)
   refine T.allocS .list rfl w0 rfl (cs := [.int .i64 0, .int .i64 0, str (([] : List UInt8))]) rfl (fun b1 => ?_)
   refine T.store .list 0 rfl rfl w0 rfl rfl rfl rfl (Nat.le_of_ble_eq_true rfl) rfl (cs' := [.int .i64 (((((l0).getD (s2.2 : Int).toNat default)).1)), .int .i64 (((((l0).getD (s2.2 : Int).toNat default)).2.1)), str (((((l0).getD (s2.2 : Int).toNat default)).2.2))]) rfl rfl (T.nil (T.then_normal (T.seq (T.seq (T.region (T.loadN .list 0 rfl rfl w0 rfl rfl (vs := [.int .i64 (((((l0).getD (s2.2 : Int).toNat default)).1)), .int .i64 (((((l0).getD (s2.2 : Int).toNat default)).2.1)), str (((((l0).getD (s2.2 : Int).toNat default)).2.2))]) rfl rfl ?_))))))
   obtain ⟨r1, hg1, he1⟩ := inv_bind he1
   refine T.call .list w0 rfl (run_callF (vs := [_]) rfl Tryd.func61 rfl (by decide) rfl) (fun w hS => keys_Right.c hB hS (a0 := (((((l0).getD (s2.2 : Int).toNat default)).1), ((((l0).getD (s2.2 : Int).toNat default)).2.1), ((((l0).getD (s2.2 : Int).toNat default)).2.2)))  hg1) (fun x4 => ?_)
   refine T.asg rfl rfl rfl rfl (T.nil (T.then_normal (T.seq (T.region (T.mv rfl rfl rfl rfl (T.bin .list rfl w0 rfl rfl rfl rfl (T.nil (T.then_normal ?_))))))))
   refine T.cond rfl (fun hb2 => ?_) (fun hb2 => ?_)
   ·replace he1 := inv_posB hb2 he1
    refine T.seq (T.region (T.mv rfl rfl rfl rfl (T.asg rfl rfl rfl rfl (T.asg rfl rfl rfl rfl (T.nil (T.then_normal (T.ret (T.then_ret (T.in_ret (T.then_ret (T.then_ret ?_)))))))))))
    obtain rfl := inv_some he1
    obtain rfl := hx1 _ rfl
    refine T.in_ret (T.then_ret ?_)
    obtain rfl := inv_some hr
    refine T.nilBf E8 5 (T.pick [0] 4 rfl rfl nla rfl ?_)
    refine T.ret2 rfl rfl rfl (fun w hS => ⟨(none, 0), rfl, hS⟩)
   ·replace he1 := inv_negB hb2 he1
    refine T.skip (T.then_normal (T.seq (T.region (T.loadN .list 0 rfl rfl w0 rfl rfl (vs := [.int .i64 (((((l0).getD (s2.2 : Int).toNat default)).1)), .int .i64 (((((l0).getD (s2.2 : Int).toNat default)).2.1)), str (((((l0).getD (s2.2 : Int).toNat default)).2.2))]) rfl rfl ?_))))
    obtain ⟨r2, hg2, he1⟩ := inv_bind he1
    refine T.call .list w0 rfl (run_callF (vs := [_]) rfl Tryd.func62 rfl (by decide) rfl) (fun w hS => keys_inside.c hB hS (a0 := (((((l0).getD (s2.2 : Int).toNat default)).1), ((((l0).getD (s2.2 : Int).toNat default)).2.1), ((((l0).getD (s2.2 : Int).toNat default)).2.2)))  hg2) (fun x5 => ?_)
    refine T.asg rfl rfl rfl rfl (T.nil (T.then_normal ?_))
    refine T.seqJ (fun (s3 : List UInt8) (x6 : (Option Addr × Nat)) => [(4, .slice x6.1 s3.length x6.2), (6, .pointer (some ⟨b1, 0, none⟩)), (8, Dy.val dyT r2), (17, .slice A0 l0.length c0), (18, .int .i64 ((l0.length : Int))), (19, .int .i64 s2.2)]) (fun s3 x6 => Bf E8 5 x6.1 x6.2 s3 :: Cl b1 64 [.int .i64 (((((l0).getD (s2.2 : Int).toNat default)).1)), .int .i64 (((((l0).getD (s2.2 : Int).toNat default)).2.1)), str (((((l0).getD (s2.2 : Int).toNat default)).2.2))] :: Ro (Elt.pair E64 (Elt.pair E64 EStr)) A0 c0 l0 :: hs) (fun s3 => keys_Key.k2 r2 l0 s2 s3 = some o1) (fun s3 x6 hk2 => ?_) (fun J2 => ?_)
    ·unfold keys_Key.k2 at hk2
     refine T.seqJ (fun (s4 : List UInt8) (x7 : (Option Addr × Nat)) => [(4, .slice x7.1 s4.length x7.2), (8, Dy.val dyT r2), (17, .slice A0 l0.length c0), (18, .int .i64 ((l0.length : Int))), (19, .int .i64 s2.2)]) (fun s4 x7 => Bf E8 5 x7.1 x7.2 s4 :: Ro (Elt.pair E64 (Elt.pair E64 EStr)) A0 c0 l0 :: hs) (fun s4 => keys_Key.k3 r2 s2 s4 = some o1) (fun s4 x7 hk3 => ?_) (fun J3 => ?_)
     ·unfold keys_Key.k3 at hk3
      refine T.seqJ (fun (s5 : List UInt8) (x8 : (Option Addr × Nat)) => [(4, .slice x8.1 s5.length x8.2), (8, Dy.val dyT r2), (17, .slice A0 l0.length c0), (18, .int .i64 ((l0.length : Int))), (19, .int .i64 s2.2)]) (fun s5 x8 => Bf E8 5 x8.1 x8.2 s5 :: Ro (Elt.pair E64 (Elt.pair E64 EStr)) A0 c0 l0 :: hs) (fun s5 => keys_Key.k4 r2 s2 s5 = some o1) (fun s5 x8 hk4 => ?_) (fun J4 => ?_)
      ·unfold keys_Key.k4 at hk4
       refine T.seq (T.region (T.mv rfl rfl rfl rfl (T.assertStr (Y := dyT) (d := r2) (hst := (inferInstance : STR Tryd.prog 9)) (ht := (inferInstance : TI Tryd.prog 9 1 16 false (str []))) .list (by decide) rfl w0 rfl rfl (T.mv rfl rfl rfl rfl (T.extract .list rfl w0 rfl rfl rfl (T.extract .list rfl w0 rfl rfl rfl (T.asg rfl rfl rfl rfl (T.asg rfl rfl rfl rfl (T.nil (T.then_normal (T.seq ?_)))))))))))
       refine T.region (T.mv rfl rfl rfl rfl (T.nil (T.then_normal ?_)))
       refine T.cond rfl (fun hb3 => ?_) (fun hb3 => ?_)
       ·replace hk4 := inv_posB hb3 hk4
        refine T.region (T.mv rfl rfl rfl rfl ?_)
        refine T.lit (E := E8) .list (vals := [(0, .int .u8 3)]) (cells := #[.int .u8 3]) rfl w0 rfl rfl rfl rfl rfl (by kernel_rfl) ([(3 : UInt8)] : List UInt8) rfl (fun _ _ _ _ _ => (Encs.c1 (enc := b8) (h1 := fun _ => rfl) rfl rfl)) (fun b2 => ?_)
        obtain ⟨hc2, hk4⟩ := inv_chk hk4
        refine T.appBf .list 1 0 rfl rfl rfl rfl rfl w0 rfl rfl rfl rfl rfl rfl hc2 (fun _ _ => rfl) (fun A2 c2 => ?_)
        refine T.mv rfl rfl rfl rfl ?_
        obtain ⟨r3, hg3, hk4⟩ := inv_bind hk4
        refine T.call .list w0 rfl (run_callF (vs := [_]) rfl Tryd.func64 rfl (by decide) rfl) (fun w hS => keys_runes.c hB hS  hg3) (fun x9 => ?_)
        obtain ⟨hc3, hk4⟩ := inv_chk hk4
        refine T.appBf .list 2 0 rfl rfl rfl rfl rfl w0 rfl rfl rfl rfl rfl rfl hc3 (fun _ _ => rfl) (fun A3 c3 => ?_)
        refine T.asg rfl rfl rfl rfl (T.nil (T.in_normal (T.then_normal (T.region (T.bin .list rfl w0 rfl rfl rfl rfl (T.mv rfl rfl rfl rfl (T.nil (T.then_normal ?_))))))))
        obtain rfl := inv_some hk4
        exact T.le (EnvLe.cons rfl (EnvLe.cons rfl (EnvLe.cons rfl (EnvLe.cons rfl EnvLe.nil)))) (T.pick [2, 3] 4 rfl rfl nla rfl (hm1 ((((s5 ++ (([(3 : UInt8)] : List UInt8)))) ++ r3), IntKind.i64.wrap (s2.2 + 1)) rfl (A3, c3)))
       ·replace hk4 := inv_negB hb3 hk4
        refine T.skip (T.in_normal (T.then_normal (T.region (T.bin .list rfl w0 rfl rfl rfl rfl (T.mv rfl rfl rfl rfl (T.nil (T.then_normal ?_)))))))
        obtain rfl := inv_some hk4
        exact T.le (EnvLe.cons rfl (EnvLe.cons rfl (EnvLe.cons rfl (EnvLe.cons rfl EnvLe.nil)))) (T.pick [0, 1] 2 rfl rfl nla rfl (hm1 (s5, IntKind.i64.wrap (s2.2 + 1)) rfl x8))
      ·refine T.seq (T.region (T.mv rfl rfl rfl rfl (T.assertInt (Y := dyT) (d := r2) (hst := (inferInstance : INT Tryd.prog 3 .i64)) (ht := (inferInstance : TI Tryd.prog 3 1 8 false (.int .i64 0))) .list (by decide) rfl w0 rfl rfl (T.mv rfl rfl rfl rfl (T.extract .list rfl w0 rfl rfl rfl (T.extract .list rfl w0 rfl rfl rfl (T.asg rfl rfl rfl rfl (T.asg rfl rfl rfl rfl (T.nil (T.then_normal (T.seq ?_)))))))))))
       refine T.region (T.mv rfl rfl rfl rfl (T.nil (T.then_normal ?_)))
       refine T.cond rfl (fun hb4 => ?_) (fun hb4 => ?_)
       ·replace hk3 := inv_posB hb4 hk3
        refine T.region (T.mv rfl rfl rfl rfl ?_)
        refine T.lit (E := E8) .list (vals := [(0, .int .u8 2)]) (cells := #[.int .u8 2]) rfl w0 rfl rfl rfl rfl rfl (by kernel_rfl) ([(2 : UInt8)] : List UInt8) rfl (fun _ _ _ _ _ => (Encs.c1 (enc := b8) (h1 := fun _ => rfl) rfl rfl)) (fun b3 => ?_)
        obtain ⟨hc4, hk3⟩ := inv_chk hk3
        refine T.appBf .list 1 0 rfl rfl rfl rfl rfl w0 rfl rfl rfl rfl rfl rfl hc4 (fun _ _ => rfl) (fun A4 c4 => ?_)
        refine T.mv rfl rfl rfl rfl (T.conv .list rfl w0 rfl rfl rfl (T.bin .list rfl w0 rfl rfl rfl rfl ?_))
        obtain ⟨r4, hg4, hk3⟩ := inv_bind hk3
        refine T.call .list w0 rfl (run_callF (vs := [_]) rfl Tryd.func63 rfl (by decide) rfl) (fun w hS => keys_eight.c hB hS  hg4) (fun x10 => ?_)
        obtain ⟨hc5, hk3⟩ := inv_chk hk3
        refine T.appBf .list 2 0 rfl rfl rfl rfl rfl w0 rfl rfl rfl rfl rfl rfl hc5 (fun _ _ => rfl) (fun A5 c5 => ?_)
        refine T.asg rfl rfl rfl rfl (T.nil (T.then_normal ?_))
        exact T.le (EnvLe.cons rfl (EnvLe.cons rfl (EnvLe.cons rfl (EnvLe.cons rfl (EnvLe.cons rfl EnvLe.nil))))) (T.pick [2, 3] 4 rfl rfl nla rfl (J4 (((s4 ++ (([(2 : UInt8)] : List UInt8)))) ++ r4) (A5, c5) hk3))
       ·replace hk3 := inv_negB hb4 hk3
        refine T.skip (T.then_normal ?_)
        exact T.le (EnvLe.cons rfl (EnvLe.cons rfl (EnvLe.cons rfl (EnvLe.cons rfl (EnvLe.cons rfl EnvLe.nil))))) (T.pick [0, 1] 2 rfl rfl nla rfl (J4 s4 x7 hk3))
     ·refine T.seq (T.region (T.mv rfl rfl rfl rfl (T.assertBool (Y := dyT) (d := r2) (ht := (inferInstance : TI Tryd.prog 4 1 1 false (.bool false))) .list (by decide) (by kernel_rfl) rfl w0 rfl rfl (T.mv rfl rfl rfl rfl (T.extract .list rfl w0 rfl rfl rfl (T.extract .list rfl w0 rfl rfl rfl (T.asg rfl rfl rfl rfl (T.asg rfl rfl rfl rfl (T.nil (T.then_normal (T.seq ?_)))))))))))
      refine T.region (T.mv rfl rfl rfl rfl (T.nil (T.then_normal ?_)))
      refine T.cond rfl (fun hb5 => ?_) (fun hb5 => ?_)
      ·replace hk2 := inv_posB hb5 hk2
       refine T.region (T.mv rfl rfl rfl rfl (T.field .list rfl w0 rfl rfl (T.load .list 1 rfl rfl w0 rfl rfl rfl (T.conv .list rfl w0 rfl rfl rfl ?_))))
       refine T.lit (E := E8) .list (vals := [(0, .int .u8 4), (1, .int .u8 (IntKind.u8.wrap (((((l0).getD (s2.2 : Int).toNat default)).2.1))))]) (cells := #[.int .u8 4, .int .u8 (IntKind.u8.wrap (((((l0).getD (s2.2 : Int).toNat default)).2.1)))]) rfl w0 rfl rfl rfl rfl rfl (by kernel_rfl) ([(4 : UInt8), (u8 (IntKind.u8.wrap (((((l0).getD (s2.2 : Int).toNat default)).2.1))))] : List UInt8) rfl (fun _ _ _ _ _ => (Encs.c1 (enc := b8) (h1 := fun _ => rfl) rfl (Encs.c1 (enc := b8) (h1 := fun _ => rfl) (b8_wrap _) rfl))) (fun b4 => ?_)
       obtain ⟨hc6, hk2⟩ := inv_chk hk2
       refine T.appBf .list 1 0 rfl rfl rfl rfl rfl w0 rfl rfl rfl rfl rfl rfl hc6 (fun _ _ => rfl) (fun A6 c6 => ?_)
       refine T.asg rfl rfl rfl rfl (T.nil (T.then_normal ?_))
       exact T.le (EnvLe.cons rfl (EnvLe.cons rfl (EnvLe.cons rfl (EnvLe.cons rfl (EnvLe.cons rfl EnvLe.nil))))) (T.pick [1, 3] 4 rfl rfl nla rfl (J3 (s3 ++ (([(4 : UInt8), (u8 (IntKind.u8.wrap (((((l0).getD (s2.2 : Int).toNat default)).2.1))))] : List UInt8))) (A6, c6) hk2))
      ·replace hk2 := inv_negB hb5 hk2
       refine T.skip (T.then_normal ?_)
       exact T.le (EnvLe.cons rfl (EnvLe.cons rfl (EnvLe.cons rfl (EnvLe.cons rfl (EnvLe.cons rfl EnvLe.nil))))) (T.pick [0, 2] 3 rfl rfl nla rfl (J3 s3 x6 hk2))
    ·refine T.seq (T.region (T.mv rfl rfl rfl rfl (T.assertUnit (Y := dyT) (d := r2) (fs := #[]) (ht := (inferInstance : TI Tryd.prog 112 0 0 true (.agg #[]))) .list (by decide) (by kernel_rfl) rfl w0 rfl rfl (T.mv rfl rfl rfl rfl (T.extract .list rfl w0 rfl rfl rfl (T.extract .list rfl w0 rfl rfl rfl ?_))))))
     refine T.allocS .list rfl w0 rfl (cs := []) rfl (fun b5 => ?_)
     refine T.store .list 0 rfl rfl w0 rfl rfl rfl rfl (Nat.le_of_ble_eq_true rfl) rfl (cs' := []) rfl rfl (T.asg rfl rfl rfl rfl (T.nil (T.then_normal (T.seq (T.region (T.mv rfl rfl rfl rfl (T.nil (T.then_normal ?_))))))))
     refine T.cond rfl (fun hb6 => ?_) (fun hb6 => ?_)
     ·replace he1 := inv_posB hb6 he1
      refine T.region (T.mv rfl rfl rfl rfl ?_)
      refine T.lit (E := E8) .list (vals := [(0, .int .u8 1)]) (cells := #[.int .u8 1]) rfl w0 rfl rfl rfl rfl rfl (by kernel_rfl) ([(1 : UInt8)] : List UInt8) rfl (fun _ _ _ _ _ => (Encs.c1 (enc := b8) (h1 := fun _ => rfl) rfl rfl)) (fun b6 => ?_)
      obtain ⟨hc7, he1⟩ := inv_chk he1
      refine T.appBf .list 3 0 rfl rfl rfl rfl rfl w0 rfl rfl rfl rfl rfl rfl hc7 (fun _ _ => rfl) (fun A7 c7 => ?_)
      refine T.asg rfl rfl rfl rfl (T.nil (T.then_normal ?_))
      exact T.le (EnvLe.cons rfl (EnvLe.cons rfl (EnvLe.cons rfl (EnvLe.cons rfl (EnvLe.cons rfl (EnvLe.cons rfl EnvLe.nil)))))) (T.pick [3, 2, 4] 5 rfl rfl nla rfl (J2 (s2.1 ++ (([(1 : UInt8)] : List UInt8))) (A7, c7) he1))
     ·replace he1 := inv_negB hb6 he1
      refine T.skip (T.then_normal ?_)
      exact T.le (EnvLe.cons rfl (EnvLe.cons rfl (EnvLe.cons rfl (EnvLe.cons rfl (EnvLe.cons rfl (EnvLe.cons rfl EnvLe.nil)))))) (T.pick [2, 1, 3] 4 rfl rfl nla rfl (J2 s2.1 x2 he1))
  ·replace he1 := inv_negB hb1 he1
   refine T.exit (T.then_exit (T.then_exit ?_))
   obtain rfl := inv_some he1
   obtain rfl := hx1 _ rfl
   refine T.in_hit (T.then_normal ?_)
   exact T.le (EnvLe.cons rfl EnvLe.nil) (T.pick [0] 2 rfl rfl nla rfl (J1 s2.1 x2 hr))

noncomputable def keys_Read.k1 (s1 : (List (Int × Int × (List UInt8)))) : Option ((List (Int × Int × (List UInt8))) × Int) :=
  some (s1, 0)
noncomputable def keys_Read.st1 (s2 : List UInt8 × (List (Int × Int × (List UInt8)))) : Option ((List UInt8 × (List (Int × Int × (List UInt8)))) ⊕ (((List (Int × Int × (List UInt8))) × Int) ⊕ ((List (Int × Int × (List UInt8)))))) :=
  (if ((decide ((0 : Int) < ((s2.1.length : Int))))) = true then (keys_one.impl s2.1).bind fun r1 => (if ((decide (r1.2 = 0))) = true then some (.inr (.inl (([] : List (Int × Int × (List UInt8))), 11))) else chk ((s2.2.length + (([r1.1] : List (Int × Int × (List UInt8)))).length) * 32 ≤ 140737488355328) (chk (0 ≤ r1.2 ∧ r1.2 ≤ ((s2.1.length : Int)) ∧ ((s2.1.length : Int)) ≤ (s2.1.length : Int)) (some (.inl (subl s2.1 r1.2 ((s2.1.length : Int)), (s2.2 ++ (([r1.1] : List (Int × Int × (List UInt8)))))))))) else some (.inr (.inr s2.2)))
noncomputable def keys_Read.impl (l0 : List UInt8) : Option ((List (Int × Int × (List UInt8))) × Int) :=
  (loop (keys_Read.st1) (l0, ([] : List (Int × Int × (List UInt8))))).bind (fun e1 => match e1 with | .inl v => some v | .inr v => keys_Read.k1 v)
set_option maxRecDepth 100000 in
set_option maxHeartbeats 4000000 in
theorem keys_Read.c {B : World} {hs : List MP} {w : World} {i0 c0 : Nat} {A0 : Option Addr} {l0 : List UInt8} (hB : Base B) (hS : St B hs w) (h0 : (hs)[i0]? = some (Ro E8 A0 c0 l0)) {r : (List (Int × Int × (List UInt8))) × Int} (hr : keys_Read.impl l0 = some r) :
    Calls Tryd.prog 67 #[.slice A0 l0.length c0] w fun e w' => ∃ x : (Option Addr × Nat), e = .returned (.tuple #[.slice x.1 r.1.length x.2, .int .i64 r.2]) ∧ St B (Bf (Elt.pair E64 (Elt.pair E64 EStr)) 64 x.1 x.2 r.1 :: hs) w' := by
 unfold keys_Read.impl at hr
 refine calls_T Tryd.func67 rfl rfl rfl hS ?_
 refine T.front i0 h0 (T.seq (T.region (T.asg rfl rfl rfl rfl (T.asg rfl rfl rfl rfl (T.nil (T.then_normal (T.seq (T.region (T.asg rfl rfl rfl rfl (T.nil (T.then_normal ?_)))))))))))
 refine T.seqJ (fun (s1 : (List (Int × Int × (List UInt8)))) (x1 : (Option Addr × Nat)) => [(4, .slice x1.1 s1.length x1.2)]) (fun s1 x1 => Bf (Elt.pair E64 (Elt.pair E64 EStr)) 64 x1.1 x1.2 s1 :: hs) (fun s1 => keys_Read.k1 s1 = some r) (fun s1 x1 hk1 => ?_) (fun J1 => ?_)
 ·unfold keys_Read.k1 at hk1
  refine T.seq (T.region (T.mv rfl rfl rfl rfl (T.asg rfl rfl rfl rfl (T.asg rfl rfl rfl rfl (T.nil (T.then_normal (T.ret ?_)))))))
  obtain rfl := inv_some hk1
  refine T.pick [0] 1 rfl rfl nla rfl ?_
  refine T.ret2 rfl rfl rfl (fun w hS => ⟨x1, rfl, hS⟩)
 ·refine T.block ?_
  obtain ⟨e1, hl1, hr⟩ := inv_bind hr
  refine T.nilBf (Elt.pair E64 (Elt.pair E64 EStr)) 64 ?_
  refine T.le (EnvLe.cons rfl (EnvLe.cons rfl EnvLe.nil)) (T.pick [1, 0] 2 rfl rfl nla rfl (T.loop (s0 := (l0, ([] : List (Int × Int × (List UInt8))))) (env := fun s2 x2 => [(0, .slice x2.1.1 s2.1.length x2.1.2), (4, .slice x2.2.1 s2.2.length x2.2.2)]) (hs := fun (s2 : List UInt8 × (List (Int × Int × (List UInt8)))) (x2 : (Option Addr × Nat) × (Option Addr × Nat)) => Ro E8 x2.1.1 x2.1.2 s2.1 :: Bf (Elt.pair E64 (Elt.pair E64 EStr)) 64 x2.2.1 x2.2.2 s2.2 :: hs) hl1 ((A0, c0), (none, 0)) (fun K1 s2 x2 o1 he1 hm1 hx1 => ?_)))
  unfold keys_Read.st1 at he1
  refine T.seq (T.seq (T.region (T.mv rfl rfl rfl rfl (T.lenSlice .list rfl w0 rfl rfl (T.bin .list rfl w0 rfl rfl rfl rfl (T.nil (T.then_normal ?_)))))))
  refine T.cond rfl (fun hb1 => ?_) (fun hb1 => ?_)
  ·replace he1 := inv_posB hb1 he1
   refine T.skip (T.then_normal (T.block (T.seq (T.region (T.mv rfl rfl rfl rfl ?_)))))
   obtain ⟨r1, hg1, he1⟩ := inv_bind he1
   refine T.call .list w0 rfl (run_callF (vs := [_]) rfl Tryd.func83 rfl (by decide) rfl) (fun w hS => keys_one.c hB hS (i0 := 0) rfl hg1) (fun x3 => ?_)
   refine T.mv rfl rfl rfl rfl (T.extract .list rfl w0 rfl rfl rfl (T.extract .list rfl w0 rfl rfl rfl ?_))
   refine T.allocS .list rfl w0 rfl (cs := [.int .i64 0, .int .i64 0, str (([] : List UInt8))]) rfl (fun b1 => ?_)
   refine T.store .list 0 rfl rfl w0 rfl rfl rfl rfl (Nat.le_of_ble_eq_true rfl) rfl (cs' := [.int .i64 r1.1.1, .int .i64 r1.1.2.1, str r1.1.2.2]) rfl rfl (T.asg rfl rfl rfl rfl (T.nil (T.then_normal (T.seq (T.seq (T.region (T.mv rfl rfl rfl rfl (T.bin .list rfl w0 rfl rfl rfl rfl (T.nil (T.then_normal ?_))))))))))
   refine T.cond rfl (fun hb2 => ?_) (fun hb2 => ?_)
   ·replace he1 := inv_posB hb2 he1
    refine T.seq (T.region (T.asg rfl rfl rfl rfl (T.asg rfl rfl rfl rfl (T.nil (T.then_normal (T.ret (T.then_ret (T.in_ret (T.then_ret ?_)))))))))
    obtain rfl := inv_some he1
    obtain rfl := hx1 _ rfl
    refine T.in_ret (T.then_ret ?_)
    obtain rfl := inv_some hr
    refine T.nilBf (Elt.pair E64 (Elt.pair E64 EStr)) 64 (T.pick [0] 4 rfl rfl nla rfl ?_)
    refine T.ret2 rfl rfl rfl (fun w hS => ⟨(none, 0), rfl, hS⟩)
   ·replace he1 := inv_negB hb2 he1
    refine T.skip (T.then_normal (T.seq (T.region (T.mv rfl rfl rfl rfl (T.loadN .list 0 rfl rfl w0 rfl rfl (vs := [.int .i64 r1.1.1, .int .i64 r1.1.2.1, str r1.1.2.2]) rfl rfl ?_)))))
    refine T.lit (E := Elt.pair E64 (Elt.pair E64 EStr)) .list (vals := [(0, .agg #[.int .i64 r1.1.1, .int .i64 r1.1.2.1, str r1.1.2.2])]) (cells := #[.int .i64 r1.1.1, .int .i64 r1.1.2.1, str r1.1.2.2]) rfl w0 rfl rfl rfl rfl rfl (by kernel_rfl) ([r1.1] : List (Int × Int × (List UInt8))) rfl (fun _ _ _ _ ho => (Has.encs ho (Has.pair (Has.sc rfl) (Has.pair (Has.sc rfl) (Has.sc rfl) rfl) rfl) rfl rfl)) (fun b2 => ?_)
    obtain ⟨hc1, he1⟩ := inv_chk he1
    refine T.appBf .list 3 0 rfl rfl rfl rfl rfl w0 rfl rfl rfl rfl rfl rfl hc1 (fun _ _ => rfl) (fun A2 c2 => ?_)
    refine T.asg rfl rfl rfl rfl (T.nil (T.then_normal (T.region (T.mv rfl rfl rfl rfl (T.mv rfl rfl rfl rfl ?_)))))
    obtain ⟨hc2, he1⟩ := inv_chk he1
    refine T.cut .list 2 rfl rfl rfl w0 rfl rfl (.inr ⟨_, _, rfl, rfl⟩) (.inl ⟨rfl, rfl⟩) hc2.1 hc2.2.1 hc2.2.2 (T.asg rfl rfl rfl rfl (T.nil (T.in_normal (T.then_normal ?_))))
    obtain rfl := inv_some he1
    exact T.le (EnvLe.cons rfl (EnvLe.cons rfl EnvLe.nil)) (T.pick [0, 4] 5 rfl rfl nla rfl (hm1 (subl s2.1 r1.2 ((s2.1.length : Int)), (s2.2 ++ (([r1.1] : List (Int × Int × (List UInt8)))))) rfl (((cutA x2.1.1 x2.1.2 r1.2 1), (x2.1.2 - (r1.2 : Int).toNat)), (A2, c2))))
  ·replace he1 := inv_negB hb1 he1
   refine T.exit (T.then_exit (T.then_exit ?_))
   obtain rfl := inv_some he1
   obtain rfl := hx1 _ rfl
   refine T.in_hit (T.then_normal ?_)
   exact T.le (EnvLe.cons rfl EnvLe.nil) (T.pick [1] 2 rfl rfl nla rfl (J1 s2.2 x2.2 hr))
end Go.Proofs.YtpogdeibkghhaaaDoor
