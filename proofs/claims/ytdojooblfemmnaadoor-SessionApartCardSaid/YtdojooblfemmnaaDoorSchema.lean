/- Schema: what the functions compute, and that the program computes it; printed by a program of ours. -/
import Derived.Test.YtdojooblfemmnaaDoorWire
import Derived.Test.YtdojooblfemmnaaDoorCks
set_option linter.unusedVariables false
set_option linter.unusedSimpArgs false
namespace Go.Proofs.YtdojooblfemmnaaDoor
open Go.RowKit
noncomputable def schema_EncodeRow.k1 (l0 : List (Int × Int × (List UInt8))) (s1 : Unit) : Option (List UInt8 × Int) :=
  (keys_Key.impl l0).bind fun r1 => (if ((!(decide (r1.2 = 0)))) = true then some (([] : List UInt8), 62) else some (r1.1, 0))
noncomputable def schema_EncodeRow.k2 (s2 : Int) (s3 : Bool) : Option (Int ⊕ ((List UInt8 × Int) ⊕ Unit)) :=
  (if s3 = true then some (.inr (.inl (([] : List UInt8), 62))) else some (.inl (IntKind.i64.wrap (s2 + 1))))
noncomputable def schema_EncodeRow.st1 (l0 : List (Int × Int × (List UInt8))) (s2 : Int) : Option (Int ⊕ ((List UInt8 × Int) ⊕ Unit)) :=
  (if ((decide (s2 < ((l0.length : Int))))) = true then chk (0 ≤ s2 ∧ s2 < (l0.length : Int)) ((if ((decide (((((((l0).getD (s2 : Int).toNat default)).1))) = 2))) = true then (keys_Runes.impl (((((l0).getD (s2 : Int).toNat default)).2.2))).bind fun r2 => schema_EncodeRow.k2 s2 (decide ((8 : Int) < r2)) else schema_EncodeRow.k2 s2 false)) else some (.inr (.inr ())))
noncomputable def schema_EncodeRow.impl (l0 : List (Int × Int × (List UInt8))) : Option (List UInt8 × Int) :=
  (if ((decide ((3 : Int) < ((l0.length : Int))))) = true then some (([] : List UInt8), 2) else (loop (schema_EncodeRow.st1 l0) 0).bind (fun e1 => match e1 with | .inl v => some v | .inr v => schema_EncodeRow.k1 l0 v))
set_option maxRecDepth 100000 in
set_option maxHeartbeats 4000000 in
theorem schema_EncodeRow.c {B : World} {hs : List MP} {w : World} {i0 c0 : Nat} {A0 : Option Addr} {l0 : List (Int × Int × (List UInt8))} (hB : Base B) (hS : St B hs w) (h0 : (hs)[i0]? = some (Ro (Elt.pair E64 (Elt.pair E64 EStr)) A0 c0 l0)) {r : List UInt8 × Int} (hr : schema_EncodeRow.impl l0 = some r) :
    Calls Tryd.prog 26 #[.slice A0 l0.length c0] w fun e w' => ∃ x : (Option Addr × Nat), e = .returned (.tuple #[.slice x.1 r.1.length x.2, .int .i64 r.2]) ∧ St B (Bf E8 5 x.1 x.2 r.1 :: hs) w' := by
 unfold schema_EncodeRow.impl at hr
 refine calls_T Tryd.func26 rfl rfl rfl hS ?_
 refine T.front i0 h0 ?_
 refine T.seq ?_
 refine T.region ?_
 refine T.assign .list rfl (wants0 rfl) rfl rfl ?_
 refine T.assign .list rfl (wants0 rfl) rfl rfl ?_
 refine T.nil ?_
 refine T.then_normal ?_
 refine T.seq ?_
 refine T.seq ?_
 refine T.region ?_
 refine T.move .list rfl (wants0 rfl) rfl rfl ?_
 refine T.lenSlice .list rfl (wants0 rfl) rfl rfl ?_
 refine T.bin .list rfl (wants0 rfl) rfl rfl rfl rfl ?_
 refine T.nil ?_
 refine T.then_normal ?_
 refine T.cond rfl (fun hb1 => ?_) (fun hb1 => ?_)
 ·replace hr := inv_posB hb1 hr
  refine T.seq ?_
  refine T.region ?_
  refine T.assign .list rfl (wants0 rfl) rfl rfl ?_
  refine T.assign .list rfl (wants0 rfl) rfl rfl ?_
  refine T.nil ?_
  refine T.then_normal ?_
  refine T.ret ?_
  refine T.then_ret ?_
  obtain rfl := inv_some hr
  refine T.nilBf E8 5 ?_
  refine T.pick [0] 2 rfl rfl nla rfl ?_
  refine T.ret2 rfl rfl rfl (fun w hS => ⟨(none, 0), rfl, hS⟩)
 ·replace hr := inv_negB hb1 hr
  refine T.skip ?_
  refine T.then_normal ?_
  refine T.seqJ (fun (s1 : Unit) (x1 : Unit) => [(0, .slice A0 l0.length c0)]) (fun s1 x1 => Ro (Elt.pair E64 (Elt.pair E64 EStr)) A0 c0 l0 :: hs) (fun s1 => schema_EncodeRow.k1 l0 s1 = some r) (fun s1 x1 hk1 => ?_) (fun J1 => ?_)
  ·unfold schema_EncodeRow.k1 at hk1
   refine T.seq ?_
   refine T.region ?_
   refine T.move .list rfl (wants0 rfl) rfl rfl ?_
   obtain ⟨r1, hg1, hk1⟩ := inv_bind hk1
   refine T.call .list (wants0 rfl) rfl (run_callF (vs := [_]) rfl Tryd.func44 rfl (by decide) rfl) (fun w hS => keys_Key.c hB hS (i0 := 0) rfl hg1) (fun x2 => ?_)
   refine T.move .list rfl (wants0 rfl) rfl rfl ?_
   refine T.extract .list rfl (wants0 rfl) rfl rfl rfl ?_
   refine T.extract .list rfl (wants0 rfl) rfl rfl rfl ?_
   refine T.assign .list rfl (wants0 rfl) rfl rfl ?_
   refine T.assign .list rfl (wants0 rfl) rfl rfl ?_
   refine T.nil ?_
   refine T.then_normal ?_
   refine T.seq ?_
   refine T.seq ?_
   refine T.region ?_
   refine T.move .list rfl (wants0 rfl) rfl rfl ?_
   refine T.bin .list rfl (wants0 rfl) rfl rfl rfl rfl ?_
   refine T.nil ?_
   refine T.then_normal ?_
   refine T.cond rfl (fun hb2 => ?_) (fun hb2 => ?_)
   ·replace hk1 := inv_posB hb2 hk1
    refine T.seq ?_
    refine T.region ?_
    refine T.assign .list rfl (wants0 rfl) rfl rfl ?_
    refine T.assign .list rfl (wants0 rfl) rfl rfl ?_
    refine T.nil ?_
    refine T.then_normal ?_
    refine T.ret ?_
    refine T.then_ret ?_
    obtain rfl := inv_some hk1
    refine T.nilBf E8 5 ?_
    refine T.pick [0] 3 rfl rfl nla rfl ?_
    refine T.ret2 rfl rfl rfl (fun w hS => ⟨(none, 0), rfl, hS⟩)
   ·replace hk1 := inv_negB hb2 hk1
    refine T.skip ?_
    refine T.then_normal ?_
    refine T.seq ?_
    refine T.region ?_
    refine T.move .list rfl (wants0 rfl) rfl rfl ?_
    refine T.assign .list rfl (wants0 rfl) rfl rfl ?_
    refine T.assign .list rfl (wants0 rfl) rfl rfl ?_
    refine T.nil ?_
    refine T.then_normal ?_
    refine T.ret ?_
    obtain rfl := inv_some hk1
    refine T.pick [0] 2 rfl rfl nla rfl ?_
    refine T.ret2 rfl rfl rfl (fun w hS => ⟨x2, rfl, hS⟩)
  ·refine T.seq ?_
   refine T.region ?_
   refine T.move .list rfl (wants0 rfl) rfl rfl ?_
   refine T.lenSlice .list rfl (wants0 rfl) rfl rfl ?_
   refine T.move .list rfl (wants0 rfl) rfl rfl ?_
   refine T.nil ?_
   refine T.then_normal ?_
   refine T.block ?_
   obtain ⟨e1, hl1, hr⟩ := inv_bind hr
   refine T.le (EnvLe.cons rfl (EnvLe.cons rfl (EnvLe.cons rfl (EnvLe.cons rfl EnvLe.nil)))) (T.pick [0] 1 rfl rfl nla rfl (T.loop (s0 := 0) (env := fun s2 x3 => [(0, .slice A0 l0.length c0), (11, .slice A0 l0.length c0), (12, .int .i64 ((l0.length : Int))), (13, .int .i64 s2)]) (hs := fun (s2 : Int) (x3 : Unit) => Ro (Elt.pair E64 (Elt.pair E64 EStr)) A0 c0 l0 :: hs) hl1 () (fun K1 s2 x3 o1 he1 hm1 hx1 => ?_)))
   unfold schema_EncodeRow.st1 at he1
   refine T.seq ?_
   refine T.region ?_
   refine T.bin .list rfl (wants0 rfl) rfl rfl rfl rfl ?_
   refine T.nil ?_
   refine T.then_normal ?_
   refine T.seq ?_
   refine T.cond rfl (fun hb3 => ?_) (fun hb3 => ?_)
   ·replace he1 := inv_posB hb3 he1
    refine T.skip ?_
    refine T.then_normal ?_
    refine T.seq ?_
    refine T.block ?_
    refine T.seq ?_
    refine T.region ?_
    obtain ⟨hc1, he1⟩ := inv_chk he1
    refine T.idxRo .list 0 rfl rfl (wants0 rfl) rfl rfl rfl hc1.1 hc1.2 (Nat.le_refl _) ?_
    refine T.ldFRo 0 .list Fd.self (Sh.pair Sh.sc (Sh.pair Sh.sc Sh.sc)) rfl (.inl rfl) rfl rfl hc1.1 hc1.2 rfl (wants0 rfl) rfl rfl rfl (v := fun x4 => .agg #[.int .i64 (((((l0).getD (s2 : Int).toNat default)).1)), .int .i64 (((((l0).getD (s2 : Int).toNat default)).2.1)), str (((((l0).getD (s2 : Int).toNat default)).2.2))]) (hs' := fun x4 => Ro (Elt.pair E64 (Elt.pair E64 EStr)) A0 c0 l0 :: hs) (fun _ => rfl) (fun _ => rfl) (fun x4 => ?_)
    refine T.allocS .list rfl (wants0 rfl) rfl (cs := [.int .i64 0, .int .i64 0, str (([] : List UInt8))]) rfl (fun b1 => ?_)
    refine T.store .list 0 rfl rfl (wants0 rfl) rfl rfl rfl rfl (Nat.le_of_ble_eq_true rfl) rfl (cs' := [.int .i64 (((((l0).getD (s2 : Int).toNat default)).1)), .int .i64 (((((l0).getD (s2 : Int).toNat default)).2.1)), str (((((l0).getD (s2 : Int).toNat default)).2.2))]) rfl rfl ?_
    refine T.nil ?_
    refine T.then_normal ?_
    refine T.seqJ (fun (s3 : Bool) (x5 : Unit) => [(0, .slice A0 l0.length c0), (11, .slice A0 l0.length c0), (12, .int .i64 ((l0.length : Int))), (13, .int .i64 s2), (25, .bool s3)]) (fun s3 x5 => Ro (Elt.pair E64 (Elt.pair E64 EStr)) A0 c0 l0 :: hs) (fun s3 => schema_EncodeRow.k2 s2 s3 = some o1) (fun s3 x5 hk2 => ?_) (fun J2 => ?_)
    ·unfold schema_EncodeRow.k2 at hk2
     refine T.cond rfl (fun hb4 => ?_) (fun hb4 => ?_)
     ·replace hk2 := inv_posB hb4 hk2
      refine T.seq ?_
      refine T.region ?_
      refine T.assign .list rfl (wants0 rfl) rfl rfl ?_
      refine T.assign .list rfl (wants0 rfl) rfl rfl ?_
      refine T.nil ?_
      refine T.then_normal ?_
      refine T.ret ?_
      refine T.in_ret ?_
      refine T.then_ret ?_
      refine T.then_ret ?_
      obtain rfl := inv_some hk2
      obtain rfl := hx1 _ rfl
      refine T.in_ret ?_
      refine T.then_ret ?_
      obtain rfl := inv_some hr
      refine T.nilBf E8 5 ?_
      refine T.pick [0] 2 rfl rfl nla rfl ?_
      refine T.ret2 rfl rfl rfl (fun w hS => ⟨(none, 0), rfl, hS⟩)
     ·replace hk2 := inv_negB hb4 hk2
      refine T.skip ?_
      refine T.in_normal ?_
      refine T.then_normal ?_
      refine T.region ?_
      refine T.bin .list rfl (wants0 rfl) rfl rfl rfl rfl ?_
      refine T.move .list rfl (wants0 rfl) rfl rfl ?_
      refine T.nil ?_
      refine T.then_normal ?_
      obtain rfl := inv_some hk2
      exact T.le (EnvLe.cons rfl (EnvLe.cons rfl (EnvLe.cons rfl (EnvLe.cons rfl EnvLe.nil)))) (T.pick [0] 1 rfl rfl nla rfl (hm1 (IntKind.i64.wrap (s2 + 1)) rfl ()))
    ·refine T.region ?_
     refine T.field .list rfl (wants0 rfl) rfl rfl ?_
     refine T.load .list 0 rfl rfl (wants0 rfl) rfl rfl rfl ?_
     refine T.bin .list rfl (wants0 rfl) rfl rfl rfl rfl ?_
     refine T.move .list rfl (wants0 rfl) rfl rfl ?_
     refine T.bool (b := (decide (((((((l0).getD (s2 : Int).toNat default)).1))) = 2))) (fun hb5 => ?_) (fun hb5 => ?_)
     ·replace he1 := inv_posB hb5 he1
      refine T.field .list rfl (wants1 rfl rfl rfl hb5) rfl rfl ?_
      refine T.load .list 0 rfl rfl (wants1 rfl rfl rfl hb5) rfl rfl rfl ?_
      obtain ⟨r2, hg2, he1⟩ := inv_bind he1
      refine T.call .list (wants1 rfl rfl rfl hb5) rfl (run_callF (vs := [_]) rfl Tryd.func43 rfl (by decide) rfl) (fun w hS => keys_Runes.c hB hS  hg2) (fun x6 => ?_)
      refine T.bin .list rfl (wants1 rfl rfl rfl hb5) rfl rfl rfl rfl ?_
      refine T.pickT .list rfl (wants0 rfl) rfl rfl hb5 rfl ?_
      refine T.nil ?_
      refine T.then_normal ?_
      exact T.le (EnvLe.cons rfl (EnvLe.cons rfl (EnvLe.cons rfl (EnvLe.cons rfl (EnvLe.cons rfl EnvLe.nil))))) (T.pick [1] 2 rfl rfl nla rfl (J2 (decide ((8 : Int) < r2)) () he1))
     ·replace he1 := inv_negB hb5 he1
      refine T.leave .list (wantsNot rfl rfl rfl hb5) rfl ?_
      refine T.leave .list (wantsNot rfl rfl rfl hb5) rfl ?_
      refine T.leave .list (wantsNot rfl rfl rfl hb5) rfl ?_
      refine T.leave .list (wantsNot rfl rfl rfl hb5) rfl ?_
      refine T.pickF .list rfl (wants0 rfl) rfl rfl hb5 rfl ?_
      refine T.nil ?_
      refine T.then_normal ?_
      exact T.le (EnvLe.cons rfl (EnvLe.cons rfl (EnvLe.cons rfl (EnvLe.cons rfl (EnvLe.cons rfl EnvLe.nil))))) (T.pick [1] 2 rfl rfl nla rfl (J2 false () he1))
   ·replace he1 := inv_negB hb3 he1
    refine T.exit ?_
    refine T.then_exit ?_
    refine T.then_exit ?_
    obtain rfl := inv_some he1
    obtain rfl := hx1 _ rfl
    refine T.in_hit ?_
    refine T.then_normal ?_
    exact T.le (EnvLe.cons rfl EnvLe.nil) (T.pick [0] 1 rfl rfl nla rfl (J1 () () hr))

noncomputable def schema_DecodeRow.impl (l0 : List UInt8) : Option ((List (Int × Int × (List UInt8))) × Int) :=
  (keys_Read.impl l0).bind fun r1 => (if ((!(decide (r1.2 = 0)))) = true then some (([] : List (Int × Int × (List UInt8))), 11) else (schema_EncodeRow.impl r1.1).bind fun r2 => (if ((!(decide (r2.2 = 0)))) = true then some (([] : List (Int × Int × (List UInt8))), 11) else some (r1.1, 0)))
set_option maxRecDepth 100000 in
set_option maxHeartbeats 4000000 in
theorem schema_DecodeRow.c {B : World} {hs : List MP} {w : World} {i0 c0 : Nat} {A0 : Option Addr} {l0 : List UInt8} (hB : Base B) (hS : St B hs w) (h0 : (hs)[i0]? = some (Ro E8 A0 c0 l0)) {r : (List (Int × Int × (List UInt8))) × Int} (hr : schema_DecodeRow.impl l0 = some r) :
    Calls Tryd.prog 74 #[.slice A0 l0.length c0] w fun e w' => ∃ x : (Option Addr × Nat), e = .returned (.tuple #[.slice x.1 r.1.length x.2, .int .i64 r.2]) ∧ St B (Bf (Elt.pair E64 (Elt.pair E64 EStr)) 92 x.1 x.2 r.1 :: hs) w' := by
 unfold schema_DecodeRow.impl at hr
 refine calls_T Tryd.func74 rfl rfl rfl hS ?_
 refine T.front i0 h0 ?_
 refine T.seq ?_
 refine T.region ?_
 refine T.assign .list rfl (wants0 rfl) rfl rfl ?_
 refine T.assign .list rfl (wants0 rfl) rfl rfl ?_
 refine T.nil ?_
 refine T.then_normal ?_
 refine T.seq ?_
 refine T.region ?_
 refine T.move .list rfl (wants0 rfl) rfl rfl ?_
 obtain ⟨r1, hg1, hr⟩ := inv_bind hr
 refine T.call .list (wants0 rfl) rfl (run_callF (vs := [_]) rfl Tryd.func88 rfl (by decide) rfl) (fun w hS => keys_Read.c hB hS (i0 := 0) rfl hg1) (fun x1 => ?_)
 refine T.move .list rfl (wants0 rfl) rfl rfl ?_
 refine T.extract .list rfl (wants0 rfl) rfl rfl rfl ?_
 refine T.extract .list rfl (wants0 rfl) rfl rfl rfl ?_
 refine T.assign .list rfl (wants0 rfl) rfl rfl ?_
 refine T.assign .list rfl (wants0 rfl) rfl rfl ?_
 refine T.nil ?_
 refine T.then_normal ?_
 refine T.seq ?_
 refine T.seq ?_
 refine T.region ?_
 refine T.move .list rfl (wants0 rfl) rfl rfl ?_
 refine T.bin .list rfl (wants0 rfl) rfl rfl rfl rfl ?_
 refine T.nil ?_
 refine T.then_normal ?_
 refine T.cond rfl (fun hb1 => ?_) (fun hb1 => ?_)
 ·replace hr := inv_posB hb1 hr
  refine T.seq ?_
  refine T.region ?_
  refine T.assign .list rfl (wants0 rfl) rfl rfl ?_
  refine T.assign .list rfl (wants0 rfl) rfl rfl ?_
  refine T.nil ?_
  refine T.then_normal ?_
  refine T.ret ?_
  refine T.then_ret ?_
  obtain rfl := inv_some hr
  refine T.nilBf (Elt.pair E64 (Elt.pair E64 EStr)) 92 ?_
  refine T.pick [0] 3 rfl rfl nla rfl ?_
  refine T.ret2 rfl rfl rfl (fun w hS => ⟨(none, 0), rfl, hS⟩)
 ·replace hr := inv_negB hb1 hr
  refine T.skip ?_
  refine T.then_normal ?_
  refine T.seq ?_
  refine T.seq ?_
  refine T.region ?_
  refine T.move .list rfl (wants0 rfl) rfl rfl ?_
  obtain ⟨r2, hg2, hr⟩ := inv_bind hr
  refine T.call .list (wants0 rfl) rfl (run_callF (vs := [_]) rfl Tryd.func26 rfl (by decide) rfl) (fun w hS => (schema_EncodeRow.c (hB.up hS) (St.borrow (ros := [Ro (Elt.pair E64 (Elt.pair E64 EStr)) x1.1 x1.2 r1.1]) (Ros.cons (hS.roBf 0 rfl rfl) Ros.nil)) (i0 := 0) rfl hg2).mono fun e w' ⟨x, he, h1⟩ => ⟨x, he, hS.unborrow (post := [Bf E8 5 x.1 x.2 r2.1]) h1 (Frees.cons (Bf.free .sc) Frees.nil)⟩) (fun x2 => ?_)
  refine T.move .list rfl (wants0 rfl) rfl rfl ?_
  refine T.extract .list rfl (wants0 rfl) rfl rfl rfl ?_
  refine T.extract .list rfl (wants0 rfl) rfl rfl rfl ?_
  refine T.assign .list rfl (wants0 rfl) rfl rfl ?_
  refine T.assign .list rfl (wants0 rfl) rfl rfl ?_
  refine T.nil ?_
  refine T.then_normal ?_
  refine T.seq ?_
  refine T.region ?_
  refine T.move .list rfl (wants0 rfl) rfl rfl ?_
  refine T.bin .list rfl (wants0 rfl) rfl rfl rfl rfl ?_
  refine T.nil ?_
  refine T.then_normal ?_
  refine T.cond rfl (fun hb2 => ?_) (fun hb2 => ?_)
  ·replace hr := inv_posB hb2 hr
   refine T.seq ?_
   refine T.region ?_
   refine T.assign .list rfl (wants0 rfl) rfl rfl ?_
   refine T.assign .list rfl (wants0 rfl) rfl rfl ?_
   refine T.nil ?_
   refine T.then_normal ?_
   refine T.ret ?_
   refine T.then_ret ?_
   obtain rfl := inv_some hr
   refine T.nilBf (Elt.pair E64 (Elt.pair E64 EStr)) 92 ?_
   refine T.pick [0] 4 rfl rfl nla rfl ?_
   refine T.ret2 rfl rfl rfl (fun w hS => ⟨(none, 0), rfl, hS⟩)
  ·replace hr := inv_negB hb2 hr
   refine T.skip ?_
   refine T.then_normal ?_
   refine T.seq ?_
   refine T.region ?_
   refine T.move .list rfl (wants0 rfl) rfl rfl ?_
   refine T.assign .list rfl (wants0 rfl) rfl rfl ?_
   refine T.assign .list rfl (wants0 rfl) rfl rfl ?_
   refine T.nil ?_
   refine T.then_normal ?_
   refine T.ret ?_
   obtain rfl := inv_some hr
   refine T.pick [1] 3 rfl rfl nla rfl ?_
   refine T.ret2 rfl rfl rfl (fun w hS => ⟨x1, rfl, hS⟩)

noncomputable def ref14_Small.impl (a0 : Int × Int × (List UInt8)) : Option Bool :=
  (ref2_Right.impl a0).bind fun r1 => (if ((decide (r1 = 0))) = true then (if ((decide (a0.1 = 2))) = true then (ref2_Runes.impl a0.2.2).bind fun r2 => some (decide (r2 ≤ 8)) else some true) else some false)
set_option maxRecDepth 100000 in
set_option maxHeartbeats 4000000 in
theorem ref14_Small.c {B : World} {hs : List MP} {w : World} {a0 : Int × Int × (List UInt8)} (hB : Base B) (hS : St B hs w) {r : Bool} (hr : ref14_Small.impl a0 = some r) :
    Calls Tryd.prog 30 #[.agg #[.int .i64 a0.1, .int .i64 a0.2.1, str a0.2.2]] w fun e w' => ∃ x : Unit, e = .returned (.bool r) ∧ St B hs w' := by
 unfold ref14_Small.impl at hr
 refine calls_T Tryd.func30 rfl rfl rfl hS ?_
 refine T.seq ?_
 refine T.region ?_
 refine T.boxS .list rfl (wants0 rfl) rfl rfl (cs := [.int .i64 a0.1, .int .i64 a0.2.1, str a0.2.2]) rfl (fun b1 => ?_)
 refine T.assign .list rfl (wants0 rfl) rfl rfl ?_
 refine T.nil ?_
 refine T.then_normal ?_
 refine T.seq ?_
 refine T.region ?_
 refine T.loadN .list 0 rfl rfl (wants0 rfl) rfl rfl (vs := [.int .i64 a0.1, .int .i64 a0.2.1, str a0.2.2]) rfl rfl ?_
 obtain ⟨r1, hg1, hr⟩ := inv_bind hr
 refine T.call .list (wants0 rfl) rfl (run_callF (vs := [_]) rfl Tryd.func45 rfl (by decide) rfl) (fun w hS => ref2_Right.c hB hS (a0 := a0)  hg1) (fun x1 => ?_)
 refine T.bin .list rfl (wants0 rfl) rfl rfl rfl rfl ?_
 refine T.move .list rfl (wants0 rfl) rfl rfl ?_
 refine T.bool (b := (decide (r1 = 0))) (fun hb1 => ?_) (fun hb1 => ?_)
 ·replace hr := inv_posB hb1 hr
  refine T.field .list rfl (wants1 rfl rfl rfl hb1) rfl rfl ?_
  refine T.load .list 0 rfl rfl (wants1 rfl rfl rfl hb1) rfl rfl rfl ?_
  refine T.bin .list rfl (wants1 rfl rfl rfl hb1) rfl rfl rfl rfl ?_
  refine T.move .list rfl (wants1 rfl rfl rfl hb1) rfl rfl ?_
  refine T.bool (b := (decide (a0.1 = 2))) (fun hb2 => ?_) (fun hb2 => ?_)
  ·replace hr := inv_posB hb2 hr
   refine T.field .list rfl (wants1 rfl rfl rfl (not_t hb2)) rfl rfl ?_
   refine T.load .list 0 rfl rfl (wants1 rfl rfl rfl (not_t hb2)) rfl rfl rfl ?_
   obtain ⟨r2, hg2, hr⟩ := inv_bind hr
   refine T.call .list (wants1 rfl rfl rfl (not_t hb2)) rfl (run_callF (vs := [_]) rfl Tryd.func46 rfl (by decide) rfl) (fun w hS => ref2_Runes.c hB hS  hg2) (fun x2 => ?_)
   refine T.bin .list rfl (wants1 rfl rfl rfl (not_t hb2)) rfl rfl rfl rfl ?_
   refine T.pickF .list rfl (wants1 rfl rfl rfl hb1) rfl rfl (not_t hb2) rfl ?_
   refine T.pickT .list rfl (wants0 rfl) rfl rfl hb1 rfl ?_
   refine T.assign .list rfl (wants0 rfl) rfl rfl ?_
   refine T.nil ?_
   refine T.then_normal ?_
   refine T.ret ?_
   obtain rfl := inv_some hr
   refine T.pick [] 1 rfl rfl nla rfl ?_
   refine T.ret1 rfl rfl (fun w hS => ⟨(), rfl, hS⟩)
  ·replace hr := inv_negB hb2 hr
   refine T.leave .list (wantsNot rfl rfl rfl (not_f hb2)) rfl ?_
   refine T.leave .list (wantsNot rfl rfl rfl (not_f hb2)) rfl ?_
   refine T.leave .list (wantsNot rfl rfl rfl (not_f hb2)) rfl ?_
   refine T.leave .list (wantsNot rfl rfl rfl (not_f hb2)) rfl ?_
   refine T.pickT .list rfl (wants1 rfl rfl rfl hb1) rfl rfl (not_f hb2) rfl ?_
   refine T.pickT .list rfl (wants0 rfl) rfl rfl hb1 rfl ?_
   refine T.assign .list rfl (wants0 rfl) rfl rfl ?_
   refine T.nil ?_
   refine T.then_normal ?_
   refine T.ret ?_
   obtain rfl := inv_some hr
   refine T.pick [] 1 rfl rfl nla rfl ?_
   refine T.ret1 rfl rfl (fun w hS => ⟨(), rfl, hS⟩)
 ·replace hr := inv_negB hb1 hr
  refine T.leave .list (wantsNot rfl rfl rfl hb1) rfl ?_
  refine T.leave .list (wantsNot rfl rfl rfl hb1) rfl ?_
  refine T.leave .list (wantsNot rfl rfl rfl hb1) rfl ?_
  refine T.leave .list (wantsNot rfl rfl rfl hb1) rfl ?_
  refine T.leave .list (wantsUndef rfl rfl rfl) rfl ?_
  refine T.leave .list (wantsUndef rfl rfl rfl) rfl ?_
  refine T.leave .list (wantsUndef rfl rfl rfl) rfl ?_
  refine T.leave .list (wantsUndef rfl rfl rfl) rfl ?_
  refine T.leave .list (wantsNot rfl rfl rfl hb1) rfl ?_
  refine T.pickF .list rfl (wants0 rfl) rfl rfl hb1 rfl ?_
  refine T.assign .list rfl (wants0 rfl) rfl rfl ?_
  refine T.nil ?_
  refine T.then_normal ?_
  refine T.ret ?_
  obtain rfl := inv_some hr
  refine T.pick [] 1 rfl rfl nla rfl ?_
  refine T.ret1 rfl rfl (fun w hS => ⟨(), rfl, hS⟩)

noncomputable def ref14_RowRight.k1 (s1 : Unit) : Option Int :=
  some 0
noncomputable def ref14_RowRight.st1 (l0 : List (Int × Int × (List UInt8))) (s2 : Int) : Option (Int ⊕ (Int ⊕ Unit)) :=
  (if ((decide (s2 < ((l0.length : Int))))) = true then chk (0 ≤ s2 ∧ s2 < (l0.length : Int)) ((ref14_Small.impl (((l0).getD (s2 : Int).toNat default))).bind fun r1 => (if ((!r1)) = true then some (.inr (.inl 62)) else some (.inl (IntKind.i64.wrap (s2 + 1))))) else some (.inr (.inr ())))
noncomputable def ref14_RowRight.impl (l0 : List (Int × Int × (List UInt8))) : Option Int :=
  (if ((decide ((3 : Int) < ((l0.length : Int))))) = true then some 2 else (loop (ref14_RowRight.st1 l0) 0).bind (fun e1 => match e1 with | .inl v => some v | .inr v => ref14_RowRight.k1 v))
set_option maxRecDepth 100000 in
set_option maxHeartbeats 4000000 in
theorem ref14_RowRight.c {B : World} {hs : List MP} {w : World} {i0 c0 : Nat} {A0 : Option Addr} {l0 : List (Int × Int × (List UInt8))} (hB : Base B) (hS : St B hs w) (h0 : (hs)[i0]? = some (Ro (Elt.pair E64 (Elt.pair E64 EStr)) A0 c0 l0)) {r : Int} (hr : ref14_RowRight.impl l0 = some r) :
    Calls Tryd.prog 18 #[.slice A0 l0.length c0] w fun e w' => ∃ x : Unit, e = .returned (.int .i64 r) ∧ St B hs w' := by
 unfold ref14_RowRight.impl at hr
 refine calls_T Tryd.func18 rfl rfl rfl hS ?_
 refine T.front i0 h0 ?_
 refine T.seq ?_
 refine T.region ?_
 refine T.assign .list rfl (wants0 rfl) rfl rfl ?_
 refine T.nil ?_
 refine T.then_normal ?_
 refine T.seq ?_
 refine T.seq ?_
 refine T.region ?_
 refine T.move .list rfl (wants0 rfl) rfl rfl ?_
 refine T.lenSlice .list rfl (wants0 rfl) rfl rfl ?_
 refine T.bin .list rfl (wants0 rfl) rfl rfl rfl rfl ?_
 refine T.nil ?_
 refine T.then_normal ?_
 refine T.cond rfl (fun hb1 => ?_) (fun hb1 => ?_)
 ·replace hr := inv_posB hb1 hr
  refine T.seq ?_
  refine T.region ?_
  refine T.assign .list rfl (wants0 rfl) rfl rfl ?_
  refine T.nil ?_
  refine T.then_normal ?_
  refine T.ret ?_
  refine T.then_ret ?_
  obtain rfl := inv_some hr
  refine T.pick [] 1 rfl rfl nla rfl ?_
  refine T.ret1 rfl rfl (fun w hS => ⟨(), rfl, hS⟩)
 ·replace hr := inv_negB hb1 hr
  refine T.skip ?_
  refine T.then_normal ?_
  refine T.seqJ (fun (s1 : Unit) (x1 : Unit) => []) (fun s1 x1 => hs) (fun s1 => ref14_RowRight.k1 s1 = some r) (fun s1 x1 hk1 => ?_) (fun J1 => ?_)
  ·unfold ref14_RowRight.k1 at hk1
   refine T.seq ?_
   refine T.region ?_
   refine T.assign .list rfl (wants0 rfl) rfl rfl ?_
   refine T.nil ?_
   refine T.then_normal ?_
   refine T.ret ?_
   obtain rfl := inv_some hk1
   refine T.pick [] 0 rfl rfl nla rfl ?_
   refine T.ret1 rfl rfl (fun w hS => ⟨(), rfl, hS⟩)
  ·refine T.seq ?_
   refine T.region ?_
   refine T.assign .list rfl (wants0 rfl) rfl rfl ?_
   refine T.nil ?_
   refine T.then_normal ?_
   refine T.block ?_
   obtain ⟨e1, hl1, hr⟩ := inv_bind hr
   refine T.le (EnvLe.cons rfl (EnvLe.cons rfl EnvLe.nil)) (T.pick [0] 1 rfl rfl nla rfl (T.loop (s0 := 0) (env := fun s2 x2 => [(0, .slice A0 l0.length c0), (3, .int .i64 s2)]) (hs := fun (s2 : Int) (x2 : Unit) => Ro (Elt.pair E64 (Elt.pair E64 EStr)) A0 c0 l0 :: hs) hl1 () (fun K1 s2 x2 o1 he1 hm1 hx1 => ?_)))
   unfold ref14_RowRight.st1 at he1
   refine T.seq ?_
   refine T.seq ?_
   refine T.region ?_
   refine T.move .list rfl (wants0 rfl) rfl rfl ?_
   refine T.move .list rfl (wants0 rfl) rfl rfl ?_
   refine T.lenSlice .list rfl (wants0 rfl) rfl rfl ?_
   refine T.bin .list rfl (wants0 rfl) rfl rfl rfl rfl ?_
   refine T.nil ?_
   refine T.then_normal ?_
   refine T.cond rfl (fun hb2 => ?_) (fun hb2 => ?_)
   ·replace he1 := inv_posB hb2 he1
    refine T.skip ?_
    refine T.then_normal ?_
    refine T.seq ?_
    refine T.block ?_
    refine T.seq ?_
    refine T.region ?_
    refine T.move .list rfl (wants0 rfl) rfl rfl ?_
    refine T.move .list rfl (wants0 rfl) rfl rfl ?_
    obtain ⟨hc1, he1⟩ := inv_chk he1
    refine T.idxRo .list 0 rfl rfl (wants0 rfl) rfl rfl rfl hc1.1 hc1.2 (Nat.le_refl _) ?_
    refine T.ldFRo 0 .list Fd.self (Sh.pair Sh.sc (Sh.pair Sh.sc Sh.sc)) rfl (.inl rfl) rfl rfl hc1.1 hc1.2 rfl (wants0 rfl) rfl rfl rfl (v := fun x3 => .agg #[.int .i64 (((((l0).getD (s2 : Int).toNat default)).1)), .int .i64 (((((l0).getD (s2 : Int).toNat default)).2.1)), str (((((l0).getD (s2 : Int).toNat default)).2.2))]) (hs' := fun x3 => Ro (Elt.pair E64 (Elt.pair E64 EStr)) A0 c0 l0 :: hs) (fun _ => rfl) (fun _ => rfl) (fun x3 => ?_)
    obtain ⟨r1, hg1, he1⟩ := inv_bind he1
    refine T.call .list (wants0 rfl) rfl (run_callF (vs := [_]) rfl Tryd.func30 rfl (by decide) rfl) (fun w hS => ref14_Small.c hB hS (a0 := ((l0).getD (s2 : Int).toNat default))  hg1) (fun x4 => ?_)
    refine T.not .list rfl (wants0 rfl) rfl rfl ?_
    refine T.nil ?_
    refine T.then_normal ?_
    refine T.cond rfl (fun hb3 => ?_) (fun hb3 => ?_)
    ·replace he1 := inv_posB hb3 he1
     refine T.seq ?_
     refine T.region ?_
     refine T.assign .list rfl (wants0 rfl) rfl rfl ?_
     refine T.nil ?_
     refine T.then_normal ?_
     refine T.ret ?_
     refine T.in_ret ?_
     refine T.then_ret ?_
     refine T.then_ret ?_
     obtain rfl := inv_some he1
     obtain rfl := hx1 _ rfl
     refine T.in_ret ?_
     refine T.then_ret ?_
     obtain rfl := inv_some hr
     refine T.pick [] 1 rfl rfl nla rfl ?_
     refine T.ret1 rfl rfl (fun w hS => ⟨(), rfl, hS⟩)
    ·replace he1 := inv_negB hb3 he1
     refine T.skip ?_
     refine T.in_normal ?_
     refine T.then_normal ?_
     refine T.region ?_
     refine T.move .list rfl (wants0 rfl) rfl rfl ?_
     refine T.bin .list rfl (wants0 rfl) rfl rfl rfl rfl ?_
     refine T.assign .list rfl (wants0 rfl) rfl rfl ?_
     refine T.nil ?_
     refine T.then_normal ?_
     obtain rfl := inv_some he1
     exact T.le (EnvLe.cons rfl (EnvLe.cons rfl EnvLe.nil)) (T.pick [0] 1 rfl rfl nla rfl (hm1 (IntKind.i64.wrap (s2 + 1)) rfl ()))
   ·replace he1 := inv_negB hb2 he1
    refine T.exit ?_
    refine T.then_exit ?_
    refine T.then_exit ?_
    obtain rfl := inv_some he1
    obtain rfl := hx1 _ rfl
    refine T.in_hit ?_
    refine T.then_normal ?_
    exact T.le EnvLe.nil (T.pick [] 1 rfl rfl nla rfl (J1 () () hr))

noncomputable def ref17_ReplyRight.k2 (s2 : Unit) : Option Bool :=
  some true
noncomputable def ref17_ReplyRight.st1 (a0 : Int × Int × (List (List (Int × Int × (List UInt8))))) (s3 : Int) : Option (Int ⊕ (Bool ⊕ Unit)) :=
  (if ((decide (s3 < ((a0.2.2.length : Int))))) = true then chk (0 ≤ s3 ∧ s3 < (a0.2.2.length : Int)) ((ref14_RowRight.impl (((a0.2.2).getD (s3 : Int).toNat default))).bind fun r1 => (if ((!(decide (r1 = 0)))) = true then some (.inr (.inl false)) else some (.inl (IntKind.i64.wrap (s3 + 1))))) else some (.inr (.inr ())))
noncomputable def ref17_ReplyRight.k1 (a0 : Int × Int × (List (List (Int × Int × (List UInt8))))) (s1 : Bool) : Option Bool :=
  (if s1 = true then some false else (loop (ref17_ReplyRight.st1 a0) 0).bind (fun e1 => match e1 with | .inl v => some v | .inr v => ref17_ReplyRight.k2 v))
noncomputable def ref17_ReplyRight.impl (a0 : Int × Int × (List (List (Int × Int × (List UInt8))))) : Option Bool :=
  (if ((decide (a0.1 < 0))) = true then ref17_ReplyRight.k1 a0 true else (if ((decide ((65536 : Int) < a0.1))) = true then ref17_ReplyRight.k1 a0 true else (if ((decide (a0.2.1 < 0))) = true then ref17_ReplyRight.k1 a0 true else (if ((decide ((2 : Int) < a0.2.1))) = true then ref17_ReplyRight.k1 a0 true else ref17_ReplyRight.k1 a0 (decide ((12 : Int) < ((a0.2.2.length : Int))))))))
set_option maxRecDepth 100000 in
set_option maxHeartbeats 4000000 in
theorem ref17_ReplyRight.c {B : World} {hs : List MP} {w : World} {a0 : Int × Int × (List (List (Int × Int × (List UInt8))))} {i0a c0a : Nat} {A0a : Option Addr} (hB : Base B) (hS : St B hs w) (h0a : (hs)[i0a]? = some (Ro (Elt.slice (Elt.pair E64 (Elt.pair E64 EStr))) A0a c0a a0.2.2)) {r : Bool} (hr : ref17_ReplyRight.impl a0 = some r) :
    Calls Tryd.prog 7 #[.agg #[.int .i64 a0.1, .int .i64 a0.2.1, .slice A0a a0.2.2.length c0a]] w fun e w' => ∃ x : Unit, e = .returned (.bool r) ∧ St B hs w' := by
 unfold ref17_ReplyRight.impl at hr
 refine calls_T Tryd.func7 rfl rfl rfl hS ?_
 refine T.front i0a h0a ?_
 refine T.seq ?_
 refine T.region ?_
 refine T.boxS .list rfl (wants0 rfl) rfl rfl (cs := [.int .i64 a0.1, .int .i64 a0.2.1, .slice A0a a0.2.2.length c0a]) rfl (fun b1 => ?_)
 refine T.assign .list rfl (wants0 rfl) rfl rfl ?_
 refine T.nil ?_
 refine T.then_normal ?_
 refine T.seq ?_
 refine T.seqJ (fun (s1 : Bool) (x1 : Unit) => [(1, .pointer (some ⟨b1, 0, none⟩)), (27, .bool s1)]) (fun s1 x1 => Cl b1 31 [.int .i64 a0.1, .int .i64 a0.2.1, .slice A0a a0.2.2.length c0a] :: Ro (Elt.slice (Elt.pair E64 (Elt.pair E64 EStr))) A0a c0a a0.2.2 :: hs) (fun s1 => ref17_ReplyRight.k1 a0 s1 = some r) (fun s1 x1 hk1 => ?_) (fun J1 => ?_)
 ·unfold ref17_ReplyRight.k1 at hk1
  refine T.cond rfl (fun hb1 => ?_) (fun hb1 => ?_)
  ·replace hk1 := inv_posB hb1 hk1
   refine T.seq ?_
   refine T.region ?_
   refine T.assign .list rfl (wants0 rfl) rfl rfl ?_
   refine T.nil ?_
   refine T.then_normal ?_
   refine T.ret ?_
   refine T.then_ret ?_
   obtain rfl := inv_some hk1
   refine T.pick [] 2 rfl rfl nla rfl ?_
   refine T.ret1 rfl rfl (fun w hS => ⟨(), rfl, hS⟩)
  ·replace hk1 := inv_negB hb1 hk1
   refine T.skip ?_
   refine T.then_normal ?_
   refine T.seqJ (fun (s2 : Unit) (x2 : Unit) => []) (fun s2 x2 => hs) (fun s2 => ref17_ReplyRight.k2 s2 = some r) (fun s2 x2 hk2 => ?_) (fun J2 => ?_)
   ·unfold ref17_ReplyRight.k2 at hk2
    refine T.seq ?_
    refine T.region ?_
    refine T.assign .list rfl (wants0 rfl) rfl rfl ?_
    refine T.nil ?_
    refine T.then_normal ?_
    refine T.ret ?_
    obtain rfl := inv_some hk2
    refine T.pick [] 0 rfl rfl nla rfl ?_
    refine T.ret1 rfl rfl (fun w hS => ⟨(), rfl, hS⟩)
   ·refine T.seq ?_
    refine T.region ?_
    refine T.assign .list rfl (wants0 rfl) rfl rfl ?_
    refine T.nil ?_
    refine T.then_normal ?_
    refine T.block ?_
    obtain ⟨e1, hl1, hk1⟩ := inv_bind hk1
    refine T.le (EnvLe.cons rfl (EnvLe.cons rfl EnvLe.nil)) (T.pick [0, 1] 2 rfl rfl nla rfl (T.loop (s0 := 0) (env := fun s3 x3 => [(1, .pointer (some ⟨b1, 0, none⟩)), (3, .int .i64 s3)]) (hs := fun (s3 : Int) (x3 : Unit) => Cl b1 31 [.int .i64 a0.1, .int .i64 a0.2.1, .slice A0a a0.2.2.length c0a] :: Ro (Elt.slice (Elt.pair E64 (Elt.pair E64 EStr))) A0a c0a a0.2.2 :: hs) hl1 () (fun K1 s3 x3 o1 he1 hm1 hx1 => ?_)))
    unfold ref17_ReplyRight.st1 at he1
    refine T.seq ?_
    refine T.seq ?_
    refine T.region ?_
    refine T.move .list rfl (wants0 rfl) rfl rfl ?_
    refine T.field .list rfl (wants0 rfl) rfl rfl ?_
    refine T.load .list 0 rfl rfl (wants0 rfl) rfl rfl rfl ?_
    refine T.lenSlice .list rfl (wants0 rfl) rfl rfl ?_
    refine T.bin .list rfl (wants0 rfl) rfl rfl rfl rfl ?_
    refine T.nil ?_
    refine T.then_normal ?_
    refine T.cond rfl (fun hb2 => ?_) (fun hb2 => ?_)
    ·replace he1 := inv_posB hb2 he1
     refine T.skip ?_
     refine T.then_normal ?_
     refine T.seq ?_
     refine T.block ?_
     refine T.seq ?_
     refine T.region ?_
     refine T.field .list rfl (wants0 rfl) rfl rfl ?_
     refine T.load .list 0 rfl rfl (wants0 rfl) rfl rfl rfl ?_
     refine T.move .list rfl (wants0 rfl) rfl rfl ?_
     obtain ⟨hc1, he1⟩ := inv_chk he1
     refine T.idxRo .list 1 rfl rfl (wants0 rfl) rfl rfl rfl hc1.1 hc1.2 (Nat.le_refl _) ?_
     refine T.ldSlice .list 1 rfl rfl (wants0 rfl) rfl rfl hc1.1 hc1.2 (fun x4 => ?_)
     obtain ⟨r1, hg1, he1⟩ := inv_bind he1
     refine T.call .list (wants0 rfl) rfl (run_callF (vs := [_]) rfl Tryd.func18 rfl (by decide) rfl) (fun w hS => ref14_RowRight.c hB hS (i0 := 0) rfl hg1) (fun x5 => ?_)
     refine T.bin .list rfl (wants0 rfl) rfl rfl rfl rfl ?_
     refine T.nil ?_
     refine T.then_normal ?_
     refine T.cond rfl (fun hb3 => ?_) (fun hb3 => ?_)
     ·replace he1 := inv_posB hb3 he1
      refine T.seq ?_
      refine T.region ?_
      refine T.assign .list rfl (wants0 rfl) rfl rfl ?_
      refine T.nil ?_
      refine T.then_normal ?_
      refine T.ret ?_
      refine T.in_ret ?_
      refine T.then_ret ?_
      refine T.then_ret ?_
      obtain rfl := inv_some he1
      obtain rfl := hx1 _ rfl
      refine T.in_ret ?_
      refine T.then_ret ?_
      obtain rfl := inv_some hk1
      refine T.pick [] 3 rfl rfl nla rfl ?_
      refine T.ret1 rfl rfl (fun w hS => ⟨(), rfl, hS⟩)
     ·replace he1 := inv_negB hb3 he1
      refine T.skip ?_
      refine T.in_normal ?_
      refine T.then_normal ?_
      refine T.region ?_
      refine T.move .list rfl (wants0 rfl) rfl rfl ?_
      refine T.bin .list rfl (wants0 rfl) rfl rfl rfl rfl ?_
      refine T.assign .list rfl (wants0 rfl) rfl rfl ?_
      refine T.nil ?_
      refine T.then_normal ?_
      obtain rfl := inv_some he1
      exact T.le (EnvLe.cons rfl (EnvLe.cons rfl EnvLe.nil)) (T.pick [1, 2] 3 rfl rfl nla rfl (hm1 (IntKind.i64.wrap (s3 + 1)) rfl ()))
    ·replace he1 := inv_negB hb2 he1
     refine T.exit ?_
     refine T.then_exit ?_
     refine T.then_exit ?_
     obtain rfl := inv_some he1
     obtain rfl := hx1 _ rfl
     refine T.in_hit ?_
     refine T.then_normal ?_
     exact T.le EnvLe.nil (T.pick [] 2 rfl rfl nla rfl (J2 () () hk1))
 ·refine T.region ?_
  refine T.field .list rfl (wants0 rfl) rfl rfl ?_
  refine T.load .list 0 rfl rfl (wants0 rfl) rfl rfl rfl ?_
  refine T.bin .list rfl (wants0 rfl) rfl rfl rfl rfl ?_
  refine T.move .list rfl (wants0 rfl) rfl rfl ?_
  refine T.bool (b := (decide (a0.1 < 0))) (fun hb4 => ?_) (fun hb4 => ?_)
  ·replace hr := inv_posB hb4 hr
   refine T.leave .list (wantsNot rfl rfl rfl hb4) rfl ?_
   refine T.leave .list (wantsNot rfl rfl rfl hb4) rfl ?_
   refine T.leave .list (wantsNot rfl rfl rfl hb4) rfl ?_
   refine T.pickT .list rfl (wants0 rfl) rfl rfl hb4 rfl ?_
   refine T.move .list rfl (wants0 rfl) rfl rfl ?_
   refine T.leave .list (wantsNot rfl rfl rfl rfl) rfl ?_
   refine T.leave .list (wantsNot rfl rfl rfl rfl) rfl ?_
   refine T.leave .list (wantsNot rfl rfl rfl rfl) rfl ?_
   refine T.pickT .list rfl (wants0 rfl) rfl rfl rfl rfl ?_
   refine T.move .list rfl (wants0 rfl) rfl rfl ?_
   refine T.leave .list (wantsNot rfl rfl rfl rfl) rfl ?_
   refine T.leave .list (wantsNot rfl rfl rfl rfl) rfl ?_
   refine T.leave .list (wantsNot rfl rfl rfl rfl) rfl ?_
   refine T.pickT .list rfl (wants0 rfl) rfl rfl rfl rfl ?_
   refine T.move .list rfl (wants0 rfl) rfl rfl ?_
   refine T.leave .list (wantsNot rfl rfl rfl rfl) rfl ?_
   refine T.leave .list (wantsNot rfl rfl rfl rfl) rfl ?_
   refine T.leave .list (wantsNot rfl rfl rfl rfl) rfl ?_
   refine T.leave .list (wantsNot rfl rfl rfl rfl) rfl ?_
   refine T.pickT .list rfl (wants0 rfl) rfl rfl rfl rfl ?_
   refine T.nil ?_
   refine T.then_normal ?_
   exact T.le (EnvLe.cons rfl (EnvLe.cons rfl EnvLe.nil)) (T.pick [0, 1] 2 rfl rfl nla rfl (J1 true () hr))
  ·replace hr := inv_negB hb4 hr
   refine T.field .list rfl (wants1 rfl rfl rfl hb4) rfl rfl ?_
   refine T.load .list 0 rfl rfl (wants1 rfl rfl rfl hb4) rfl rfl rfl ?_
   refine T.bin .list rfl (wants1 rfl rfl rfl hb4) rfl rfl rfl rfl ?_
   refine T.pickF .list rfl (wants0 rfl) rfl rfl hb4 rfl ?_
   refine T.move .list rfl (wants0 rfl) rfl rfl ?_
   refine T.bool (b := (decide ((65536 : Int) < a0.1))) (fun hb5 => ?_) (fun hb5 => ?_)
   ·replace hr := inv_posB hb5 hr
    refine T.leave .list (wantsNot rfl rfl rfl hb5) rfl ?_
    refine T.leave .list (wantsNot rfl rfl rfl hb5) rfl ?_
    refine T.leave .list (wantsNot rfl rfl rfl hb5) rfl ?_
    refine T.pickT .list rfl (wants0 rfl) rfl rfl hb5 rfl ?_
    refine T.move .list rfl (wants0 rfl) rfl rfl ?_
    refine T.leave .list (wantsNot rfl rfl rfl rfl) rfl ?_
    refine T.leave .list (wantsNot rfl rfl rfl rfl) rfl ?_
    refine T.leave .list (wantsNot rfl rfl rfl rfl) rfl ?_
    refine T.pickT .list rfl (wants0 rfl) rfl rfl rfl rfl ?_
    refine T.move .list rfl (wants0 rfl) rfl rfl ?_
    refine T.leave .list (wantsNot rfl rfl rfl rfl) rfl ?_
    refine T.leave .list (wantsNot rfl rfl rfl rfl) rfl ?_
    refine T.leave .list (wantsNot rfl rfl rfl rfl) rfl ?_
    refine T.leave .list (wantsNot rfl rfl rfl rfl) rfl ?_
    refine T.pickT .list rfl (wants0 rfl) rfl rfl rfl rfl ?_
    refine T.nil ?_
    refine T.then_normal ?_
    exact T.le (EnvLe.cons rfl (EnvLe.cons rfl EnvLe.nil)) (T.pick [0, 1] 2 rfl rfl nla rfl (J1 true () hr))
   ·replace hr := inv_negB hb5 hr
    refine T.field .list rfl (wants1 rfl rfl rfl hb5) rfl rfl ?_
    refine T.load .list 0 rfl rfl (wants1 rfl rfl rfl hb5) rfl rfl rfl ?_
    refine T.bin .list rfl (wants1 rfl rfl rfl hb5) rfl rfl rfl rfl ?_
    refine T.pickF .list rfl (wants0 rfl) rfl rfl hb5 rfl ?_
    refine T.move .list rfl (wants0 rfl) rfl rfl ?_
    refine T.bool (b := (decide (a0.2.1 < 0))) (fun hb6 => ?_) (fun hb6 => ?_)
    ·replace hr := inv_posB hb6 hr
     refine T.leave .list (wantsNot rfl rfl rfl hb6) rfl ?_
     refine T.leave .list (wantsNot rfl rfl rfl hb6) rfl ?_
     refine T.leave .list (wantsNot rfl rfl rfl hb6) rfl ?_
     refine T.pickT .list rfl (wants0 rfl) rfl rfl hb6 rfl ?_
     refine T.move .list rfl (wants0 rfl) rfl rfl ?_
     refine T.leave .list (wantsNot rfl rfl rfl rfl) rfl ?_
     refine T.leave .list (wantsNot rfl rfl rfl rfl) rfl ?_
     refine T.leave .list (wantsNot rfl rfl rfl rfl) rfl ?_
     refine T.leave .list (wantsNot rfl rfl rfl rfl) rfl ?_
     refine T.pickT .list rfl (wants0 rfl) rfl rfl rfl rfl ?_
     refine T.nil ?_
     refine T.then_normal ?_
     exact T.le (EnvLe.cons rfl (EnvLe.cons rfl EnvLe.nil)) (T.pick [0, 1] 2 rfl rfl nla rfl (J1 true () hr))
    ·replace hr := inv_negB hb6 hr
     refine T.field .list rfl (wants1 rfl rfl rfl hb6) rfl rfl ?_
     refine T.load .list 0 rfl rfl (wants1 rfl rfl rfl hb6) rfl rfl rfl ?_
     refine T.bin .list rfl (wants1 rfl rfl rfl hb6) rfl rfl rfl rfl ?_
     refine T.pickF .list rfl (wants0 rfl) rfl rfl hb6 rfl ?_
     refine T.move .list rfl (wants0 rfl) rfl rfl ?_
     refine T.bool (b := (decide ((2 : Int) < a0.2.1))) (fun hb7 => ?_) (fun hb7 => ?_)
     ·replace hr := inv_posB hb7 hr
      refine T.leave .list (wantsNot rfl rfl rfl hb7) rfl ?_
      refine T.leave .list (wantsNot rfl rfl rfl hb7) rfl ?_
      refine T.leave .list (wantsNot rfl rfl rfl hb7) rfl ?_
      refine T.leave .list (wantsNot rfl rfl rfl hb7) rfl ?_
      refine T.pickT .list rfl (wants0 rfl) rfl rfl hb7 rfl ?_
      refine T.nil ?_
      refine T.then_normal ?_
      exact T.le (EnvLe.cons rfl (EnvLe.cons rfl EnvLe.nil)) (T.pick [0, 1] 2 rfl rfl nla rfl (J1 true () hr))
     ·replace hr := inv_negB hb7 hr
      refine T.field .list rfl (wants1 rfl rfl rfl hb7) rfl rfl ?_
      refine T.load .list 0 rfl rfl (wants1 rfl rfl rfl hb7) rfl rfl rfl ?_
      refine T.lenSlice .list rfl (wants1 rfl rfl rfl hb7) rfl rfl ?_
      refine T.bin .list rfl (wants1 rfl rfl rfl hb7) rfl rfl rfl rfl ?_
      refine T.pickF .list rfl (wants0 rfl) rfl rfl hb7 rfl ?_
      refine T.nil ?_
      refine T.then_normal ?_
      exact T.le (EnvLe.cons rfl (EnvLe.cons rfl EnvLe.nil)) (T.pick [0, 1] 2 rfl rfl nla rfl (J1 (decide ((12 : Int) < ((a0.2.2.length : Int)))) () hr))

noncomputable def ref16_Same.impl (a0 : Int × Int × (List (List (Int × Int × (List UInt8))))) (a1 : Int × Int × (List (List (Int × Int × (List UInt8))))) : Option Bool :=
  (if ((decide (a0.1 = a1.1))) = true then (if ((decide (a0.2.1 = a1.2.1))) = true then (ref2_SameRows.impl a0.2.2 a1.2.2).bind fun r1 => some r1 else some false) else some false)
set_option maxRecDepth 100000 in
set_option maxHeartbeats 4000000 in
theorem ref16_Same.c {B : World} {hs : List MP} {w : World} {a0 : Int × Int × (List (List (Int × Int × (List UInt8))))} {i0a c0a : Nat} {A0a : Option Addr} {a1 : Int × Int × (List (List (Int × Int × (List UInt8))))} {i1a c1a : Nat} {A1a : Option Addr} (hB : Base B) (hS : St B hs w) (h0a : (hs)[i0a]? = some (Ro (Elt.slice (Elt.pair E64 (Elt.pair E64 EStr))) A0a c0a a0.2.2)) (h1a : (hs)[i1a]? = some (Ro (Elt.slice (Elt.pair E64 (Elt.pair E64 EStr))) A1a c1a a1.2.2)) {r : Bool} (hr : ref16_Same.impl a0 a1 = some r) :
    Calls Tryd.prog 9 #[.agg #[.int .i64 a0.1, .int .i64 a0.2.1, .slice A0a a0.2.2.length c0a], .agg #[.int .i64 a1.1, .int .i64 a1.2.1, .slice A1a a1.2.2.length c1a]] w fun e w' => ∃ x : Unit, e = .returned (.bool r) ∧ St B hs w' := by
 unfold ref16_Same.impl at hr
 refine calls_T Tryd.func9 rfl rfl rfl hS ?_
 refine T.front i0a h0a ?_
 refine T.front (i1a + 1) h1a ?_
 refine T.seq ?_
 refine T.region ?_
 refine T.boxS .list rfl (wants0 rfl) rfl rfl (cs := [.int .i64 a0.1, .int .i64 a0.2.1, .slice A0a a0.2.2.length c0a]) rfl (fun b1 => ?_)
 refine T.boxS .list rfl (wants0 rfl) rfl rfl (cs := [.int .i64 a1.1, .int .i64 a1.2.1, .slice A1a a1.2.2.length c1a]) rfl (fun b2 => ?_)
 refine T.assign .list rfl (wants0 rfl) rfl rfl ?_
 refine T.nil ?_
 refine T.then_normal ?_
 refine T.seq ?_
 refine T.region ?_
 refine T.field .list rfl (wants0 rfl) rfl rfl ?_
 refine T.load .list 1 rfl rfl (wants0 rfl) rfl rfl rfl ?_
 refine T.field .list rfl (wants0 rfl) rfl rfl ?_
 refine T.load .list 0 rfl rfl (wants0 rfl) rfl rfl rfl ?_
 refine T.bin .list rfl (wants0 rfl) rfl rfl rfl rfl ?_
 refine T.move .list rfl (wants0 rfl) rfl rfl ?_
 refine T.bool (b := (decide (a0.1 = a1.1))) (fun hb1 => ?_) (fun hb1 => ?_)
 ·replace hr := inv_posB hb1 hr
  refine T.field .list rfl (wants1 rfl rfl rfl hb1) rfl rfl ?_
  refine T.load .list 1 rfl rfl (wants1 rfl rfl rfl hb1) rfl rfl rfl ?_
  refine T.field .list rfl (wants1 rfl rfl rfl hb1) rfl rfl ?_
  refine T.load .list 0 rfl rfl (wants1 rfl rfl rfl hb1) rfl rfl rfl ?_
  refine T.bin .list rfl (wants1 rfl rfl rfl hb1) rfl rfl rfl rfl ?_
  refine T.pickT .list rfl (wants0 rfl) rfl rfl hb1 rfl ?_
  refine T.move .list rfl (wants0 rfl) rfl rfl ?_
  refine T.bool (b := (decide (a0.2.1 = a1.2.1))) (fun hb2 => ?_) (fun hb2 => ?_)
  ·replace hr := inv_posB hb2 hr
   refine T.field .list rfl (wants1 rfl rfl rfl hb2) rfl rfl ?_
   refine T.load .list 1 rfl rfl (wants1 rfl rfl rfl hb2) rfl rfl rfl ?_
   refine T.field .list rfl (wants1 rfl rfl rfl hb2) rfl rfl ?_
   refine T.load .list 0 rfl rfl (wants1 rfl rfl rfl hb2) rfl rfl rfl ?_
   obtain ⟨r1, hg1, hr⟩ := inv_bind hr
   refine T.call .list (wants1 rfl rfl rfl hb2) rfl (run_callF (vs := [_, _]) rfl Tryd.func21 rfl (by decide) rfl) (fun w hS => ref2_SameRows.c hB hS (i0 := 3) (i1 := 2) rfl rfl hg1) (fun x1 => ?_)
   refine T.pickT .list rfl (wants0 rfl) rfl rfl hb2 rfl ?_
   refine T.assign .list rfl (wants0 rfl) rfl rfl ?_
   refine T.nil ?_
   refine T.then_normal ?_
   refine T.ret ?_
   obtain rfl := inv_some hr
   refine T.pick [] 4 rfl rfl nla rfl ?_
   refine T.ret1 rfl rfl (fun w hS => ⟨(), rfl, hS⟩)
  ·replace hr := inv_negB hb2 hr
   refine T.leave .list (wantsNot rfl rfl rfl hb2) rfl ?_
   refine T.leave .list (wantsNot rfl rfl rfl hb2) rfl ?_
   refine T.leave .list (wantsNot rfl rfl rfl hb2) rfl ?_
   refine T.leave .list (wantsNot rfl rfl rfl hb2) rfl ?_
   refine T.leave .list (wantsNot rfl rfl rfl hb2) rfl ?_
   refine T.pickF .list rfl (wants0 rfl) rfl rfl hb2 rfl ?_
   refine T.assign .list rfl (wants0 rfl) rfl rfl ?_
   refine T.nil ?_
   refine T.then_normal ?_
   refine T.ret ?_
   obtain rfl := inv_some hr
   refine T.pick [] 4 rfl rfl nla rfl ?_
   refine T.ret1 rfl rfl (fun w hS => ⟨(), rfl, hS⟩)
 ·replace hr := inv_negB hb1 hr
  refine T.leave .list (wantsNot rfl rfl rfl hb1) rfl ?_
  refine T.leave .list (wantsNot rfl rfl rfl hb1) rfl ?_
  refine T.leave .list (wantsNot rfl rfl rfl hb1) rfl ?_
  refine T.leave .list (wantsNot rfl rfl rfl hb1) rfl ?_
  refine T.leave .list (wantsNot rfl rfl rfl hb1) rfl ?_
  refine T.pickF .list rfl (wants0 rfl) rfl rfl hb1 rfl ?_
  refine T.move .list rfl (wants0 rfl) rfl rfl ?_
  refine T.leave .list (wantsNot rfl rfl rfl rfl) rfl ?_
  refine T.leave .list (wantsNot rfl rfl rfl rfl) rfl ?_
  refine T.leave .list (wantsNot rfl rfl rfl rfl) rfl ?_
  refine T.leave .list (wantsNot rfl rfl rfl rfl) rfl ?_
  refine T.leave .list (wantsNot rfl rfl rfl rfl) rfl ?_
  refine T.pickF .list rfl (wants0 rfl) rfl rfl rfl rfl ?_
  refine T.assign .list rfl (wants0 rfl) rfl rfl ?_
  refine T.nil ?_
  refine T.then_normal ?_
  refine T.ret ?_
  obtain rfl := inv_some hr
  refine T.pick [] 4 rfl rfl nla rfl ?_
  refine T.ret1 rfl rfl (fun w hS => ⟨(), rfl, hS⟩)
end Go.Proofs.YtdojooblfemmnaaDoor
