/- Draft: what the functions compute, and that the program computes it; printed by a program of ours. -/
import Derived.Test.YtdojooblfemmnaaDoorFresh
import Derived.Test.YtdojooblfemmnaaDoorCks
import Derived.Test.YtdojooblfemmnaaDoorClone
import Derived.Test.YtdojooblfemmnaaDoorArrS
set_option linter.unusedVariables false
set_option linter.unusedSimpArgs false
namespace Go.Proofs.YtdojooblfemmnaaDoor
open Go.RowKit
noncomputable def draft_right.k2 (s2 : Bool) : Option Int :=
  (if s2 = true then some 3 else some 0)
noncomputable def draft_right.k1 (l1 : List UInt8) (l2 : List UInt8) (s1 : Bool) : Option Int :=
  (if s1 = true then some 1 else (if ((decide ((60 : Int) < ((l1.length : Int))))) = true then draft_right.k2 true else draft_right.k2 (decide ((1800 : Int) < ((l2.length : Int))))))
noncomputable def draft_right.impl (a0 : Int) (l1 : List UInt8) (l2 : List UInt8) : Option Int :=
  (if ((decide (a0 < 0))) = true then draft_right.k1 l1 l2 true else (if ((decide ((16 : Int) ≤ a0))) = true then draft_right.k1 l1 l2 true else draft_right.k1 l1 l2 (decide ((((l1.length : Int))) = 0))))
set_option maxRecDepth 100000 in
set_option maxHeartbeats 4000000 in
theorem draft_right.c {B : World} {hs : List MP} {w : World} {a0 : Int} {i1 c1 : Nat} {A1 : Option Addr} {l1 : List UInt8} {i2 c2 : Nat} {A2 : Option Addr} {l2 : List UInt8} (hB : Base B) (hS : St B hs w) (h1 : (hs)[i1]? = some (Ro E8 A1 c1 l1)) (h2 : (hs)[i2]? = some (Ro E8 A2 c2 l2)) {r : Int} (hr : draft_right.impl a0 l1 l2 = some r) :
    Calls Tryd.prog 28 #[.int .i64 a0, .slice A1 l1.length c1, .slice A2 l2.length c2] w fun e w' => ∃ x : Unit, e = .returned (.int .i64 r) ∧ St B hs w' := by
 unfold draft_right.impl at hr
 refine calls_T Tryd.func28 rfl rfl rfl hS ?_
 refine T.front i1 h1 ?_
 refine T.front (i2 + 1) h2 ?_
 refine T.seq ?_
 refine T.region ?_
 refine T.assign .list rfl (wants0 rfl) rfl rfl ?_
 refine T.nil ?_
 refine T.then_normal ?_
 refine T.seq ?_
 refine T.block ?_
 refine T.seqJ (fun (s1 : Bool) (x1 : Unit) => [(1, .slice A1 l1.length c1), (2, .slice A2 l2.length c2), (7, .bool s1)]) (fun s1 x1 => Ro E8 A1 c1 l1 :: Ro E8 A2 c2 l2 :: hs) (fun s1 => draft_right.k1 l1 l2 s1 = some r) (fun s1 x1 hk1 => ?_) (fun J1 => ?_)
 ·unfold draft_right.k1 at hk1
  refine T.cond rfl (fun hb1 => ?_) (fun hb1 => ?_)
  ·replace hk1 := inv_posB hb1 hk1
   refine T.seq ?_
   refine T.region ?_
   refine T.assign .list rfl (wants0 rfl) rfl rfl ?_
   refine T.nil ?_
   refine T.then_normal ?_
   refine T.ret ?_
   refine T.in_ret ?_
   refine T.then_ret ?_
   obtain rfl := inv_some hk1
   refine T.pick [] 2 rfl rfl nla rfl ?_
   refine T.ret1 rfl rfl (fun w hS => ⟨(), rfl, hS⟩)
  ·replace hk1 := inv_negB hb1 hk1
   refine T.seqJ (fun (s2 : Bool) (x2 : Unit) => [(19, .bool s2)]) (fun s2 x2 => hs) (fun s2 => draft_right.k2 s2 = some r) (fun s2 x2 hk2 => ?_) (fun J2 => ?_)
   ·unfold draft_right.k2 at hk2
    refine T.cond rfl (fun hb2 => ?_) (fun hb2 => ?_)
    ·replace hk2 := inv_posB hb2 hk2
     refine T.seq ?_
     refine T.region ?_
     refine T.assign .list rfl (wants0 rfl) rfl rfl ?_
     refine T.nil ?_
     refine T.then_normal ?_
     refine T.ret ?_
     refine T.in_ret ?_
     refine T.then_ret ?_
     obtain rfl := inv_some hk2
     refine T.pick [] 0 rfl rfl nla rfl ?_
     refine T.ret1 rfl rfl (fun w hS => ⟨(), rfl, hS⟩)
    ·replace hk2 := inv_negB hb2 hk2
     refine T.skip ?_
     refine T.in_normal ?_
     refine T.then_normal ?_
     refine T.seq ?_
     refine T.region ?_
     refine T.assign .list rfl (wants0 rfl) rfl rfl ?_
     refine T.nil ?_
     refine T.then_normal ?_
     refine T.ret ?_
     obtain rfl := inv_some hk2
     refine T.pick [] 0 rfl rfl nla rfl ?_
     refine T.ret1 rfl rfl (fun w hS => ⟨(), rfl, hS⟩)
   ·refine T.region ?_
    refine T.move .list rfl (wants0 rfl) rfl rfl ?_
    refine T.lenSlice .list rfl (wants0 rfl) rfl rfl ?_
    refine T.bin .list rfl (wants0 rfl) rfl rfl rfl rfl ?_
    refine T.move .list rfl (wants0 rfl) rfl rfl ?_
    refine T.bool (b := (decide ((60 : Int) < ((l1.length : Int))))) (fun hb3 => ?_) (fun hb3 => ?_)
    ·replace hk1 := inv_posB hb3 hk1
     refine T.leave .list (wantsNot rfl rfl rfl hb3) rfl ?_
     refine T.leave .list (wantsNot rfl rfl rfl hb3) rfl ?_
     refine T.leave .list (wantsNot rfl rfl rfl hb3) rfl ?_
     refine T.pickT .list rfl (wants0 rfl) rfl rfl hb3 rfl ?_
     refine T.assign .list rfl (wants0 rfl) rfl rfl ?_
     refine T.nil ?_
     refine T.then_normal ?_
     exact T.le (EnvLe.cons rfl EnvLe.nil) (T.pick [] 2 rfl rfl nla rfl (J2 true () hk1))
    ·replace hk1 := inv_negB hb3 hk1
     refine T.move .list rfl (wants1 rfl rfl rfl hb3) rfl rfl ?_
     refine T.lenSlice .list rfl (wants1 rfl rfl rfl hb3) rfl rfl ?_
     refine T.bin .list rfl (wants1 rfl rfl rfl hb3) rfl rfl rfl rfl ?_
     refine T.pickF .list rfl (wants0 rfl) rfl rfl hb3 rfl ?_
     refine T.assign .list rfl (wants0 rfl) rfl rfl ?_
     refine T.nil ?_
     refine T.then_normal ?_
     exact T.le (EnvLe.cons rfl EnvLe.nil) (T.pick [] 2 rfl rfl nla rfl (J2 (decide ((1800 : Int) < ((l2.length : Int)))) () hk1))
 ·refine T.region ?_
  refine T.move .list rfl (wants0 rfl) rfl rfl ?_
  refine T.bin .list rfl (wants0 rfl) rfl rfl rfl rfl ?_
  refine T.move .list rfl (wants0 rfl) rfl rfl ?_
  refine T.bool (b := (decide (a0 < 0))) (fun hb4 => ?_) (fun hb4 => ?_)
  ·replace hr := inv_posB hb4 hr
   refine T.leave .list (wantsNot rfl rfl rfl hb4) rfl ?_
   refine T.leave .list (wantsNot rfl rfl rfl hb4) rfl ?_
   refine T.pickT .list rfl (wants0 rfl) rfl rfl hb4 rfl ?_
   refine T.move .list rfl (wants0 rfl) rfl rfl ?_
   refine T.leave .list (wantsNot rfl rfl rfl rfl) rfl ?_
   refine T.leave .list (wantsNot rfl rfl rfl rfl) rfl ?_
   refine T.leave .list (wantsNot rfl rfl rfl rfl) rfl ?_
   refine T.pickT .list rfl (wants0 rfl) rfl rfl rfl rfl ?_
   refine T.assign .list rfl (wants0 rfl) rfl rfl ?_
   refine T.nil ?_
   refine T.then_normal ?_
   exact T.le (EnvLe.cons rfl (EnvLe.cons rfl (EnvLe.cons rfl EnvLe.nil))) (T.pick [1, 0] 2 rfl rfl nla rfl (J1 true () hr))
  ·replace hr := inv_negB hb4 hr
   refine T.move .list rfl (wants1 rfl rfl rfl hb4) rfl rfl ?_
   refine T.bin .list rfl (wants1 rfl rfl rfl hb4) rfl rfl rfl rfl ?_
   refine T.pickF .list rfl (wants0 rfl) rfl rfl hb4 rfl ?_
   refine T.move .list rfl (wants0 rfl) rfl rfl ?_
   refine T.bool (b := (decide ((16 : Int) ≤ a0))) (fun hb5 => ?_) (fun hb5 => ?_)
   ·replace hr := inv_posB hb5 hr
    refine T.leave .list (wantsNot rfl rfl rfl hb5) rfl ?_
    refine T.leave .list (wantsNot rfl rfl rfl hb5) rfl ?_
    refine T.leave .list (wantsNot rfl rfl rfl hb5) rfl ?_
    refine T.pickT .list rfl (wants0 rfl) rfl rfl hb5 rfl ?_
    refine T.assign .list rfl (wants0 rfl) rfl rfl ?_
    refine T.nil ?_
    refine T.then_normal ?_
    exact T.le (EnvLe.cons rfl (EnvLe.cons rfl (EnvLe.cons rfl EnvLe.nil))) (T.pick [1, 0] 2 rfl rfl nla rfl (J1 true () hr))
   ·replace hr := inv_negB hb5 hr
    refine T.move .list rfl (wants1 rfl rfl rfl hb5) rfl rfl ?_
    refine T.lenSlice .list rfl (wants1 rfl rfl rfl hb5) rfl rfl ?_
    refine T.bin .list rfl (wants1 rfl rfl rfl hb5) rfl rfl rfl rfl ?_
    refine T.pickF .list rfl (wants0 rfl) rfl rfl hb5 rfl ?_
    refine T.assign .list rfl (wants0 rfl) rfl rfl ?_
    refine T.nil ?_
    refine T.then_normal ?_
    exact T.le (EnvLe.cons rfl (EnvLe.cons rfl (EnvLe.cons rfl EnvLe.nil))) (T.pick [1, 0] 2 rfl rfl nla rfl (J1 (decide ((((l1.length : Int))) = 0)) () hr))

noncomputable def draft_Draft_last.k1 (s1 : Unit) : Option (((Int × (List UInt8) × (List UInt8)) × Bool) × Bool) :=
  some (((0, ([] : List UInt8), ([] : List UInt8)), false), false)
noncomputable def draft_Draft_last.k2 (s2 : Int) (q0b : List ((Int × (List UInt8) × (List UInt8)) × Bool)) (s3 : Bool) : Option (Int ⊕ ((((Int × (List UInt8) × (List UInt8)) × Bool) × Bool) ⊕ Unit)) :=
  (if s3 = true then chk (0 ≤ s2 ∧ s2 < (q0b.length : Int)) (some (.inr (.inl ((((((((q0b).getD (s2 : Int).toNat default)).1).1), (((((q0b).getD (s2 : Int).toNat default)).1).2.1), (((((q0b).getD (s2 : Int).toNat default)).1).2.2)), ((((q0b).getD (s2 : Int).toNat default)).2)), true)))) else some (.inl (IntKind.i64.wrap (s2 - 1))))
noncomputable def draft_Draft_last.st1 (q0b : List ((Int × (List UInt8) × (List UInt8)) × Bool)) (a1 : Int) (l2 : List UInt8) (s2 : Int) : Option (Int ⊕ ((((Int × (List UInt8) × (List UInt8)) × Bool) × Bool) ⊕ Unit)) :=
  (if ((decide ((0 : Int) ≤ s2))) = true then chk (0 ≤ s2 ∧ s2 < (q0b.length : Int)) ((if ((decide ((((((((q0b).getD (s2 : Int).toNat default)).1).1))) = a1))) = true then chk (0 ≤ s2 ∧ s2 < (q0b.length : Int)) ((bytes_Equal.impl ((((((q0b).getD (s2 : Int).toNat default)).1).2.1)) l2).bind fun r1 => draft_Draft_last.k2 s2 q0b r1) else draft_Draft_last.k2 s2 q0b false)) else some (.inr (.inr ())))
noncomputable def draft_Draft_last.impl (o0a : Int × Int × Int × Int × Int × Int × Int × Int × Int × Int × Int × Int × Int × Int × Int × Int × Int) (o0aa : Int × Int × Int × Int) (o0aaa : Int × Int × Int × Int) (q0aaab : List (Int × Int)) (o0aaac : Int × Bool × Int × Int × Int × Int × Int) (q0aaacb : List (Int × (List UInt8))) (q0aaacc : List (Int × (List UInt8))) (q0aah : List (Int × Int)) (q0aak : List (Int × Int)) (q0b : List ((Int × (List UInt8) × (List UInt8)) × Bool)) (a1 : Int) (l2 : List UInt8) : Option (((Int × (List UInt8) × (List UInt8)) × Bool) × Bool) :=
  (loop (draft_Draft_last.st1 q0b a1 l2) (IntKind.i64.wrap (((q0b.length : Int)) - 1))).bind (fun e1 => match e1 with | .inl v => some v | .inr v => draft_Draft_last.k1 v)
set_option maxRecDepth 100000 in
set_option maxHeartbeats 4000000 in
theorem draft_Draft_last.c {B : World} {hs : List MP} {w : World} {p0 : Nat} {p0a : Nat} {o0a : Int × Int × Int × Int × Int × Int × Int × Int × Int × Int × Int × Int × Int × Int × Int × Int × Int} {p0aa : Nat} {o0aa : Int × Int × Int × Int} {p0aaa : Nat} {o0aaa : Int × Int × Int × Int} {m0aaab : Nat} {q0aaab : List (Int × Int)} {p0aaac : Nat} {o0aaac : Int × Bool × Int × Int × Int × Int × Int} {m0aaacb : Nat} {q0aaacb : List (Int × (List UInt8))} {c0aaacc : Nat} {A0aaacc : Option Addr} {q0aaacc : List (Int × (List UInt8))} {m0aah : Nat} {q0aah : List (Int × Int)} {m0aak : Nat} {q0aak : List (Int × Int)} {c0b : Nat} {A0b : Option Addr} {q0b : List ((Int × (List UInt8) × (List UInt8)) × Bool)} {a1 : Int} {i2 c2 : Nat} {A2 : Option Addr} {l2 : List UInt8} (hB : Base B) (hS : St B (Cl p0 84 [.pointer (some ⟨p0a, 0, none⟩), .slice A0b q0b.length c0b] :: ck4 p0a o0a p0aa :: ck2 p0aa o0aa p0aaa m0aah m0aak :: ck1 p0aaa o0aaa m0aaab p0aaac :: Mp E64 m0aaab q0aaab :: ck0 p0aaac o0aaac m0aaacb A0aaacc q0aaacc.length c0aaacc :: Mp (Elt.slice E8) m0aaacb q0aaacb :: Bf (Elt.pair E64 (Elt.slice E8)) 174 A0aaacc c0aaacc q0aaacc :: Mp E64 m0aah q0aah :: Mp E64 m0aak q0aak :: Bf (Elt.pair (Elt.pair E64 (Elt.pair (Elt.slice E8) (Elt.slice E8))) EBool) 88 A0b c0b q0b :: hs) w) (h2 : (Cl p0 84 [.pointer (some ⟨p0a, 0, none⟩), .slice A0b q0b.length c0b] :: ck4 p0a o0a p0aa :: ck2 p0aa o0aa p0aaa m0aah m0aak :: ck1 p0aaa o0aaa m0aaab p0aaac :: Mp E64 m0aaab q0aaab :: ck0 p0aaac o0aaac m0aaacb A0aaacc q0aaacc.length c0aaacc :: Mp (Elt.slice E8) m0aaacb q0aaacb :: Bf (Elt.pair E64 (Elt.slice E8)) 174 A0aaacc c0aaacc q0aaacc :: Mp E64 m0aah q0aah :: Mp E64 m0aak q0aak :: Bf (Elt.pair (Elt.pair E64 (Elt.pair (Elt.slice E8) (Elt.slice E8))) EBool) 88 A0b c0b q0b :: hs)[i2]? = some (Ro E8 A2 c2 l2)) {r : ((Int × (List UInt8) × (List UInt8)) × Bool) × Bool} (hr : draft_Draft_last.impl o0a o0aa o0aaa q0aaab o0aaac q0aaacb q0aaacc q0aah q0aak q0b a1 l2 = some r) :
    Calls Tryd.prog 48 #[.pointer (some ⟨p0, 0, none⟩), .int .i64 a1, .slice A2 l2.length c2] w fun e w' => ∃ x : (Option Addr × Nat) × (Option Addr × Nat), e = .returned (.tuple #[.agg #[.int .i64 r.1.1.1, .slice x.1.1 r.1.1.2.1.length x.1.2, .slice x.2.1 r.1.1.2.2.length x.2.2, .bool r.1.2], .bool r.2]) ∧ St B (Ro E8 x.1.1 x.1.2 r.1.1.2.1 :: Ro E8 x.2.1 x.2.2 r.1.1.2.2 :: Cl p0 84 [.pointer (some ⟨p0a, 0, none⟩), .slice A0b q0b.length c0b] :: ck4 p0a o0a p0aa :: ck2 p0aa o0aa p0aaa m0aah m0aak :: ck1 p0aaa o0aaa m0aaab p0aaac :: Mp E64 m0aaab q0aaab :: ck0 p0aaac o0aaac m0aaacb A0aaacc q0aaacc.length c0aaacc :: Mp (Elt.slice E8) m0aaacb q0aaacb :: Bf (Elt.pair E64 (Elt.slice E8)) 174 A0aaacc c0aaacc q0aaacc :: Mp E64 m0aah q0aah :: Mp E64 m0aak q0aak :: Bf (Elt.pair (Elt.pair E64 (Elt.pair (Elt.slice E8) (Elt.slice E8))) EBool) 88 A0b c0b q0b :: hs) w' := by
 unfold draft_Draft_last.impl at hr
 refine calls_T Tryd.func48 rfl rfl rfl hS ?_
 refine T.front i2 h2 ?_
 refine T.seq ?_
 refine T.region ?_
 refine T.allocS .list rfl (wants0 rfl) rfl (cs := [.int .i64 0, .slice none 0 0, .slice none 0 0, .bool false]) rfl (fun b1 => ?_)
 refine T.assign .list rfl (wants0 rfl) rfl rfl ?_
 refine T.nil ?_
 refine T.then_normal ?_
 refine T.seqJ (fun (s1 : Unit) (x1 : Unit) => [(6, .pointer (some ⟨b1, 0, none⟩))]) (fun s1 x1 => Cl b1 88 [.int .i64 0, .slice none 0 0, .slice none 0 0, .bool false] :: Cl p0 84 [.pointer (some ⟨p0a, 0, none⟩), .slice A0b q0b.length c0b] :: ck4 p0a o0a p0aa :: ck2 p0aa o0aa p0aaa m0aah m0aak :: ck1 p0aaa o0aaa m0aaab p0aaac :: Mp E64 m0aaab q0aaab :: ck0 p0aaac o0aaac m0aaacb A0aaacc q0aaacc.length c0aaacc :: Mp (Elt.slice E8) m0aaacb q0aaacb :: Bf (Elt.pair E64 (Elt.slice E8)) 174 A0aaacc c0aaacc q0aaacc :: Mp E64 m0aah q0aah :: Mp E64 m0aak q0aak :: Bf (Elt.pair (Elt.pair E64 (Elt.pair (Elt.slice E8) (Elt.slice E8))) EBool) 88 A0b c0b q0b :: hs) (fun s1 => draft_Draft_last.k1 s1 = some r) (fun s1 x1 hk1 => ?_) (fun J1 => ?_)
 ·unfold draft_Draft_last.k1 at hk1
  refine T.seq ?_
  refine T.region ?_
  refine T.build .list (vals := []) (cells := #[.int .i64 0, .slice none 0 0, .slice none 0 0, .bool false]) rfl (wants0 rfl) rfl rfl (run_buildStruct (sizes := [3, 1]) (by kernel_rfl) (by kernel_rfl)) ?_
  refine T.store .list 0 rfl rfl (wants0 rfl) rfl rfl rfl rfl (Nat.le_of_ble_eq_true rfl) rfl (cs' := [.int .i64 0, .slice none 0 0, .slice none 0 0, .bool false]) rfl rfl ?_
  refine T.assign .list rfl (wants0 rfl) rfl rfl ?_
  refine T.nil ?_
  refine T.then_normal ?_
  refine T.ret ?_
  obtain rfl := inv_some hk1
  refine T.nilRo E8 none 0 ?_
  refine T.nilRo E8 none 0 ?_
  refine T.out2 rfl (OutRun.cellN 2 rfl rfl (vs := [.int .i64 0, .slice none 0 0, .slice none 0 0, .bool false]) rfl rfl) (OutRun.tmp rfl) (fun w hS => ⟨((none, 0), (none, 0)), rfl, hS.pick [1, 0, 3, 4, 5, 6, 7, 8, 9, 10, 11, 12, 13] 14 rfl rfl nla rfl⟩)
 ·refine T.seq ?_
  refine T.region ?_
  refine T.move .list rfl (wants0 rfl) rfl rfl ?_
  refine T.nilCheck .list rfl (wants0 rfl) rfl rfl ?_
  refine T.field .list rfl (wants0 rfl) rfl rfl ?_
  refine T.load .list 2 rfl rfl (wants0 rfl) rfl rfl rfl ?_
  refine T.lenSlice .list rfl (wants0 rfl) rfl rfl ?_
  refine T.bin .list rfl (wants0 rfl) rfl rfl rfl rfl ?_
  refine T.assign .list rfl (wants0 rfl) rfl rfl ?_
  refine T.nil ?_
  refine T.then_normal ?_
  refine T.block ?_
  obtain ⟨e1, hl1, hr⟩ := inv_bind hr
  refine T.le (EnvLe.cons rfl (EnvLe.cons rfl (EnvLe.cons rfl (EnvLe.cons rfl (EnvLe.cons rfl EnvLe.nil))))) (T.pick [2, 3, 4, 5, 6, 7, 8, 9, 10, 11, 12, 1, 0] 13 rfl rfl nla rfl (T.loop (s0 := IntKind.i64.wrap (((q0b.length : Int)) - 1)) (env := fun s2 x2 => [(0, .pointer (some ⟨p0, 0, none⟩)), (1, .int .i64 a1), (2, .slice A2 l2.length c2), (6, .pointer (some ⟨b1, 0, none⟩)), (8, .int .i64 s2)]) (hs := fun (s2 : Int) (x2 : Unit) => Cl p0 84 [.pointer (some ⟨p0a, 0, none⟩), .slice A0b q0b.length c0b] :: ck4 p0a o0a p0aa :: ck2 p0aa o0aa p0aaa m0aah m0aak :: ck1 p0aaa o0aaa m0aaab p0aaac :: Mp E64 m0aaab q0aaab :: ck0 p0aaac o0aaac m0aaacb A0aaacc q0aaacc.length c0aaacc :: Mp (Elt.slice E8) m0aaacb q0aaacb :: Bf (Elt.pair E64 (Elt.slice E8)) 174 A0aaacc c0aaacc q0aaacc :: Mp E64 m0aah q0aah :: Mp E64 m0aak q0aak :: Bf (Elt.pair (Elt.pair E64 (Elt.pair (Elt.slice E8) (Elt.slice E8))) EBool) 88 A0b c0b q0b :: Ro E8 A2 c2 l2 :: Cl b1 88 [.int .i64 0, .slice none 0 0, .slice none 0 0, .bool false] :: hs) hl1 () (fun K1 s2 x2 o1 he1 hm1 hx1 => ?_)))
  unfold draft_Draft_last.st1 at he1
  refine T.seq ?_
  refine T.seq ?_
  refine T.region ?_
  refine T.move .list rfl (wants0 rfl) rfl rfl ?_
  refine T.bin .list rfl (wants0 rfl) rfl rfl rfl rfl ?_
  refine T.nil ?_
  refine T.then_normal ?_
  refine T.cond rfl (fun hb1 => ?_) (fun hb1 => ?_)
  ·replace he1 := inv_posB hb1 he1
   refine T.skip ?_
   refine T.then_normal ?_
   refine T.seq ?_
   refine T.block ?_
   refine T.seqJ (fun (s3 : Bool) (x3 : Unit) => [(0, .pointer (some ⟨p0, 0, none⟩)), (1, .int .i64 a1), (2, .slice A2 l2.length c2), (6, .pointer (some ⟨b1, 0, none⟩)), (8, .int .i64 s2), (42, .bool s3)]) (fun s3 x3 => Cl p0 84 [.pointer (some ⟨p0a, 0, none⟩), .slice A0b q0b.length c0b] :: ck4 p0a o0a p0aa :: ck2 p0aa o0aa p0aaa m0aah m0aak :: ck1 p0aaa o0aaa m0aaab p0aaac :: Mp E64 m0aaab q0aaab :: ck0 p0aaac o0aaac m0aaacb A0aaacc q0aaacc.length c0aaacc :: Mp (Elt.slice E8) m0aaacb q0aaacb :: Bf (Elt.pair E64 (Elt.slice E8)) 174 A0aaacc c0aaacc q0aaacc :: Mp E64 m0aah q0aah :: Mp E64 m0aak q0aak :: Bf (Elt.pair (Elt.pair E64 (Elt.pair (Elt.slice E8) (Elt.slice E8))) EBool) 88 A0b c0b q0b :: Ro E8 A2 c2 l2 :: Cl b1 88 [.int .i64 0, .slice none 0 0, .slice none 0 0, .bool false] :: hs) (fun s3 => draft_Draft_last.k2 s2 q0b s3 = some o1) (fun s3 x3 hk2 => ?_) (fun J2 => ?_)
   ·unfold draft_Draft_last.k2 at hk2
    refine T.cond rfl (fun hb2 => ?_) (fun hb2 => ?_)
    ·replace hk2 := inv_posB hb2 hk2
     refine T.seq ?_
     refine T.region ?_
     refine T.move .list rfl (wants0 rfl) rfl rfl ?_
     refine T.nilCheck .list rfl (wants0 rfl) rfl rfl ?_
     refine T.field .list rfl (wants0 rfl) rfl rfl ?_
     refine T.load .list 0 rfl rfl (wants0 rfl) rfl rfl rfl ?_
     refine T.move .list rfl (wants0 rfl) rfl rfl ?_
     obtain ⟨hc1, hk2⟩ := inv_chk hk2
     refine T.idxBf .list 10 rfl rfl (wants0 rfl) rfl rfl rfl hc1.1 hc1.2 (Nat.le_refl _) ?_
     refine T.ldFBf 10 .list Fd.self (Sh.pair (Sh.pair Sh.sc (Sh.pair Sh.slice Sh.slice)) Sh.sc) rfl (.inl rfl) rfl rfl hc1.1 hc1.2 rfl (wants0 rfl) rfl rfl rfl (v := fun x4 => .agg #[.int .i64 ((((((q0b).getD (s2 : Int).toNat default)).1).1)), .slice x4.1.2.1.1 (((((((q0b).getD (s2 : Int).toNat default)).1).2.1)).length) x4.1.2.1.2, .slice x4.1.2.2.1 (((((((q0b).getD (s2 : Int).toNat default)).1).2.2)).length) x4.1.2.2.2, .bool (((((q0b).getD (s2 : Int).toNat default)).2))]) (hs' := fun x4 => Ro E8 x4.1.2.1.1 x4.1.2.1.2 ((((((q0b).getD (s2 : Int).toNat default)).1).2.1)) :: Ro E8 x4.1.2.2.1 x4.1.2.2.2 ((((((q0b).getD (s2 : Int).toNat default)).1).2.2)) :: Cl p0 84 [.pointer (some ⟨p0a, 0, none⟩), .slice A0b q0b.length c0b] :: ck4 p0a o0a p0aa :: ck2 p0aa o0aa p0aaa m0aah m0aak :: ck1 p0aaa o0aaa m0aaab p0aaac :: Mp E64 m0aaab q0aaab :: ck0 p0aaac o0aaac m0aaacb A0aaacc q0aaacc.length c0aaacc :: Mp (Elt.slice E8) m0aaacb q0aaacb :: Bf (Elt.pair E64 (Elt.slice E8)) 174 A0aaacc c0aaacc q0aaacc :: Mp E64 m0aah q0aah :: Mp E64 m0aak q0aak :: Bf (Elt.pair (Elt.pair E64 (Elt.pair (Elt.slice E8) (Elt.slice E8))) EBool) 88 A0b c0b q0b :: Ro E8 A2 c2 l2 :: Cl b1 88 [.int .i64 0, .slice none 0 0, .slice none 0 0, .bool false] :: hs) (fun _ => rfl) (fun _ => rfl) (fun x4 => ?_)
     refine T.store .list 14 rfl rfl (wants0 rfl) rfl rfl rfl rfl (Nat.le_of_ble_eq_true rfl) rfl (cs' := [.int .i64 ((((((q0b).getD (s2 : Int).toNat default)).1).1)), .slice x4.1.2.1.1 (((((((q0b).getD (s2 : Int).toNat default)).1).2.1)).length) x4.1.2.1.2, .slice x4.1.2.2.1 (((((((q0b).getD (s2 : Int).toNat default)).1).2.2)).length) x4.1.2.2.2, .bool (((((q0b).getD (s2 : Int).toNat default)).2))]) rfl rfl ?_
     refine T.assign .list rfl (wants0 rfl) rfl rfl ?_
     refine T.nil ?_
     refine T.then_normal ?_
     refine T.ret ?_
     refine T.in_ret ?_
     refine T.then_ret ?_
     refine T.then_ret ?_
     obtain rfl := inv_some hk2
     obtain rfl := hx1 _ rfl
     refine T.in_ret ?_
     refine T.then_ret ?_
     obtain rfl := inv_some hr
     refine T.out2 rfl (OutRun.cellN 14 rfl rfl (vs := [.int .i64 ((((((q0b).getD (s2 : Int).toNat default)).1).1)), .slice x4.1.2.1.1 (((((((q0b).getD (s2 : Int).toNat default)).1).2.1)).length) x4.1.2.1.2, .slice x4.1.2.2.1 (((((((q0b).getD (s2 : Int).toNat default)).1).2.2)).length) x4.1.2.2.2, .bool (((((q0b).getD (s2 : Int).toNat default)).2))]) rfl rfl) (OutRun.tmp rfl) (fun w hS => ⟨x4.1.2, rfl, hS.pick [0, 1, 2, 3, 4, 5, 6, 7, 8, 9, 10, 11, 12] 15 rfl rfl nla rfl⟩)
    ·replace hk2 := inv_negB hb2 hk2
     refine T.skip ?_
     refine T.in_normal ?_
     refine T.then_normal ?_
     refine T.region ?_
     refine T.move .list rfl (wants0 rfl) rfl rfl ?_
     refine T.bin .list rfl (wants0 rfl) rfl rfl rfl rfl ?_
     refine T.assign .list rfl (wants0 rfl) rfl rfl ?_
     refine T.nil ?_
     refine T.then_normal ?_
     obtain rfl := inv_some hk2
     exact T.le (EnvLe.cons rfl (EnvLe.cons rfl (EnvLe.cons rfl (EnvLe.cons rfl (EnvLe.cons rfl EnvLe.nil))))) (T.pick [0, 1, 2, 3, 4, 5, 6, 7, 8, 9, 10, 11, 12] 13 rfl rfl nla rfl (hm1 (IntKind.i64.wrap (s2 - 1)) rfl ()))
   ·refine T.region ?_
    refine T.move .list rfl (wants0 rfl) rfl rfl ?_
    refine T.nilCheck .list rfl (wants0 rfl) rfl rfl ?_
    refine T.field .list rfl (wants0 rfl) rfl rfl ?_
    refine T.load .list 0 rfl rfl (wants0 rfl) rfl rfl rfl ?_
    refine T.move .list rfl (wants0 rfl) rfl rfl ?_
    obtain ⟨hc2, he1⟩ := inv_chk he1
    refine T.idxBf .list 10 rfl rfl (wants0 rfl) rfl rfl rfl hc2.1 hc2.2 (Nat.le_refl _) ?_
    refine T.fieldBf .list 10 rfl hc2.1 hc2.2 rfl (wants0 rfl) rfl rfl ?_
    refine T.fieldBf .list 10 rfl hc2.1 hc2.2 rfl (wants0 rfl) rfl rfl ?_
    refine T.fldBf 10 .list (Fd.fst (Fd.fst Fd.self)) rfl rfl hc2.1 hc2.2 rfl (wants0 rfl) rfl rfl rfl ?_
    refine T.move .list rfl (wants0 rfl) rfl rfl ?_
    refine T.bin .list rfl (wants0 rfl) rfl rfl rfl rfl ?_
    refine T.move .list rfl (wants0 rfl) rfl rfl ?_
    refine T.bool (b := (decide ((((((((q0b).getD (s2 : Int).toNat default)).1).1))) = a1))) (fun hb3 => ?_) (fun hb3 => ?_)
    ·replace he1 := inv_posB hb3 he1
     refine T.move .list rfl (wants1 rfl rfl rfl hb3) rfl rfl ?_
     refine T.nilCheck .list rfl (wants1 rfl rfl rfl hb3) rfl rfl ?_
     refine T.field .list rfl (wants1 rfl rfl rfl hb3) rfl rfl ?_
     refine T.load .list 0 rfl rfl (wants1 rfl rfl rfl hb3) rfl rfl rfl ?_
     refine T.move .list rfl (wants1 rfl rfl rfl hb3) rfl rfl ?_
     obtain ⟨hc3, he1⟩ := inv_chk he1
     refine T.idxBf .list 10 rfl rfl (wants1 rfl rfl rfl hb3) rfl rfl rfl hc3.1 hc3.2 (Nat.le_refl _) ?_
     refine T.fieldBf .list 10 rfl hc3.1 hc3.2 rfl (wants1 rfl rfl rfl hb3) rfl rfl ?_
     refine T.fieldBf .list 10 rfl hc3.1 hc3.2 rfl (wants1 rfl rfl rfl hb3) rfl rfl ?_
     refine T.ldFBf 10 .list (Fd.fst (Fd.snd (Fd.fst Fd.self))) Sh.slice rfl (.inr rfl) rfl rfl hc3.1 hc3.2 rfl (wants1 rfl rfl rfl hb3) rfl rfl rfl (v := fun x5 => .slice x5.1 (((((((q0b).getD (s2 : Int).toNat default)).1).2.1)).length) x5.2) (hs' := fun x5 => Ro E8 x5.1 x5.2 ((((((q0b).getD (s2 : Int).toNat default)).1).2.1)) :: Cl p0 84 [.pointer (some ⟨p0a, 0, none⟩), .slice A0b q0b.length c0b] :: ck4 p0a o0a p0aa :: ck2 p0aa o0aa p0aaa m0aah m0aak :: ck1 p0aaa o0aaa m0aaab p0aaac :: Mp E64 m0aaab q0aaab :: ck0 p0aaac o0aaac m0aaacb A0aaacc q0aaacc.length c0aaacc :: Mp (Elt.slice E8) m0aaacb q0aaacb :: Bf (Elt.pair E64 (Elt.slice E8)) 174 A0aaacc c0aaacc q0aaacc :: Mp E64 m0aah q0aah :: Mp E64 m0aak q0aak :: Bf (Elt.pair (Elt.pair E64 (Elt.pair (Elt.slice E8) (Elt.slice E8))) EBool) 88 A0b c0b q0b :: Ro E8 A2 c2 l2 :: Cl b1 88 [.int .i64 0, .slice none 0 0, .slice none 0 0, .bool false] :: hs) (fun _ => rfl) (fun _ => rfl) (fun x5 => ?_)
     refine T.move .list rfl (wants1 rfl rfl rfl hb3) rfl rfl ?_
     obtain ⟨r1, hg1, he1⟩ := inv_bind he1
     refine T.call .list (wants1 rfl rfl rfl hb3) rfl (run_callF (vs := [_, _]) rfl Tryd.func52 rfl (by decide) rfl) (fun w hS => bytes_Equal.c hB hS (i0 := 0) (i1 := 12) rfl rfl hg1) (fun x6 => ?_)
     refine T.pickT .list rfl (wants0 rfl) rfl rfl hb3 rfl ?_
     refine T.nil ?_
     refine T.then_normal ?_
     exact T.le (EnvLe.cons rfl (EnvLe.cons rfl (EnvLe.cons rfl (EnvLe.cons rfl (EnvLe.cons rfl (EnvLe.cons rfl EnvLe.nil)))))) (T.pick [1, 2, 3, 4, 5, 6, 7, 8, 9, 10, 11, 12, 13] 14 rfl rfl nla rfl (J2 r1 () he1))
    ·replace he1 := inv_negB hb3 he1
     refine T.leave .list (wantsNot rfl rfl rfl hb3) rfl ?_
     refine T.leave .list (wantsNot rfl rfl rfl hb3) rfl ?_
     refine T.leave .list (wantsNot rfl rfl rfl hb3) rfl ?_
     refine T.leave .list (wantsNot rfl rfl rfl hb3) rfl ?_
     refine T.leave .list (wantsNot rfl rfl rfl hb3) rfl ?_
     refine T.leave .list (wantsNot rfl rfl rfl hb3) rfl ?_
     refine T.leave .list (wantsNot rfl rfl rfl hb3) rfl ?_
     refine T.leave .list (wantsNot rfl rfl rfl hb3) rfl ?_
     refine T.leave .list (wantsNot rfl rfl rfl hb3) rfl ?_
     refine T.leave .list (wantsNot rfl rfl rfl hb3) rfl ?_
     refine T.leave .list (wantsNot rfl rfl rfl hb3) rfl ?_
     refine T.pickF .list rfl (wants0 rfl) rfl rfl hb3 rfl ?_
     refine T.nil ?_
     refine T.then_normal ?_
     exact T.le (EnvLe.cons rfl (EnvLe.cons rfl (EnvLe.cons rfl (EnvLe.cons rfl (EnvLe.cons rfl (EnvLe.cons rfl EnvLe.nil)))))) (T.pick [0, 1, 2, 3, 4, 5, 6, 7, 8, 9, 10, 11, 12] 13 rfl rfl nla rfl (J2 false () he1))
  ·replace he1 := inv_negB hb1 he1
   refine T.exit ?_
   refine T.then_exit ?_
   refine T.then_exit ?_
   obtain rfl := inv_some he1
   obtain rfl := hx1 _ rfl
   refine T.in_hit ?_
   refine T.then_normal ?_
   exact T.le (EnvLe.cons rfl EnvLe.nil) (T.pick [12, 0, 1, 2, 3, 4, 5, 6, 7, 8, 9, 10] 13 rfl rfl nla rfl (J1 () () hr))

noncomputable def draft_Draft_Get.impl (o0a : Int × Int × Int × Int × Int × Int × Int × Int × Int × Int × Int × Int × Int × Int × Int × Int × Int) (o0aa : Int × Int × Int × Int) (o0aaa : Int × Int × Int × Int) (q0aaab : List (Int × Int)) (o0aaac : Int × Bool × Int × Int × Int × Int × Int) (q0aaacb : List (Int × (List UInt8))) (q0aaacc : List (Int × (List UInt8))) (q0aah : List (Int × Int)) (q0aak : List (Int × Int)) (q0b : List ((Int × (List UInt8) × (List UInt8)) × Bool)) (a1 : Int) (l2 : List UInt8) : Option (List UInt8 × Bool × Int) :=
  (local_Store_Get.impl o0a o0aa o0aaa q0aaab o0aaac q0aaacb q0aaacc q0aah q0aak a1 l2).bind fun r1 => (if ((!(decide (r1.2.2 = 0)))) = true then some (([] : List UInt8), false, r1.2.2) else (draft_Draft_last.impl o0a o0aa o0aaa q0aaab o0aaac q0aaacb q0aaacc q0aah q0aak q0b a1 l2).bind fun r2 => (if r2.2 = true then (slices_Clone.impl r2.1.1.2.2).bind fun r3 => some (r3, (!r2.1.2), 0) else some (([] : List UInt8), r1.2.1, 0)))
set_option maxRecDepth 100000 in
set_option maxHeartbeats 4000000 in
theorem draft_Draft_Get.c {B : World} {hs : List MP} {w : World} {p0 : Nat} {p0a : Nat} {o0a : Int × Int × Int × Int × Int × Int × Int × Int × Int × Int × Int × Int × Int × Int × Int × Int × Int} {p0aa : Nat} {o0aa : Int × Int × Int × Int} {p0aaa : Nat} {o0aaa : Int × Int × Int × Int} {m0aaab : Nat} {q0aaab : List (Int × Int)} {p0aaac : Nat} {o0aaac : Int × Bool × Int × Int × Int × Int × Int} {m0aaacb : Nat} {q0aaacb : List (Int × (List UInt8))} {c0aaacc : Nat} {A0aaacc : Option Addr} {q0aaacc : List (Int × (List UInt8))} {m0aah : Nat} {q0aah : List (Int × Int)} {m0aak : Nat} {q0aak : List (Int × Int)} {c0b : Nat} {A0b : Option Addr} {q0b : List ((Int × (List UInt8) × (List UInt8)) × Bool)} {a1 : Int} {i2 c2 : Nat} {A2 : Option Addr} {l2 : List UInt8} (hB : Base B) (hS : St B (Cl p0 84 [.pointer (some ⟨p0a, 0, none⟩), .slice A0b q0b.length c0b] :: ck4 p0a o0a p0aa :: ck2 p0aa o0aa p0aaa m0aah m0aak :: ck1 p0aaa o0aaa m0aaab p0aaac :: Mp E64 m0aaab q0aaab :: ck0 p0aaac o0aaac m0aaacb A0aaacc q0aaacc.length c0aaacc :: Mp (Elt.slice E8) m0aaacb q0aaacb :: Bf (Elt.pair E64 (Elt.slice E8)) 174 A0aaacc c0aaacc q0aaacc :: Mp E64 m0aah q0aah :: Mp E64 m0aak q0aak :: Bf (Elt.pair (Elt.pair E64 (Elt.pair (Elt.slice E8) (Elt.slice E8))) EBool) 88 A0b c0b q0b :: hs) w) (h2 : (Cl p0 84 [.pointer (some ⟨p0a, 0, none⟩), .slice A0b q0b.length c0b] :: ck4 p0a o0a p0aa :: ck2 p0aa o0aa p0aaa m0aah m0aak :: ck1 p0aaa o0aaa m0aaab p0aaac :: Mp E64 m0aaab q0aaab :: ck0 p0aaac o0aaac m0aaacb A0aaacc q0aaacc.length c0aaacc :: Mp (Elt.slice E8) m0aaacb q0aaacb :: Bf (Elt.pair E64 (Elt.slice E8)) 174 A0aaacc c0aaacc q0aaacc :: Mp E64 m0aah q0aah :: Mp E64 m0aak q0aak :: Bf (Elt.pair (Elt.pair E64 (Elt.pair (Elt.slice E8) (Elt.slice E8))) EBool) 88 A0b c0b q0b :: hs)[i2]? = some (Ro E8 A2 c2 l2)) {r : List UInt8 × Bool × Int} (hr : draft_Draft_Get.impl o0a o0aa o0aaa q0aaab o0aaac q0aaacb q0aaacc q0aah q0aak q0b a1 l2 = some r) :
    Calls Tryd.prog 31 #[.pointer (some ⟨p0, 0, none⟩), .int .i64 a1, .slice A2 l2.length c2] w fun e w' => ∃ x : (Option Addr × Nat), e = .returned (.tuple #[.slice x.1 r.1.length x.2, .bool r.2.1, .int .i64 r.2.2]) ∧ St B (Bf E8 5 x.1 x.2 r.1 :: Cl p0 84 [.pointer (some ⟨p0a, 0, none⟩), .slice A0b q0b.length c0b] :: ck4 p0a o0a p0aa :: ck2 p0aa o0aa p0aaa m0aah m0aak :: ck1 p0aaa o0aaa m0aaab p0aaac :: Mp E64 m0aaab q0aaab :: ck0 p0aaac o0aaac m0aaacb A0aaacc q0aaacc.length c0aaacc :: Mp (Elt.slice E8) m0aaacb q0aaacb :: Bf (Elt.pair E64 (Elt.slice E8)) 174 A0aaacc c0aaacc q0aaacc :: Mp E64 m0aah q0aah :: Mp E64 m0aak q0aak :: Bf (Elt.pair (Elt.pair E64 (Elt.pair (Elt.slice E8) (Elt.slice E8))) EBool) 88 A0b c0b q0b :: hs) w' := by
 unfold draft_Draft_Get.impl at hr
 refine calls_T Tryd.func31 rfl rfl rfl hS ?_
 refine T.front i2 h2 ?_
 refine T.seq ?_
 refine T.region ?_
 refine T.assign .list rfl (wants0 rfl) rfl rfl ?_
 refine T.assign .list rfl (wants0 rfl) rfl rfl ?_
 refine T.assign .list rfl (wants0 rfl) rfl rfl ?_
 refine T.nil ?_
 refine T.then_normal ?_
 refine T.seq ?_
 refine T.region ?_
 refine T.move .list rfl (wants0 rfl) rfl rfl ?_
 refine T.nilCheck .list rfl (wants0 rfl) rfl rfl ?_
 refine T.field .list rfl (wants0 rfl) rfl rfl ?_
 refine T.load .list 1 rfl rfl (wants0 rfl) rfl rfl rfl ?_
 refine T.move .list rfl (wants0 rfl) rfl rfl ?_
 refine T.move .list rfl (wants0 rfl) rfl rfl ?_
 refine T.pick [2, 3, 4, 5, 6, 7, 8, 9, 10, 0, 1, 11] 12 rfl rfl nla (hs' := ck4 p0a o0a p0aa :: ck2 p0aa o0aa p0aaa m0aah m0aak :: ck1 p0aaa o0aaa m0aaab p0aaac :: Mp E64 m0aaab q0aaab :: ck0 p0aaac o0aaac m0aaacb A0aaacc q0aaacc.length c0aaacc :: Mp (Elt.slice E8) m0aaacb q0aaacb :: Bf (Elt.pair E64 (Elt.slice E8)) 174 A0aaacc c0aaacc q0aaacc :: Mp E64 m0aah q0aah :: Mp E64 m0aak q0aak :: Ro E8 A2 c2 l2 :: Cl p0 84 [.pointer (some ⟨p0a, 0, none⟩), .slice A0b q0b.length c0b] :: Bf (Elt.pair (Elt.pair E64 (Elt.pair (Elt.slice E8) (Elt.slice E8))) EBool) 88 A0b c0b q0b :: hs) rfl ?_
 obtain ⟨r1, hg1, hr⟩ := inv_bind hr
 refine T.call .list (wants0 rfl) rfl (run_callF (vs := [_, _, _]) rfl Tryd.func47 rfl (by decide) rfl) (fun w hS => local_Store_Get.c hB hS (i2 := 9) (o0 := o0a) (o0a := o0aa) (o0aa := o0aaa) (q0aab := q0aaab) (o0aac := o0aaac) (q0aacb := q0aaacb) (q0aacc := q0aaacc) (q0ah := q0aah) (q0ak := q0aak) rfl hg1) (fun x1 => ?_)
 refine T.move .list rfl (wants0 rfl) rfl rfl ?_
 refine T.extract .list rfl (wants0 rfl) rfl rfl rfl ?_
 refine T.extract .list rfl (wants0 rfl) rfl rfl rfl ?_
 refine T.extract .list rfl (wants0 rfl) rfl rfl rfl ?_
 refine T.assign .list rfl (wants0 rfl) rfl rfl ?_
 refine T.assign .list rfl (wants0 rfl) rfl rfl ?_
 refine T.assign .list rfl (wants0 rfl) rfl rfl ?_
 refine T.nil ?_
 refine T.then_normal ?_
 refine T.seq ?_
 refine T.seq ?_
 refine T.region ?_
 refine T.move .list rfl (wants0 rfl) rfl rfl ?_
 refine T.bin .list rfl (wants0 rfl) rfl rfl rfl rfl ?_
 refine T.nil ?_
 refine T.then_normal ?_
 refine T.cond rfl (fun hb1 => ?_) (fun hb1 => ?_)
 ·replace hr := inv_posB hb1 hr
  refine T.seq ?_
  refine T.region ?_
  refine T.move .list rfl (wants0 rfl) rfl rfl ?_
  refine T.assign .list rfl (wants0 rfl) rfl rfl ?_
  refine T.assign .list rfl (wants0 rfl) rfl rfl ?_
  refine T.assign .list rfl (wants0 rfl) rfl rfl ?_
  refine T.nil ?_
  refine T.then_normal ?_
  refine T.ret ?_
  refine T.then_ret ?_
  obtain rfl := inv_some hr
  refine T.nilBf E8 5 ?_
  refine T.pick [0, 11, 1, 2, 3, 4, 5, 6, 7, 8, 9, 12] 13 rfl rfl nla rfl ?_
  refine T.ret3 rfl rfl rfl rfl (fun w hS => ⟨(none, 0), rfl, hS⟩)
 ·replace hr := inv_negB hb1 hr
  refine T.skip ?_
  refine T.then_normal ?_
  refine T.seq ?_
  refine T.seq ?_
  refine T.region ?_
  refine T.move .list rfl (wants0 rfl) rfl rfl ?_
  refine T.move .list rfl (wants0 rfl) rfl rfl ?_
  refine T.move .list rfl (wants0 rfl) rfl rfl ?_
  refine T.pick [10, 0, 1, 2, 3, 4, 5, 6, 7, 8, 11, 9] 12 rfl rfl nla (hs' := Cl p0 84 [.pointer (some ⟨p0a, 0, none⟩), .slice A0b q0b.length c0b] :: ck4 p0a o0a p0aa :: ck2 p0aa o0aa p0aaa m0aah m0aak :: ck1 p0aaa o0aaa m0aaab p0aaac :: Mp E64 m0aaab q0aaab :: ck0 p0aaac o0aaac m0aaacb A0aaacc q0aaacc.length c0aaacc :: Mp (Elt.slice E8) m0aaacb q0aaacb :: Bf (Elt.pair E64 (Elt.slice E8)) 174 A0aaacc c0aaacc q0aaacc :: Mp E64 m0aah q0aah :: Mp E64 m0aak q0aak :: Bf (Elt.pair (Elt.pair E64 (Elt.pair (Elt.slice E8) (Elt.slice E8))) EBool) 88 A0b c0b q0b :: Ro E8 A2 c2 l2 :: hs) rfl ?_
  obtain ⟨r2, hg2, hr⟩ := inv_bind hr
  refine T.call .list (wants0 rfl) rfl (run_callF (vs := [_, _, _]) rfl Tryd.func48 rfl (by decide) rfl) (fun w hS => draft_Draft_last.c hB hS (i2 := 11) (o0a := o0a) (o0aa := o0aa) (o0aaa := o0aaa) (q0aaab := q0aaab) (o0aaac := o0aaac) (q0aaacb := q0aaacb) (q0aaacc := q0aaacc) (q0aah := q0aah) (q0aak := q0aak) (q0b := q0b) rfl hg2) (fun x2 => ?_)
  refine T.move .list rfl (wants0 rfl) rfl rfl ?_
  refine T.extract .list rfl (wants0 rfl) rfl rfl rfl ?_
  refine T.extract .list rfl (wants0 rfl) rfl rfl rfl ?_
  refine T.allocS .list rfl (wants0 rfl) rfl (cs := [.int .i64 0, .slice none 0 0, .slice none 0 0, .bool false]) rfl (fun b1 => ?_)
  refine T.store .list 0 rfl rfl (wants0 rfl) rfl rfl rfl rfl (Nat.le_of_ble_eq_true rfl) rfl (cs' := [.int .i64 r2.1.1.1, .slice x2.1.1 r2.1.1.2.1.length x2.1.2, .slice x2.2.1 r2.1.1.2.2.length x2.2.2, .bool r2.1.2]) rfl rfl ?_
  refine T.assign .list rfl (wants0 rfl) rfl rfl ?_
  refine T.nil ?_
  refine T.then_normal ?_
  refine T.seq ?_
  refine T.region ?_
  refine T.move .list rfl (wants0 rfl) rfl rfl ?_
  refine T.nil ?_
  refine T.then_normal ?_
  refine T.cond rfl (fun hb2 => ?_) (fun hb2 => ?_)
  ·replace hr := inv_posB hb2 hr
   refine T.seq ?_
   refine T.dStart mixed ?_
   refine T.field (.dPure (i := 0) rfl (by kernel_rfl) (fun d _ _ _ _ h => by cases d <;> exact h)) rfl (wants0 rfl) rfl rfl ?_
   refine T.field (.dPure (i := 1) rfl (by kernel_rfl) (fun d _ _ _ _ h => by cases d <;> exact h)) rfl (wants0 rfl) rfl rfl ?_
   refine T.field (.dPure (i := 4) rfl (by kernel_rfl) (fun d _ _ _ _ h => by cases d <;> exact h)) rfl (wants0 rfl) rfl rfl ?_
   refine T.dAdd 10 (fun w => w.heap[b1]? = some (.cells [.int .i64 r2.1.1.1, .slice x2.1.1 r2.1.1.2.1.length x2.1.2, .slice x2.2.1 r2.1.1.2.2.length x2.2.2, .bool r2.1.2].toArray 88 (0, 0))) (Cl.stays 0 rfl) ?_
   refine T.valS 0 (i := 2) (.slice x2.2.1 r2.1.1.2.2.length x2.2.2) rfl rfl (by kernel_rfl) (by kernel_rfl) (fun d _ _ _ _ h => by cases d <;> exact h) (wants0 rfl) rfl (run_ldCl rfl rfl rfl) ?_
   refine T.valS 0 (i := 5) (.bool r2.1.2) rfl rfl (by kernel_rfl) (by kernel_rfl) (fun d _ _ _ _ h => by cases d <;> exact h) (wants0 rfl) rfl (run_ldCl rfl rfl rfl) ?_
   refine T.not (.dPure (i := 6) rfl (by kernel_rfl) (fun d _ _ _ _ h => by cases d <;> exact h)) rfl (wants0 rfl) rfl rfl ?_
   obtain ⟨r3, hg3, hr⟩ := inv_bind hr
   refine T.dOnly (i := 3) (by kernel_rfl) ?_
   refine T.call (.dOne rfl (by kernel_rfl)) (wants0 rfl) rfl (run_callF (vs := [_]) rfl Tryd.func29 rfl (by decide) rfl) (fun w hS => slices_Clone.c hB hS (i0 := 2) rfl hg3) (fun x3 => ?_)
   refine T.dNext (phi_cons (.inr (Cl.stays 1 rfl)) phi_nil) ?_
   refine T.assign (.dPure (i := 7) rfl (by kernel_rfl) (fun d _ _ _ _ h => by cases d <;> exact h)) rfl (wants0 rfl) rfl rfl ?_
   refine T.assign (.dPure (i := 8) rfl (by kernel_rfl) (fun d _ _ _ _ h => by cases d <;> exact h)) rfl (wants0 rfl) rfl rfl ?_
   refine T.assign (.dPure (i := 9) rfl (by kernel_rfl) (fun d _ _ _ _ h => by cases d <;> exact h)) rfl (wants0 rfl) rfl rfl ?_
   refine T.dDone (by kernel_rfl) ?_
   refine T.then_normal ?_
   refine T.ret ?_
   refine T.then_ret ?_
   obtain rfl := inv_some hr
   refine T.pick [0, 4, 5, 6, 7, 8, 9, 10, 11, 12, 13, 14] 16 rfl rfl nla rfl ?_
   refine T.ret3 rfl rfl rfl rfl (fun w hS => ⟨x3, rfl, hS⟩)
  ·replace hr := inv_negB hb2 hr
   refine T.skip ?_
   refine T.then_normal ?_
   refine T.seq ?_
   refine T.region ?_
   refine T.move .list rfl (wants0 rfl) rfl rfl ?_
   refine T.move .list rfl (wants0 rfl) rfl rfl ?_
   refine T.assign .list rfl (wants0 rfl) rfl rfl ?_
   refine T.assign .list rfl (wants0 rfl) rfl rfl ?_
   refine T.assign .list rfl (wants0 rfl) rfl rfl ?_
   refine T.nil ?_
   refine T.then_normal ?_
   refine T.ret ?_
   obtain rfl := inv_some hr
   refine T.nilBf E8 5 ?_
   refine T.pick [0, 4, 5, 6, 7, 8, 9, 10, 11, 12, 13, 14] 16 rfl rfl nla rfl ?_
   refine T.ret3 rfl rfl rfl rfl (fun w hS => ⟨(none, 0), rfl, hS⟩)

noncomputable def draft_Draft_Put.impl (o0a : Int × Int × Int × Int × Int × Int × Int × Int × Int × Int × Int × Int × Int × Int × Int × Int × Int) (o0aa : Int × Int × Int × Int) (o0aaa : Int × Int × Int × Int) (q0aaab : List (Int × Int)) (o0aaac : Int × Bool × Int × Int × Int × Int × Int) (q0aaacb : List (Int × (List UInt8))) (q0aaacc : List (Int × (List UInt8))) (q0aah : List (Int × Int)) (q0aak : List (Int × Int)) (q0b : List ((Int × (List UInt8) × (List UInt8)) × Bool)) (a1 : Int) (l2 : List UInt8) (l3 : List UInt8) : Option (Int × (List ((Int × (List UInt8) × (List UInt8)) × Bool))) :=
  (draft_right.impl a1 l2 l3).bind fun r1 => (if ((!(decide (r1 = 0)))) = true then some (r1, q0b) else (slices_Clone.impl l2).bind fun r2 => (slices_Clone.impl l3).bind fun r3 => chk ((q0b.length + (([((a1, r2, r3), false)] : List ((Int × (List UInt8) × (List UInt8)) × Bool))).length) * 64 ≤ 140737488355328) (some (0, (q0b ++ (([((a1, r2, r3), false)] : List ((Int × (List UInt8) × (List UInt8)) × Bool)))))))
set_option maxRecDepth 100000 in
set_option maxHeartbeats 4000000 in
theorem draft_Draft_Put.c {B : World} {hs : List MP} {w : World} {p0 : Nat} {p0a : Nat} {o0a : Int × Int × Int × Int × Int × Int × Int × Int × Int × Int × Int × Int × Int × Int × Int × Int × Int} {p0aa : Nat} {o0aa : Int × Int × Int × Int} {p0aaa : Nat} {o0aaa : Int × Int × Int × Int} {m0aaab : Nat} {q0aaab : List (Int × Int)} {p0aaac : Nat} {o0aaac : Int × Bool × Int × Int × Int × Int × Int} {m0aaacb : Nat} {q0aaacb : List (Int × (List UInt8))} {c0aaacc : Nat} {A0aaacc : Option Addr} {q0aaacc : List (Int × (List UInt8))} {m0aah : Nat} {q0aah : List (Int × Int)} {m0aak : Nat} {q0aak : List (Int × Int)} {c0b : Nat} {A0b : Option Addr} {q0b : List ((Int × (List UInt8) × (List UInt8)) × Bool)} {a1 : Int} {i2 c2 : Nat} {A2 : Option Addr} {l2 : List UInt8} {i3 c3 : Nat} {A3 : Option Addr} {l3 : List UInt8} (hB : Base B) (hS : St B (Cl p0 84 [.pointer (some ⟨p0a, 0, none⟩), .slice A0b q0b.length c0b] :: ck4 p0a o0a p0aa :: ck2 p0aa o0aa p0aaa m0aah m0aak :: ck1 p0aaa o0aaa m0aaab p0aaac :: Mp E64 m0aaab q0aaab :: ck0 p0aaac o0aaac m0aaacb A0aaacc q0aaacc.length c0aaacc :: Mp (Elt.slice E8) m0aaacb q0aaacb :: Bf (Elt.pair E64 (Elt.slice E8)) 174 A0aaacc c0aaacc q0aaacc :: Mp E64 m0aah q0aah :: Mp E64 m0aak q0aak :: Bf (Elt.pair (Elt.pair E64 (Elt.pair (Elt.slice E8) (Elt.slice E8))) EBool) 88 A0b c0b q0b :: hs) w) (h2 : (Cl p0 84 [.pointer (some ⟨p0a, 0, none⟩), .slice A0b q0b.length c0b] :: ck4 p0a o0a p0aa :: ck2 p0aa o0aa p0aaa m0aah m0aak :: ck1 p0aaa o0aaa m0aaab p0aaac :: Mp E64 m0aaab q0aaab :: ck0 p0aaac o0aaac m0aaacb A0aaacc q0aaacc.length c0aaacc :: Mp (Elt.slice E8) m0aaacb q0aaacb :: Bf (Elt.pair E64 (Elt.slice E8)) 174 A0aaacc c0aaacc q0aaacc :: Mp E64 m0aah q0aah :: Mp E64 m0aak q0aak :: Bf (Elt.pair (Elt.pair E64 (Elt.pair (Elt.slice E8) (Elt.slice E8))) EBool) 88 A0b c0b q0b :: hs)[i2]? = some (Ro E8 A2 c2 l2)) (h3 : (Cl p0 84 [.pointer (some ⟨p0a, 0, none⟩), .slice A0b q0b.length c0b] :: ck4 p0a o0a p0aa :: ck2 p0aa o0aa p0aaa m0aah m0aak :: ck1 p0aaa o0aaa m0aaab p0aaac :: Mp E64 m0aaab q0aaab :: ck0 p0aaac o0aaac m0aaacb A0aaacc q0aaacc.length c0aaacc :: Mp (Elt.slice E8) m0aaacb q0aaacb :: Bf (Elt.pair E64 (Elt.slice E8)) 174 A0aaacc c0aaacc q0aaacc :: Mp E64 m0aah q0aah :: Mp E64 m0aak q0aak :: Bf (Elt.pair (Elt.pair E64 (Elt.pair (Elt.slice E8) (Elt.slice E8))) EBool) 88 A0b c0b q0b :: hs)[i3]? = some (Ro E8 A3 c3 l3)) {r : Int × (List ((Int × (List UInt8) × (List UInt8)) × Bool))} (hr : draft_Draft_Put.impl o0a o0aa o0aaa q0aaab o0aaac q0aaacb q0aaacc q0aah q0aak q0b a1 l2 l3 = some r) :
    Calls Tryd.prog 16 #[.pointer (some ⟨p0, 0, none⟩), .int .i64 a1, .slice A2 l2.length c2, .slice A3 l3.length c3] w fun e w' => ∃ x : (Option Addr × Nat), e = .returned (.int .i64 r.1) ∧ St B (Cl p0 84 [.pointer (some ⟨p0a, 0, none⟩), .slice x.1 r.2.length x.2] :: ck4 p0a o0a p0aa :: ck2 p0aa o0aa p0aaa m0aah m0aak :: ck1 p0aaa o0aaa m0aaab p0aaac :: Mp E64 m0aaab q0aaab :: ck0 p0aaac o0aaac m0aaacb A0aaacc q0aaacc.length c0aaacc :: Mp (Elt.slice E8) m0aaacb q0aaacb :: Bf (Elt.pair E64 (Elt.slice E8)) 174 A0aaacc c0aaacc q0aaacc :: Mp E64 m0aah q0aah :: Mp E64 m0aak q0aak :: Bf (Elt.pair (Elt.pair E64 (Elt.pair (Elt.slice E8) (Elt.slice E8))) EBool) 88 x.1 x.2 r.2 :: hs) w' := by
 unfold draft_Draft_Put.impl at hr
 refine calls_T Tryd.func16 rfl rfl rfl hS ?_
 refine T.front i2 h2 ?_
 refine T.front (i3 + 1) h3 ?_
 refine T.seq ?_
 refine T.region ?_
 refine T.assign .list rfl (wants0 rfl) rfl rfl ?_
 refine T.nil ?_
 refine T.then_normal ?_
 refine T.seq ?_
 refine T.seq ?_
 refine T.region ?_
 refine T.move .list rfl (wants0 rfl) rfl rfl ?_
 refine T.move .list rfl (wants0 rfl) rfl rfl ?_
 refine T.move .list rfl (wants0 rfl) rfl rfl ?_
 obtain ⟨r1, hg1, hr⟩ := inv_bind hr
 refine T.call .list (wants0 rfl) rfl (run_callF (vs := [_, _, _]) rfl Tryd.func28 rfl (by decide) rfl) (fun w hS => draft_right.c hB hS (i1 := 1) (i2 := 0) rfl rfl hg1) (fun x1 => ?_)
 refine T.assign .list rfl (wants0 rfl) rfl rfl ?_
 refine T.nil ?_
 refine T.then_normal ?_
 refine T.seq ?_
 refine T.region ?_
 refine T.move .list rfl (wants0 rfl) rfl rfl ?_
 refine T.bin .list rfl (wants0 rfl) rfl rfl rfl rfl ?_
 refine T.nil ?_
 refine T.then_normal ?_
 refine T.cond rfl (fun hb1 => ?_) (fun hb1 => ?_)
 ·replace hr := inv_posB hb1 hr
  refine T.seq ?_
  refine T.region ?_
  refine T.move .list rfl (wants0 rfl) rfl rfl ?_
  refine T.assign .list rfl (wants0 rfl) rfl rfl ?_
  refine T.nil ?_
  refine T.then_normal ?_
  refine T.ret ?_
  refine T.then_ret ?_
  obtain rfl := inv_some hr
  refine T.pick [2, 3, 4, 5, 6, 7, 8, 9, 10, 11, 12] 13 rfl rfl nla rfl ?_
  refine T.ret1 rfl rfl (fun w hS => ⟨(A0b, c0b), rfl, hS⟩)
 ·replace hr := inv_negB hb1 hr
  refine T.skip ?_
  refine T.then_normal ?_
  refine T.seq ?_
  refine T.dStart mixed ?_
  refine T.move (.dPure (i := 0) rfl (by kernel_rfl) (fun d _ _ _ _ h => by cases d <;> exact h)) rfl (wants0 rfl) rfl rfl ?_
  refine T.move (.dPure (i := 1) rfl (by kernel_rfl) (fun d _ _ _ _ h => by cases d <;> exact h)) rfl (wants0 rfl) rfl rfl ?_
  refine T.nilCheck (.dPure (i := 2) rfl (by kernel_rfl) (fun d _ _ _ _ h => by cases d <;> exact h)) rfl (wants0 rfl) rfl rfl ?_
  refine T.field (.dPure (i := 3) rfl (by kernel_rfl) (fun d _ _ _ _ h => by cases d <;> exact h)) rfl (wants0 rfl) rfl rfl ?_
  refine T.move (.dPure (i := 5) rfl (by kernel_rfl) (fun d _ _ _ _ h => by cases d <;> exact h)) rfl (wants0 rfl) rfl rfl ?_
  refine T.move (.dPure (i := 6) rfl (by kernel_rfl) (fun d _ _ _ _ h => by cases d <;> exact h)) rfl (wants0 rfl) rfl rfl ?_
  refine T.move (.dPure (i := 8) rfl (by kernel_rfl) (fun d _ _ _ _ h => by cases d <;> exact h)) rfl (wants0 rfl) rfl rfl ?_
  refine T.dAdd 16 (fun w => w.heap[p0]? = some (.cells [.pointer (some ⟨p0a, 0, none⟩), .slice A0b q0b.length c0b].toArray 84 (0, 0))) (Cl.stays 2 rfl) ?_
  refine T.valS 0 (i := 4) (.slice A0b q0b.length c0b) rfl rfl (by kernel_rfl) (by kernel_rfl) (fun d _ _ _ _ h => by cases d <;> exact h) (wants0 rfl) rfl (run_ldCl rfl rfl rfl) ?_
  obtain ⟨r2, hg2, hr⟩ := inv_bind hr
  refine T.dOnly (i := 7) (by kernel_rfl) ?_
  refine T.call (.dOne rfl (by kernel_rfl)) (wants0 rfl) rfl (run_callF (vs := [_]) rfl Tryd.func29 rfl (by decide) rfl) (fun w hS => slices_Clone.c hB hS (i0 := 1) rfl hg2) (fun x2 => ?_)
  refine T.dNext (phi_cons (.inr (Cl.stays 3 rfl)) phi_nil) ?_
  obtain ⟨r3, hg3, hr⟩ := inv_bind hr
  refine T.dOnly (i := 9) (by kernel_rfl) ?_
  refine T.call (.dOne rfl (by kernel_rfl)) (wants0 rfl) rfl (run_callF (vs := [_]) rfl Tryd.func29 rfl (by decide) rfl) (fun w hS => slices_Clone.c hB hS (i0 := 1) rfl hg3) (fun x3 => ?_)
  refine T.dNext (phi_cons (.inr (Cl.stays 4 rfl)) phi_nil) ?_
  refine T.build (.dPure (i := 10) rfl (by kernel_rfl) (fun d _ _ _ _ h => by cases d <;> exact h)) (vals := [(0, .int .i64 a1), (1, .slice x2.1 r2.length x2.2), (2, .slice x3.1 r3.length x3.2)]) (cells := #[.int .i64 a1, .slice x2.1 r2.length x2.2, .slice x3.1 r3.length x3.2]) rfl (wants0 rfl) rfl rfl (run_buildStruct (sizes := [1, 1, 1]) (by kernel_rfl) (by kernel_rfl)) ?_
  refine T.build (.dPure (i := 11) rfl (by kernel_rfl) (fun d _ _ _ _ h => by cases d <;> exact h)) (vals := [(0, .agg #[.int .i64 a1, .slice x2.1 r2.length x2.2, .slice x3.1 r3.length x3.2])]) (cells := #[.int .i64 a1, .slice x2.1 r2.length x2.2, .slice x3.1 r3.length x3.2, .bool false]) rfl (wants0 rfl) rfl rfl (run_buildStruct (sizes := [3, 1]) (by kernel_rfl) (by kernel_rfl)) ?_
  refine T.freeze 1 rfl rfl rfl ?_
  refine T.freeze 0 rfl rfl rfl ?_
  refine T.dOnly (i := 12) (by kernel_rfl) ?_
  refine T.lit (E := Elt.pair (Elt.pair E64 (Elt.pair (Elt.slice E8) (Elt.slice E8))) EBool) (.dOne rfl (by kernel_rfl)) (vals := [(0, .agg #[.int .i64 a1, .slice x2.1 r2.length x2.2, .slice x3.1 r3.length x3.2, .bool false])]) (cells := #[.int .i64 a1, .slice x2.1 r2.length x2.2, .slice x3.1 r3.length x3.2, .bool false]) rfl (wants0 rfl) rfl rfl rfl rfl rfl (by kernel_rfl) ([((a1, r2, r3), false)] : List ((Int × (List UInt8) × (List UInt8)) × Bool)) rfl (fun _ _ _ _ ho => (Has.encs ho (Has.pair (Has.pair (Has.sc rfl) (Has.pair (Has.slice 1 rfl rfl) (Has.slice 0 rfl rfl) rfl) rfl) (Has.sc rfl) rfl) rfl rfl)) (fun b1 => ?_)
  refine T.dNext (phi_cons (.inr (Cl.stays 5 rfl)) phi_nil) ?_
  obtain ⟨hc1, hr⟩ := inv_chk hr
  refine T.dOnly (i := 13) (by kernel_rfl) ?_
  refine T.appBf (.dOne rfl (by kernel_rfl)) 15 0 rfl rfl rfl rfl rfl (wants0 rfl) rfl rfl rfl rfl rfl rfl hc1 (fun _ _ => rfl) (fun A5 c5 => ?_)
  refine T.dNext (phi_cons (.inr (Cl.stays 5 rfl)) phi_nil) ?_
  refine T.nilCheck (.dPure (i := 14) rfl (by kernel_rfl) (fun d _ _ _ _ h => by cases d <;> exact h)) rfl (wants0 rfl) rfl rfl ?_
  refine T.field (.dPure (i := 15) rfl (by kernel_rfl) (fun d _ _ _ _ h => by cases d <;> exact h)) rfl (wants0 rfl) rfl rfl ?_
  refine T.dOnly (i := 16) (by kernel_rfl) ?_
  refine T.store (.dOne rfl (by kernel_rfl)) 5 rfl rfl (wants0 rfl) rfl rfl rfl rfl (Nat.le_of_ble_eq_true rfl) rfl (cs' := [.pointer (some ⟨p0a, 0, none⟩), .slice A5 (((q0b ++ (([((a1, r2, r3), false)] : List ((Int × (List UInt8) × (List UInt8)) × Bool))))).length) c5]) rfl rfl ?_
  refine T.dNext (phi_cons (.inl (by kernel_rfl)) phi_nil) ?_
  refine T.dDone (by kernel_rfl) ?_
  refine T.then_normal ?_
  refine T.seq ?_
  refine T.region ?_
  refine T.assign .list rfl (wants0 rfl) rfl rfl ?_
  refine T.nil ?_
  refine T.then_normal ?_
  refine T.ret ?_
  obtain rfl := inv_some hr
  refine T.pick [5, 6, 7, 8, 9, 10, 11, 12, 13, 14, 15] 16 rfl rfl nla rfl ?_
  refine T.ret1 rfl rfl (fun w hS => ⟨(A5, c5), rfl, hS⟩)
end Go.Proofs.YtdojooblfemmnaaDoor
