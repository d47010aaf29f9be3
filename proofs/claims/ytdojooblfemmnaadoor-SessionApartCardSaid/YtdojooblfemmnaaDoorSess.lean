/- Sess: what the functions compute, and that the program computes it; printed by a program of ours. -/
import Derived.Test.YtdojooblfemmnaaDoorEntry
import Derived.Test.YtdojooblfemmnaaDoorCks
import Derived.Test.YtdojooblfemmnaaDoorDraft
set_option linter.unusedVariables false
set_option linter.unusedSimpArgs false
namespace Go.Proofs.YtdojooblfemmnaaDoor
open Go.RowKit
noncomputable def session_right.k1 (s1 : Bool) : Option Int :=
  (if s1 = true then some 1 else some 0)
noncomputable def session_right.impl (o0a : Int × Int × Int × Int × Int × Int × Int × Int × Int × Int × Int × Int × Int × Int × Int × Int × Int) (o0aa : Int × Int × Int × Int) (o0aaa : Int × Int × Int × Int) (q0aaab : List (Int × Int)) (o0aaac : Int × Bool × Int × Int × Int × Int × Int) (q0aaacb : List (Int × (List UInt8))) (q0aaacc : List (Int × (List UInt8))) (q0aah : List (Int × Int)) (q0aak : List (Int × Int)) (q0b : List ((Int × (List UInt8) × (List UInt8)) × Bool)) (a1 : Int) : Option Int :=
  (if ((decide (a1 < 0))) = true then session_right.k1 true else session_right.k1 (decide ((8 : Int) ≤ a1)))
set_option maxRecDepth 100000 in
set_option maxHeartbeats 4000000 in
theorem session_right.c {B : World} {hs : List MP} {w : World} {p0 : Nat} {p0a : Nat} {o0a : Int × Int × Int × Int × Int × Int × Int × Int × Int × Int × Int × Int × Int × Int × Int × Int × Int} {p0aa : Nat} {o0aa : Int × Int × Int × Int} {p0aaa : Nat} {o0aaa : Int × Int × Int × Int} {m0aaab : Nat} {q0aaab : List (Int × Int)} {p0aaac : Nat} {o0aaac : Int × Bool × Int × Int × Int × Int × Int} {m0aaacb : Nat} {q0aaacb : List (Int × (List UInt8))} {c0aaacc : Nat} {A0aaacc : Option Addr} {q0aaacc : List (Int × (List UInt8))} {m0aah : Nat} {q0aah : List (Int × Int)} {m0aak : Nat} {q0aak : List (Int × Int)} {c0b : Nat} {A0b : Option Addr} {q0b : List ((Int × (List UInt8) × (List UInt8)) × Bool)} {a1 : Int} (hB : Base B) (hS : St B (Cl p0 84 [.pointer (some ⟨p0a, 0, none⟩), .slice A0b q0b.length c0b] :: ck4 p0a o0a p0aa :: ck2 p0aa o0aa p0aaa m0aah m0aak :: ck1 p0aaa o0aaa m0aaab p0aaac :: Mp E64 m0aaab q0aaab :: ck0 p0aaac o0aaac m0aaacb A0aaacc q0aaacc.length c0aaacc :: Mp (Elt.slice E8) m0aaacb q0aaacb :: Bf (Elt.pair E64 (Elt.slice E8)) 174 A0aaacc c0aaacc q0aaacc :: Mp E64 m0aah q0aah :: Mp E64 m0aak q0aak :: Bf (Elt.pair (Elt.pair E64 (Elt.pair (Elt.slice E8) (Elt.slice E8))) EBool) 88 A0b c0b q0b :: hs) w) {r : Int} (hr : session_right.impl o0a o0aa o0aaa q0aaab o0aaac q0aaacb q0aaacc q0aah q0aak q0b a1 = some r) :
    Calls Tryd.prog 19 #[.pointer (some ⟨p0, 0, none⟩), .int .i64 a1] w fun e w' => ∃ x : Unit, e = .returned (.int .i64 r) ∧ St B (Cl p0 84 [.pointer (some ⟨p0a, 0, none⟩), .slice A0b q0b.length c0b] :: ck4 p0a o0a p0aa :: ck2 p0aa o0aa p0aaa m0aah m0aak :: ck1 p0aaa o0aaa m0aaab p0aaac :: Mp E64 m0aaab q0aaab :: ck0 p0aaac o0aaac m0aaacb A0aaacc q0aaacc.length c0aaacc :: Mp (Elt.slice E8) m0aaacb q0aaacb :: Bf (Elt.pair E64 (Elt.slice E8)) 174 A0aaacc c0aaacc q0aaacc :: Mp E64 m0aah q0aah :: Mp E64 m0aak q0aak :: Bf (Elt.pair (Elt.pair E64 (Elt.pair (Elt.slice E8) (Elt.slice E8))) EBool) 88 A0b c0b q0b :: hs) w' := by
 unfold session_right.impl at hr
 refine calls_T Tryd.func19 rfl rfl rfl hS ?_
 refine T.seq ?_
 refine T.region ?_
 refine T.assign .list rfl (wants0 rfl) rfl rfl ?_
 refine T.nil ?_
 refine T.then_normal ?_
 refine T.seq ?_
 refine T.seqJ (fun (s1 : Bool) (x1 : Unit) => [(14, .bool s1)]) (fun s1 x1 => Cl p0 84 [.pointer (some ⟨p0a, 0, none⟩), .slice A0b q0b.length c0b] :: ck4 p0a o0a p0aa :: ck2 p0aa o0aa p0aaa m0aah m0aak :: ck1 p0aaa o0aaa m0aaab p0aaac :: Mp E64 m0aaab q0aaab :: ck0 p0aaac o0aaac m0aaacb A0aaacc q0aaacc.length c0aaacc :: Mp (Elt.slice E8) m0aaacb q0aaacb :: Bf (Elt.pair E64 (Elt.slice E8)) 174 A0aaacc c0aaacc q0aaacc :: Mp E64 m0aah q0aah :: Mp E64 m0aak q0aak :: Bf (Elt.pair (Elt.pair E64 (Elt.pair (Elt.slice E8) (Elt.slice E8))) EBool) 88 A0b c0b q0b :: hs) (fun s1 => session_right.k1 s1 = some r) (fun s1 x1 hk1 => ?_) (fun J1 => ?_)
 ·unfold session_right.k1 at hk1
  refine T.cond rfl (fun hb1 => ?_) (fun hb1 => ?_)
  ·replace hk1 := inv_posB hb1 hk1
   refine T.seq ?_
   refine T.region ?_
   refine T.assign .list rfl (wants0 rfl) rfl rfl ?_
   refine T.nil ?_
   refine T.then_normal ?_
   refine T.ret ?_
   refine T.then_ret ?_
   obtain rfl := inv_some hk1
   refine T.pick [0, 1, 2, 3, 4, 5, 6, 7, 8, 9, 10] 11 rfl rfl nla rfl ?_
   refine T.ret1 rfl rfl (fun w hS => ⟨(), rfl, hS⟩)
  ·replace hk1 := inv_negB hb1 hk1
   refine T.skip ?_
   refine T.then_normal ?_
   refine T.seq ?_
   refine T.region ?_
   refine T.assign .list rfl (wants0 rfl) rfl rfl ?_
   refine T.nil ?_
   refine T.then_normal ?_
   refine T.ret ?_
   obtain rfl := inv_some hk1
   refine T.pick [0, 1, 2, 3, 4, 5, 6, 7, 8, 9, 10] 11 rfl rfl nla rfl ?_
   refine T.ret1 rfl rfl (fun w hS => ⟨(), rfl, hS⟩)
 ·refine T.region ?_
  refine T.move .list rfl (wants0 rfl) rfl rfl ?_
  refine T.ptrEq (pt := 84) .list rfl (wants0 rfl) rfl rfl rfl (by kernel_rfl) (.inr rfl) rfl ?_
  refine T.move .list rfl (wants0 rfl) rfl rfl ?_
  refine T.move .list rfl (wants1 rfl rfl rfl rfl) rfl rfl ?_
  refine T.bin .list rfl (wants1 rfl rfl rfl rfl) rfl rfl rfl rfl ?_
  refine T.pickF .list rfl (wants0 rfl) rfl rfl rfl rfl ?_
  refine T.move .list rfl (wants0 rfl) rfl rfl ?_
  refine T.bool (b := (decide (a1 < 0))) (fun hb2 => ?_) (fun hb2 => ?_)
  ·replace hr := inv_posB hb2 hr
   refine T.leave .list (wantsNot rfl rfl rfl hb2) rfl ?_
   refine T.leave .list (wantsNot rfl rfl rfl hb2) rfl ?_
   refine T.pickT .list rfl (wants0 rfl) rfl rfl hb2 rfl ?_
   refine T.nil ?_
   refine T.then_normal ?_
   exact T.le (EnvLe.cons rfl EnvLe.nil) (T.pick [0, 1, 2, 3, 4, 5, 6, 7, 8, 9, 10] 11 rfl rfl nla rfl (J1 true () hr))
  ·replace hr := inv_negB hb2 hr
   refine T.move .list rfl (wants1 rfl rfl rfl hb2) rfl rfl ?_
   refine T.bin .list rfl (wants1 rfl rfl rfl hb2) rfl rfl rfl rfl ?_
   refine T.pickF .list rfl (wants0 rfl) rfl rfl hb2 rfl ?_
   refine T.nil ?_
   refine T.then_normal ?_
   exact T.le (EnvLe.cons rfl EnvLe.nil) (T.pick [0, 1, 2, 3, 4, 5, 6, 7, 8, 9, 10] 11 rfl rfl nla rfl (J1 (decide ((8 : Int) ≤ a1)) () hr))

noncomputable def session_read.k1 (r1 : List UInt8 × Bool × Int) (s1 : Bool) : Option (Int × (Int × Int × (List (List (Int × Int × (List UInt8))))) × Int) :=
  (if s1 = true then some (0, (0, 0, ([] : List (List (Int × Int × (List UInt8))))), r1.2.2) else (wire_ReadUint.impl r1.1 0).bind fun r2 => (if ((!(decide (r2.2.2 = 0)))) = true then some (0, (0, 0, ([] : List (List (Int × Int × (List UInt8))))), 22) else chk (0 ≤ r2.2.1 ∧ r2.2.1 ≤ ((r1.1.length : Int)) ∧ ((r1.1.length : Int)) ≤ (r1.1.length : Int)) ((entry_DecodeReply.impl (subl r1.1 r2.2.1 ((r1.1.length : Int)))).bind fun r3 => (if ((!(decide (r3.2 = 0)))) = true then some (0, (0, 0, ([] : List (List (Int × Int × (List UInt8))))), 22) else some (r2.1, r3.1, 0)))))
noncomputable def session_read.impl (o0a : Int × Int × Int × Int × Int × Int × Int × Int × Int × Int × Int × Int × Int × Int × Int × Int × Int) (o0aa : Int × Int × Int × Int) (o0aaa : Int × Int × Int × Int) (q0aaab : List (Int × Int)) (o0aaac : Int × Bool × Int × Int × Int × Int × Int) (q0aaacb : List (Int × (List UInt8))) (q0aaacc : List (Int × (List UInt8))) (q0aah : List (Int × Int)) (q0aak : List (Int × Int)) (q0b : List ((Int × (List UInt8) × (List UInt8)) × Bool)) (a1 : Int) : Option (Int × (Int × Int × (List (List (Int × Int × (List UInt8))))) × Int) :=
  (draft_Draft_Get.impl o0a o0aa o0aaa q0aaab o0aaac q0aaacb q0aaacc q0aah q0aak q0b 4 (([(u8 (IntKind.u8.wrap a1))] : List UInt8))).bind fun r1 => (if ((decide (r1.2.2 = 0))) = true then session_read.k1 r1 (!r1.2.1) else session_read.k1 r1 true)
set_option maxRecDepth 100000 in
set_option maxHeartbeats 4000000 in
theorem session_read.c {B : World} {hs : List MP} {w : World} {p0 : Nat} {p0a : Nat} {o0a : Int × Int × Int × Int × Int × Int × Int × Int × Int × Int × Int × Int × Int × Int × Int × Int × Int} {p0aa : Nat} {o0aa : Int × Int × Int × Int} {p0aaa : Nat} {o0aaa : Int × Int × Int × Int} {m0aaab : Nat} {q0aaab : List (Int × Int)} {p0aaac : Nat} {o0aaac : Int × Bool × Int × Int × Int × Int × Int} {m0aaacb : Nat} {q0aaacb : List (Int × (List UInt8))} {c0aaacc : Nat} {A0aaacc : Option Addr} {q0aaacc : List (Int × (List UInt8))} {m0aah : Nat} {q0aah : List (Int × Int)} {m0aak : Nat} {q0aak : List (Int × Int)} {c0b : Nat} {A0b : Option Addr} {q0b : List ((Int × (List UInt8) × (List UInt8)) × Bool)} {a1 : Int} (hB : Base B) (hS : St B (Cl p0 84 [.pointer (some ⟨p0a, 0, none⟩), .slice A0b q0b.length c0b] :: ck4 p0a o0a p0aa :: ck2 p0aa o0aa p0aaa m0aah m0aak :: ck1 p0aaa o0aaa m0aaab p0aaac :: Mp E64 m0aaab q0aaab :: ck0 p0aaac o0aaac m0aaacb A0aaacc q0aaacc.length c0aaacc :: Mp (Elt.slice E8) m0aaacb q0aaacb :: Bf (Elt.pair E64 (Elt.slice E8)) 174 A0aaacc c0aaacc q0aaacc :: Mp E64 m0aah q0aah :: Mp E64 m0aak q0aak :: Bf (Elt.pair (Elt.pair E64 (Elt.pair (Elt.slice E8) (Elt.slice E8))) EBool) 88 A0b c0b q0b :: hs) w) {r : Int × (Int × Int × (List (List (Int × Int × (List UInt8))))) × Int} (hr : session_read.impl o0a o0aa o0aaa q0aaab o0aaac q0aaacb q0aaacc q0aah q0aak q0b a1 = some r) :
    Calls Tryd.prog 20 #[.pointer (some ⟨p0, 0, none⟩), .int .i64 a1] w fun e w' => ∃ x : (Option Addr × Nat), e = .returned (.tuple #[.int .i64 r.1, .agg #[.int .i64 r.2.1.1, .int .i64 r.2.1.2.1, .slice x.1 r.2.1.2.2.length x.2], .int .i64 r.2.2]) ∧ St B (Ro (Elt.slice (Elt.pair E64 (Elt.pair E64 EStr))) x.1 x.2 r.2.1.2.2 :: Cl p0 84 [.pointer (some ⟨p0a, 0, none⟩), .slice A0b q0b.length c0b] :: ck4 p0a o0a p0aa :: ck2 p0aa o0aa p0aaa m0aah m0aak :: ck1 p0aaa o0aaa m0aaab p0aaac :: Mp E64 m0aaab q0aaab :: ck0 p0aaac o0aaac m0aaacb A0aaacc q0aaacc.length c0aaacc :: Mp (Elt.slice E8) m0aaacb q0aaacb :: Bf (Elt.pair E64 (Elt.slice E8)) 174 A0aaacc c0aaacc q0aaacc :: Mp E64 m0aah q0aah :: Mp E64 m0aak q0aak :: Bf (Elt.pair (Elt.pair E64 (Elt.pair (Elt.slice E8) (Elt.slice E8))) EBool) 88 A0b c0b q0b :: hs) w' := by
 unfold session_read.impl at hr
 refine calls_T Tryd.func20 rfl rfl rfl hS ?_
 refine T.seq ?_
 refine T.region ?_
 refine T.assign .list rfl (wants0 rfl) rfl rfl ?_
 refine T.allocS .list rfl (wants0 rfl) rfl (cs := [.int .i64 0, .int .i64 0, .slice none 0 0]) rfl (fun b1 => ?_)
 refine T.assign .list rfl (wants0 rfl) rfl rfl ?_
 refine T.nil ?_
 refine T.then_normal ?_
 refine T.seq ?_
 refine T.region ?_
 refine T.move .list rfl (wants0 rfl) rfl rfl ?_
 refine T.move .list rfl (wants0 rfl) rfl rfl ?_
 refine T.conv .list rfl (wants0 rfl) rfl rfl rfl ?_
 refine T.lit (E := E8) .list (vals := [(0, .int .u8 (IntKind.u8.wrap a1))]) (cells := #[.int .u8 (IntKind.u8.wrap a1)]) rfl (wants0 rfl) rfl rfl rfl rfl rfl (by kernel_rfl) ([(u8 (IntKind.u8.wrap a1))] : List UInt8) rfl (fun _ _ _ _ _ => (Encs.c1 (enc := b8) (h1 := fun _ => rfl) (b8_wrap _) rfl)) (fun b2 => ?_)
 refine T.freeze 0 rfl rfl rfl ?_
 refine T.pick [2, 3, 4, 5, 6, 7, 8, 9, 10, 11, 12, 0, 1] 13 rfl rfl nla (hs' := Cl p0 84 [.pointer (some ⟨p0a, 0, none⟩), .slice A0b q0b.length c0b] :: ck4 p0a o0a p0aa :: ck2 p0aa o0aa p0aaa m0aah m0aak :: ck1 p0aaa o0aaa m0aaab p0aaac :: Mp E64 m0aaab q0aaab :: ck0 p0aaac o0aaac m0aaacb A0aaacc q0aaacc.length c0aaacc :: Mp (Elt.slice E8) m0aaacb q0aaacb :: Bf (Elt.pair E64 (Elt.slice E8)) 174 A0aaacc c0aaacc q0aaacc :: Mp E64 m0aah q0aah :: Mp E64 m0aak q0aak :: Bf (Elt.pair (Elt.pair E64 (Elt.pair (Elt.slice E8) (Elt.slice E8))) EBool) 88 A0b c0b q0b :: Ro E8 (some ⟨b2, 0, none⟩) 1 (([(u8 (IntKind.u8.wrap a1))] : List UInt8)) :: Cl b1 31 [.int .i64 0, .int .i64 0, .slice none 0 0] :: hs) rfl ?_
 obtain ⟨r1, hg1, hr⟩ := inv_bind hr
 refine T.call .list (wants0 rfl) rfl (run_callF (vs := [_, _, _]) rfl Tryd.func31 rfl (by decide) rfl) (fun w hS => draft_Draft_Get.c hB hS (i2 := 11) (o0a := o0a) (o0aa := o0aa) (o0aaa := o0aaa) (q0aaab := q0aaab) (o0aaac := o0aaac) (q0aaacb := q0aaacb) (q0aaacc := q0aaacc) (q0aah := q0aah) (q0aak := q0aak) (q0b := q0b) rfl hg1) (fun x1 => ?_)
 refine T.move .list rfl (wants0 rfl) rfl rfl ?_
 refine T.extract .list rfl (wants0 rfl) rfl rfl rfl ?_
 refine T.extract .list rfl (wants0 rfl) rfl rfl rfl ?_
 refine T.extract .list rfl (wants0 rfl) rfl rfl rfl ?_
 refine T.assign .list rfl (wants0 rfl) rfl rfl ?_
 refine T.assign .list rfl (wants0 rfl) rfl rfl ?_
 refine T.assign .list rfl (wants0 rfl) rfl rfl ?_
 refine T.nil ?_
 refine T.then_normal ?_
 refine T.seq ?_
 refine T.seqJ (fun (s1 : Bool) (x2 : Unit) => [(5, .pointer (some ⟨b1, 0, none⟩)), (7, .slice x1.1 r1.1.length x1.2), (9, .int .i64 r1.2.2), (27, .bool s1)]) (fun s1 x2 => Cl b1 31 [.int .i64 0, .int .i64 0, .slice none 0 0] :: Bf E8 5 x1.1 x1.2 r1.1 :: Cl p0 84 [.pointer (some ⟨p0a, 0, none⟩), .slice A0b q0b.length c0b] :: ck4 p0a o0a p0aa :: ck2 p0aa o0aa p0aaa m0aah m0aak :: ck1 p0aaa o0aaa m0aaab p0aaac :: Mp E64 m0aaab q0aaab :: ck0 p0aaac o0aaac m0aaacb A0aaacc q0aaacc.length c0aaacc :: Mp (Elt.slice E8) m0aaacb q0aaacb :: Bf (Elt.pair E64 (Elt.slice E8)) 174 A0aaacc c0aaacc q0aaacc :: Mp E64 m0aah q0aah :: Mp E64 m0aak q0aak :: Bf (Elt.pair (Elt.pair E64 (Elt.pair (Elt.slice E8) (Elt.slice E8))) EBool) 88 A0b c0b q0b :: hs) (fun s1 => session_read.k1 r1 s1 = some r) (fun s1 x2 hk1 => ?_) (fun J1 => ?_)
 ·unfold session_read.k1 at hk1
  refine T.cond rfl (fun hb1 => ?_) (fun hb1 => ?_)
  ·replace hk1 := inv_posB hb1 hk1
   refine T.seq ?_
   refine T.region ?_
   refine T.build .list (vals := []) (cells := #[.int .i64 0, .int .i64 0, .slice none 0 0]) rfl (wants0 rfl) rfl rfl (run_buildStruct (sizes := [1, 1, 1]) (by kernel_rfl) (by kernel_rfl)) ?_
   refine T.move .list rfl (wants0 rfl) rfl rfl ?_
   refine T.assign .list rfl (wants0 rfl) rfl rfl ?_
   refine T.store .list 0 rfl rfl (wants0 rfl) rfl rfl rfl rfl (Nat.le_of_ble_eq_true rfl) rfl (cs' := [.int .i64 0, .int .i64 0, .slice none 0 0]) rfl rfl ?_
   refine T.assign .list rfl (wants0 rfl) rfl rfl ?_
   refine T.nil ?_
   refine T.then_normal ?_
   refine T.ret ?_
   refine T.then_ret ?_
   obtain rfl := inv_some hk1
   refine T.nilRo (Elt.slice (Elt.pair E64 (Elt.pair E64 EStr))) none 0 ?_
   refine T.out3 rfl (OutRun.tmp rfl) (OutRun.cellN 1 rfl rfl (vs := [.int .i64 0, .int .i64 0, .slice none 0 0]) rfl rfl) (OutRun.tmp rfl) (fun w hS => ⟨(none, 0), rfl, hS.pick [0, 3, 4, 5, 6, 7, 8, 9, 10, 11, 12, 13] 14 rfl rfl nla rfl⟩)
  ·replace hk1 := inv_negB hb1 hk1
   refine T.skip ?_
   refine T.then_normal ?_
   refine T.seq ?_
   refine T.region ?_
   refine T.move .list rfl (wants0 rfl) rfl rfl ?_
   obtain ⟨r2, hg2, hk1⟩ := inv_bind hk1
   refine T.call .list (wants0 rfl) rfl (run_callF (vs := [_, _]) rfl Tryd.func24 rfl (by decide) rfl) (fun w hS => (wire_ReadUint.c (hB.up hS) (St.borrow (ros := [Ro E8 x1.1 x1.2 r1.1]) (Ros.cons (hS.roBf 1 rfl rfl) Ros.nil)) (i0 := 0) rfl hg2).mono fun e w' ⟨x, he, h1⟩ => ⟨x, he, hS.unborrow (post := []) h1 Frees.nil⟩) (fun x3 => ?_)
   refine T.move .list rfl (wants0 rfl) rfl rfl ?_
   refine T.extract .list rfl (wants0 rfl) rfl rfl rfl ?_
   refine T.extract .list rfl (wants0 rfl) rfl rfl rfl ?_
   refine T.extract .list rfl (wants0 rfl) rfl rfl rfl ?_
   refine T.assign .list rfl (wants0 rfl) rfl rfl ?_
   refine T.assign .list rfl (wants0 rfl) rfl rfl ?_
   refine T.assign .list rfl (wants0 rfl) rfl rfl ?_
   refine T.nil ?_
   refine T.then_normal ?_
   refine T.seq ?_
   refine T.seq ?_
   refine T.region ?_
   refine T.move .list rfl (wants0 rfl) rfl rfl ?_
   refine T.bin .list rfl (wants0 rfl) rfl rfl rfl rfl ?_
   refine T.nil ?_
   refine T.then_normal ?_
   refine T.cond rfl (fun hb2 => ?_) (fun hb2 => ?_)
   ·replace hk1 := inv_posB hb2 hk1
    refine T.seq ?_
    refine T.region ?_
    refine T.build .list (vals := []) (cells := #[.int .i64 0, .int .i64 0, .slice none 0 0]) rfl (wants0 rfl) rfl rfl (run_buildStruct (sizes := [1, 1, 1]) (by kernel_rfl) (by kernel_rfl)) ?_
    refine T.assign .list rfl (wants0 rfl) rfl rfl ?_
    refine T.store .list 0 rfl rfl (wants0 rfl) rfl rfl rfl rfl (Nat.le_of_ble_eq_true rfl) rfl (cs' := [.int .i64 0, .int .i64 0, .slice none 0 0]) rfl rfl ?_
    refine T.assign .list rfl (wants0 rfl) rfl rfl ?_
    refine T.nil ?_
    refine T.then_normal ?_
    refine T.ret ?_
    refine T.then_ret ?_
    obtain rfl := inv_some hk1
    refine T.nilRo (Elt.slice (Elt.pair E64 (Elt.pair E64 EStr))) none 0 ?_
    refine T.out3 rfl (OutRun.tmp rfl) (OutRun.cellN 1 rfl rfl (vs := [.int .i64 0, .int .i64 0, .slice none 0 0]) rfl rfl) (OutRun.tmp rfl) (fun w hS => ⟨(none, 0), rfl, hS.pick [0, 3, 4, 5, 6, 7, 8, 9, 10, 11, 12, 13] 14 rfl rfl nla rfl⟩)
   ·replace hk1 := inv_negB hb2 hk1
    refine T.skip ?_
    refine T.then_normal ?_
    refine T.seq ?_
    refine T.region ?_
    refine T.move .list rfl (wants0 rfl) rfl rfl ?_
    refine T.move .list rfl (wants0 rfl) rfl rfl ?_
    refine T.freeze 1 rfl rfl rfl ?_
    obtain ⟨hc1, hk1⟩ := inv_chk hk1
    refine T.cut .list 1 rfl rfl rfl (wants0 rfl) rfl rfl (.inr ⟨_, _, rfl, rfl⟩) (.inl ⟨rfl, rfl⟩) hc1.1 hc1.2.1 hc1.2.2 ?_
    obtain ⟨r3, hg3, hk1⟩ := inv_bind hk1
    refine T.call .list (wants0 rfl) rfl (run_callF (vs := [_]) rfl Tryd.func32 rfl (by decide) rfl) (fun w hS => entry_DecodeReply.c hB hS (i0 := 0) rfl hg3) (fun x4 => ?_)
    refine T.move .list rfl (wants0 rfl) rfl rfl ?_
    refine T.extract .list rfl (wants0 rfl) rfl rfl rfl ?_
    refine T.extract .list rfl (wants0 rfl) rfl rfl rfl ?_
    refine T.allocS .list rfl (wants0 rfl) rfl (cs := [.int .i64 0, .int .i64 0, .slice none 0 0]) rfl (fun b3 => ?_)
    refine T.store .list 0 rfl rfl (wants0 rfl) rfl rfl rfl rfl (Nat.le_of_ble_eq_true rfl) rfl (cs' := [.int .i64 r3.1.1, .int .i64 r3.1.2.1, .slice x4.1 r3.1.2.2.length x4.2]) rfl rfl ?_
    refine T.assign .list rfl (wants0 rfl) rfl rfl ?_
    refine T.nil ?_
    refine T.then_normal ?_
    refine T.seq ?_
    refine T.seq ?_
    refine T.region ?_
    refine T.move .list rfl (wants0 rfl) rfl rfl ?_
    refine T.bin .list rfl (wants0 rfl) rfl rfl rfl rfl ?_
    refine T.nil ?_
    refine T.then_normal ?_
    refine T.cond rfl (fun hb3 => ?_) (fun hb3 => ?_)
    ·replace hk1 := inv_posB hb3 hk1
     refine T.seq ?_
     refine T.region ?_
     refine T.build .list (vals := []) (cells := #[.int .i64 0, .int .i64 0, .slice none 0 0]) rfl (wants0 rfl) rfl rfl (run_buildStruct (sizes := [1, 1, 1]) (by kernel_rfl) (by kernel_rfl)) ?_
     refine T.assign .list rfl (wants0 rfl) rfl rfl ?_
     refine T.store .list 3 rfl rfl (wants0 rfl) rfl rfl rfl rfl (Nat.le_of_ble_eq_true rfl) rfl (cs' := [.int .i64 0, .int .i64 0, .slice none 0 0]) rfl rfl ?_
     refine T.assign .list rfl (wants0 rfl) rfl rfl ?_
     refine T.nil ?_
     refine T.then_normal ?_
     refine T.ret ?_
     refine T.then_ret ?_
     obtain rfl := inv_some hk1
     refine T.nilRo (Elt.slice (Elt.pair E64 (Elt.pair E64 EStr))) none 0 ?_
     refine T.out3 rfl (OutRun.tmp rfl) (OutRun.cellN 4 rfl rfl (vs := [.int .i64 0, .int .i64 0, .slice none 0 0]) rfl rfl) (OutRun.tmp rfl) (fun w hS => ⟨(none, 0), rfl, hS.pick [0, 6, 7, 8, 9, 10, 11, 12, 13, 14, 15, 16] 17 rfl rfl nla rfl⟩)
    ·replace hk1 := inv_negB hb3 hk1
     refine T.skip ?_
     refine T.then_normal ?_
     refine T.seq ?_
     refine T.plan [(0, 0), (2, 0), (1, 1), (3, 2), (4, 0)] mixed (by kernel_rfl) (by kernel_rfl) rfl (fun d _ _ _ _ h => by cases d <;> exact h) ?_
     refine T.move (.plan rfl) rfl (wants0 rfl) rfl rfl ?_
     refine T.assign (.plan rfl) rfl (wants0 rfl) rfl rfl ?_
     refine T.loadN (.plan rfl) 0 rfl rfl (wants0 rfl) rfl rfl (vs := [.int .i64 r3.1.1, .int .i64 r3.1.2.1, .slice x4.1 r3.1.2.2.length x4.2]) rfl rfl ?_
     refine T.store (.plan rfl) 3 rfl rfl (wants0 rfl) rfl rfl rfl rfl (Nat.le_of_ble_eq_true rfl) rfl (cs' := [.int .i64 r3.1.1, .int .i64 r3.1.2.1, .slice x4.1 r3.1.2.2.length x4.2]) rfl rfl ?_
     refine T.assign (.plan rfl) rfl (wants0 rfl) rfl rfl ?_
     refine T.planEnd ?_
     refine T.then_normal ?_
     refine T.ret ?_
     obtain rfl := inv_some hk1
     refine T.out3 rfl (OutRun.tmp rfl) (OutRun.cellN 3 rfl rfl (vs := [.int .i64 r3.1.1, .int .i64 r3.1.2.1, .slice x4.1 r3.1.2.2.length x4.2]) rfl rfl) (OutRun.tmp rfl) (fun w hS => ⟨x4, rfl, hS.pick [1, 5, 6, 7, 8, 9, 10, 11, 12, 13, 14, 15] 16 rfl rfl nla rfl⟩)
 ·refine T.region ?_
  refine T.move .list rfl (wants0 rfl) rfl rfl ?_
  refine T.bin .list rfl (wants0 rfl) rfl rfl rfl rfl ?_
  refine T.move .list rfl (wants0 rfl) rfl rfl ?_
  refine T.bool (b := (decide (r1.2.2 = 0))) (fun hb4 => ?_) (fun hb4 => ?_)
  ·replace hr := inv_posB hb4 hr
   refine T.move .list rfl (wants1 rfl rfl rfl (not_t hb4)) rfl rfl ?_
   refine T.not .list rfl (wants1 rfl rfl rfl (not_t hb4)) rfl rfl ?_
   refine T.pickF .list rfl (wants0 rfl) rfl rfl (not_t hb4) rfl ?_
   refine T.nil ?_
   refine T.then_normal ?_
   exact T.le (EnvLe.cons rfl (EnvLe.cons rfl (EnvLe.cons rfl (EnvLe.cons rfl EnvLe.nil)))) (T.pick [13, 0, 1, 2, 3, 4, 5, 6, 7, 8, 9, 10, 11] 14 rfl rfl nla rfl (J1 (!r1.2.1) () hr))
  ·replace hr := inv_negB hb4 hr
   refine T.leave .list (wantsNot rfl rfl rfl (not_f hb4)) rfl ?_
   refine T.leave .list (wantsNot rfl rfl rfl (not_f hb4)) rfl ?_
   refine T.pickT .list rfl (wants0 rfl) rfl rfl (not_f hb4) rfl ?_
   refine T.nil ?_
   refine T.then_normal ?_
   exact T.le (EnvLe.cons rfl (EnvLe.cons rfl (EnvLe.cons rfl (EnvLe.cons rfl EnvLe.nil)))) (T.pick [13, 0, 1, 2, 3, 4, 5, 6, 7, 8, 9, 10, 11] 14 rfl rfl nla rfl (J1 true () hr))

noncomputable def session_Look.k3 (s2 : Int) (s3 : Int × Int × (List (List (Int × Int × (List UInt8))))) : Option (Int × (Int × Int × (List (List (Int × Int × (List UInt8))))) × Int) :=
  some (s2, s3, 0)
noncomputable def session_Look.k2 (r1 : Int × (Int × Int × (List (List (Int × Int × (List UInt8))))) × Int) (s2 : Int) : Option (Int × (Int × Int × (List (List (Int × Int × (List UInt8))))) × Int) :=
  (if ((decide (s2 = 1))) = true then session_Look.k3 s2 r1.2.1 else session_Look.k3 s2 (0, 0, ([] : List (List (Int × Int × (List UInt8))))))
noncomputable def session_Look.k4 (r1 : Int × (Int × Int × (List (List (Int × Int × (List UInt8))))) × Int) (s4 : Int) : Option (Int × (Int × Int × (List (List (Int × Int × (List UInt8))))) × Int) :=
  session_Look.k2 r1 (IntKind.i64.wrap (s4 + 1))
noncomputable def session_Look.k1 (o0a : Int × Int × Int × Int × Int × Int × Int × Int × Int × Int × Int × Int × Int × Int × Int × Int × Int) (o0aa : Int × Int × Int × Int) (o0aaa : Int × Int × Int × Int) (q0aaab : List (Int × Int)) (o0aaac : Int × Bool × Int × Int × Int × Int × Int) (q0aaacb : List (Int × (List UInt8))) (q0aaacc : List (Int × (List UInt8))) (q0aah : List (Int × Int)) (q0aak : List (Int × Int)) (q0b : List ((Int × (List UInt8) × (List UInt8)) × Bool)) (a1 : Int) (a2 : Int) (s1 : Bool) : Option (Int × (Int × Int × (List (List (Int × Int × (List UInt8))))) × Int) :=
  (if s1 = true then some (0, (0, 0, ([] : List (List (Int × Int × (List UInt8))))), 1) else (session_read.impl o0a o0aa o0aaa q0aaab o0aaac q0aaacb q0aaacc q0aah q0aak q0b a1).bind fun r1 => (if ((!(decide (r1.2.2 = 0)))) = true then some (0, (0, 0, ([] : List (List (Int × Int × (List UInt8))))), r1.2.2) else (if ((decide (a2 < r1.1))) = true then session_Look.k4 r1 (IntKind.i64.wrap (0 + 1)) else (if ((decide (a2 = r1.1))) = true then session_Look.k4 r1 0 else session_Look.k2 r1 0))))
noncomputable def session_Look.impl (o0a : Int × Int × Int × Int × Int × Int × Int × Int × Int × Int × Int × Int × Int × Int × Int × Int × Int) (o0aa : Int × Int × Int × Int) (o0aaa : Int × Int × Int × Int) (q0aaab : List (Int × Int)) (o0aaac : Int × Bool × Int × Int × Int × Int × Int) (q0aaacb : List (Int × (List UInt8))) (q0aaacc : List (Int × (List UInt8))) (q0aah : List (Int × Int)) (q0aak : List (Int × Int)) (q0b : List ((Int × (List UInt8) × (List UInt8)) × Bool)) (a1 : Int) (a2 : Int) : Option (Int × (Int × Int × (List (List (Int × Int × (List UInt8))))) × Int) :=
  (session_right.impl o0a o0aa o0aaa q0aaab o0aaac q0aaacb q0aaacc q0aah q0aak q0b a1).bind fun r2 => (if ((decide (r2 = 0))) = true then (if ((decide (a2 < 1))) = true then session_Look.k1 o0a o0aa o0aaa q0aaab o0aaac q0aaacb q0aaacc q0aah q0aak q0b a1 a2 true else session_Look.k1 o0a o0aa o0aaa q0aaab o0aaac q0aaacb q0aaacc q0aah q0aak q0b a1 a2 (decide ((2147483647 : Int) < a2))) else session_Look.k1 o0a o0aa o0aaa q0aaab o0aaac q0aaacb q0aaacc q0aah q0aak q0b a1 a2 true)
set_option maxRecDepth 100000 in
set_option maxHeartbeats 4000000 in
theorem session_Look.c {B : World} {hs : List MP} {w : World} {p0 : Nat} {p0a : Nat} {o0a : Int × Int × Int × Int × Int × Int × Int × Int × Int × Int × Int × Int × Int × Int × Int × Int × Int} {p0aa : Nat} {o0aa : Int × Int × Int × Int} {p0aaa : Nat} {o0aaa : Int × Int × Int × Int} {m0aaab : Nat} {q0aaab : List (Int × Int)} {p0aaac : Nat} {o0aaac : Int × Bool × Int × Int × Int × Int × Int} {m0aaacb : Nat} {q0aaacb : List (Int × (List UInt8))} {c0aaacc : Nat} {A0aaacc : Option Addr} {q0aaacc : List (Int × (List UInt8))} {m0aah : Nat} {q0aah : List (Int × Int)} {m0aak : Nat} {q0aak : List (Int × Int)} {c0b : Nat} {A0b : Option Addr} {q0b : List ((Int × (List UInt8) × (List UInt8)) × Bool)} {a1 : Int} {a2 : Int} (hB : Base B) (hS : St B (Cl p0 84 [.pointer (some ⟨p0a, 0, none⟩), .slice A0b q0b.length c0b] :: ck4 p0a o0a p0aa :: ck2 p0aa o0aa p0aaa m0aah m0aak :: ck1 p0aaa o0aaa m0aaab p0aaac :: Mp E64 m0aaab q0aaab :: ck0 p0aaac o0aaac m0aaacb A0aaacc q0aaacc.length c0aaacc :: Mp (Elt.slice E8) m0aaacb q0aaacb :: Bf (Elt.pair E64 (Elt.slice E8)) 174 A0aaacc c0aaacc q0aaacc :: Mp E64 m0aah q0aah :: Mp E64 m0aak q0aak :: Bf (Elt.pair (Elt.pair E64 (Elt.pair (Elt.slice E8) (Elt.slice E8))) EBool) 88 A0b c0b q0b :: hs) w) {r : Int × (Int × Int × (List (List (Int × Int × (List UInt8))))) × Int} (hr : session_Look.impl o0a o0aa o0aaa q0aaab o0aaac q0aaacb q0aaacc q0aah q0aak q0b a1 a2 = some r) :
    Calls Tryd.prog 8 #[.pointer (some ⟨p0, 0, none⟩), .int .i64 a1, .int .i64 a2] w fun e w' => ∃ x : (Option Addr × Nat), e = .returned (.tuple #[.int .i64 r.1, .agg #[.int .i64 r.2.1.1, .int .i64 r.2.1.2.1, .slice x.1 r.2.1.2.2.length x.2], .int .i64 r.2.2]) ∧ St B (Ro (Elt.slice (Elt.pair E64 (Elt.pair E64 EStr))) x.1 x.2 r.2.1.2.2 :: Cl p0 84 [.pointer (some ⟨p0a, 0, none⟩), .slice A0b q0b.length c0b] :: ck4 p0a o0a p0aa :: ck2 p0aa o0aa p0aaa m0aah m0aak :: ck1 p0aaa o0aaa m0aaab p0aaac :: Mp E64 m0aaab q0aaab :: ck0 p0aaac o0aaac m0aaacb A0aaacc q0aaacc.length c0aaacc :: Mp (Elt.slice E8) m0aaacb q0aaacb :: Bf (Elt.pair E64 (Elt.slice E8)) 174 A0aaacc c0aaacc q0aaacc :: Mp E64 m0aah q0aah :: Mp E64 m0aak q0aak :: Bf (Elt.pair (Elt.pair E64 (Elt.pair (Elt.slice E8) (Elt.slice E8))) EBool) 88 A0b c0b q0b :: hs) w' := by
 unfold session_Look.impl at hr
 refine calls_T Tryd.func8 rfl rfl rfl hS ?_
 refine T.seq ?_
 refine T.region ?_
 refine T.assign .list rfl (wants0 rfl) rfl rfl ?_
 refine T.allocS .list rfl (wants0 rfl) rfl (cs := [.int .i64 0, .int .i64 0, .slice none 0 0]) rfl (fun b1 => ?_)
 refine T.assign .list rfl (wants0 rfl) rfl rfl ?_
 refine T.nil ?_
 refine T.then_normal ?_
 refine T.seq ?_
 refine T.seqJ (fun (s1 : Bool) (x1 : Unit) => [(0, .pointer (some ⟨p0, 0, none⟩)), (1, .int .i64 a1), (2, .int .i64 a2), (6, .int .i64 0), (7, .pointer (some ⟨b1, 0, none⟩)), (22, .bool s1)]) (fun s1 x1 => Cl p0 84 [.pointer (some ⟨p0a, 0, none⟩), .slice A0b q0b.length c0b] :: ck4 p0a o0a p0aa :: ck2 p0aa o0aa p0aaa m0aah m0aak :: ck1 p0aaa o0aaa m0aaab p0aaac :: Mp E64 m0aaab q0aaab :: ck0 p0aaac o0aaac m0aaacb A0aaacc q0aaacc.length c0aaacc :: Mp (Elt.slice E8) m0aaacb q0aaacb :: Bf (Elt.pair E64 (Elt.slice E8)) 174 A0aaacc c0aaacc q0aaacc :: Mp E64 m0aah q0aah :: Mp E64 m0aak q0aak :: Bf (Elt.pair (Elt.pair E64 (Elt.pair (Elt.slice E8) (Elt.slice E8))) EBool) 88 A0b c0b q0b :: Cl b1 31 [.int .i64 0, .int .i64 0, .slice none 0 0] :: hs) (fun s1 => session_Look.k1 o0a o0aa o0aaa q0aaab o0aaac q0aaacb q0aaacc q0aah q0aak q0b a1 a2 s1 = some r) (fun s1 x1 hk1 => ?_) (fun J1 => ?_)
 ·unfold session_Look.k1 at hk1
  refine T.cond rfl (fun hb1 => ?_) (fun hb1 => ?_)
  ·replace hk1 := inv_posB hb1 hk1
   refine T.seq ?_
   refine T.region ?_
   refine T.build .list (vals := []) (cells := #[.int .i64 0, .int .i64 0, .slice none 0 0]) rfl (wants0 rfl) rfl rfl (run_buildStruct (sizes := [1, 1, 1]) (by kernel_rfl) (by kernel_rfl)) ?_
   refine T.assign .list rfl (wants0 rfl) rfl rfl ?_
   refine T.store .list 11 rfl rfl (wants0 rfl) rfl rfl rfl rfl (Nat.le_of_ble_eq_true rfl) rfl (cs' := [.int .i64 0, .int .i64 0, .slice none 0 0]) rfl rfl ?_
   refine T.assign .list rfl (wants0 rfl) rfl rfl ?_
   refine T.nil ?_
   refine T.then_normal ?_
   refine T.ret ?_
   refine T.then_ret ?_
   obtain rfl := inv_some hk1
   refine T.nilRo (Elt.slice (Elt.pair E64 (Elt.pair E64 EStr))) none 0 ?_
   refine T.out3 rfl (OutRun.tmp rfl) (OutRun.cellN 12 rfl rfl (vs := [.int .i64 0, .int .i64 0, .slice none 0 0]) rfl rfl) (OutRun.tmp rfl) (fun w hS => ⟨(none, 0), rfl, hS.pick [0, 1, 2, 3, 4, 5, 6, 7, 8, 9, 10, 11] 13 rfl rfl nla rfl⟩)
  ·replace hk1 := inv_negB hb1 hk1
   refine T.skip ?_
   refine T.then_normal ?_
   refine T.seq ?_
   refine T.region ?_
   refine T.move .list rfl (wants0 rfl) rfl rfl ?_
   refine T.move .list rfl (wants0 rfl) rfl rfl ?_
   refine T.pick [0, 1, 2, 3, 4, 5, 6, 7, 8, 9, 10, 11] 12 rfl rfl nla (hs' := Cl p0 84 [.pointer (some ⟨p0a, 0, none⟩), .slice A0b q0b.length c0b] :: ck4 p0a o0a p0aa :: ck2 p0aa o0aa p0aaa m0aah m0aak :: ck1 p0aaa o0aaa m0aaab p0aaac :: Mp E64 m0aaab q0aaab :: ck0 p0aaac o0aaac m0aaacb A0aaacc q0aaacc.length c0aaacc :: Mp (Elt.slice E8) m0aaacb q0aaacb :: Bf (Elt.pair E64 (Elt.slice E8)) 174 A0aaacc c0aaacc q0aaacc :: Mp E64 m0aah q0aah :: Mp E64 m0aak q0aak :: Bf (Elt.pair (Elt.pair E64 (Elt.pair (Elt.slice E8) (Elt.slice E8))) EBool) 88 A0b c0b q0b :: Cl b1 31 [.int .i64 0, .int .i64 0, .slice none 0 0] :: hs) rfl ?_
   obtain ⟨r1, hg1, hk1⟩ := inv_bind hk1
   refine T.call .list (wants0 rfl) rfl (run_callF (vs := [_, _]) rfl Tryd.func20 rfl (by decide) rfl) (fun w hS => session_read.c hB hS (o0a := o0a) (o0aa := o0aa) (o0aaa := o0aaa) (q0aaab := q0aaab) (o0aaac := o0aaac) (q0aaacb := q0aaacb) (q0aaacc := q0aaacc) (q0aah := q0aah) (q0aak := q0aak) (q0b := q0b)  hg1) (fun x2 => ?_)
   refine T.move .list rfl (wants0 rfl) rfl rfl ?_
   refine T.extract .list rfl (wants0 rfl) rfl rfl rfl ?_
   refine T.extract .list rfl (wants0 rfl) rfl rfl rfl ?_
   refine T.extract .list rfl (wants0 rfl) rfl rfl rfl ?_
   refine T.allocS .list rfl (wants0 rfl) rfl (cs := [.int .i64 0, .int .i64 0, .slice none 0 0]) rfl (fun b2 => ?_)
   refine T.assign .list rfl (wants0 rfl) rfl rfl ?_
   refine T.store .list 0 rfl rfl (wants0 rfl) rfl rfl rfl rfl (Nat.le_of_ble_eq_true rfl) rfl (cs' := [.int .i64 r1.2.1.1, .int .i64 r1.2.1.2.1, .slice x2.1 r1.2.1.2.2.length x2.2]) rfl rfl ?_
   refine T.assign .list rfl (wants0 rfl) rfl rfl ?_
   refine T.nil ?_
   refine T.then_normal ?_
   refine T.seq ?_
   refine T.seq ?_
   refine T.region ?_
   refine T.move .list rfl (wants0 rfl) rfl rfl ?_
   refine T.bin .list rfl (wants0 rfl) rfl rfl rfl rfl ?_
   refine T.nil ?_
   refine T.then_normal ?_
   refine T.cond rfl (fun hb2 => ?_) (fun hb2 => ?_)
   ·replace hk1 := inv_posB hb2 hk1
    refine T.seq ?_
    refine T.region ?_
    refine T.build .list (vals := []) (cells := #[.int .i64 0, .int .i64 0, .slice none 0 0]) rfl (wants0 rfl) rfl rfl (run_buildStruct (sizes := [1, 1, 1]) (by kernel_rfl) (by kernel_rfl)) ?_
    refine T.move .list rfl (wants0 rfl) rfl rfl ?_
    refine T.assign .list rfl (wants0 rfl) rfl rfl ?_
    refine T.store .list 13 rfl rfl (wants0 rfl) rfl rfl rfl rfl (Nat.le_of_ble_eq_true rfl) rfl (cs' := [.int .i64 0, .int .i64 0, .slice none 0 0]) rfl rfl ?_
    refine T.assign .list rfl (wants0 rfl) rfl rfl ?_
    refine T.nil ?_
    refine T.then_normal ?_
    refine T.ret ?_
    refine T.then_ret ?_
    obtain rfl := inv_some hk1
    refine T.nilRo (Elt.slice (Elt.pair E64 (Elt.pair E64 EStr))) none 0 ?_
    refine T.out3 rfl (OutRun.tmp rfl) (OutRun.cellN 14 rfl rfl (vs := [.int .i64 0, .int .i64 0, .slice none 0 0]) rfl rfl) (OutRun.tmp rfl) (fun w hS => ⟨(none, 0), rfl, hS.pick [0, 3, 4, 5, 6, 7, 8, 9, 10, 11, 12, 13] 15 rfl rfl nla rfl⟩)
   ·replace hk1 := inv_negB hb2 hk1
    refine T.skip ?_
    refine T.then_normal ?_
    refine T.seqJ (fun (s2 : Int) (x3 : Unit) => [(6, .int .i64 s2), (7, .pointer (some ⟨b1, 0, none⟩)), (10, .pointer (some ⟨b2, 0, none⟩))]) (fun s2 x3 => Cl b1 31 [.int .i64 0, .int .i64 0, .slice none 0 0] :: Cl b2 31 [.int .i64 r1.2.1.1, .int .i64 r1.2.1.2.1, .slice x2.1 r1.2.1.2.2.length x2.2] :: Ro (Elt.slice (Elt.pair E64 (Elt.pair E64 EStr))) x2.1 x2.2 r1.2.1.2.2 :: Cl p0 84 [.pointer (some ⟨p0a, 0, none⟩), .slice A0b q0b.length c0b] :: ck4 p0a o0a p0aa :: ck2 p0aa o0aa p0aaa m0aah m0aak :: ck1 p0aaa o0aaa m0aaab p0aaac :: Mp E64 m0aaab q0aaab :: ck0 p0aaac o0aaac m0aaacb A0aaacc q0aaacc.length c0aaacc :: Mp (Elt.slice E8) m0aaacb q0aaacb :: Bf (Elt.pair E64 (Elt.slice E8)) 174 A0aaacc c0aaacc q0aaacc :: Mp E64 m0aah q0aah :: Mp E64 m0aak q0aak :: Bf (Elt.pair (Elt.pair E64 (Elt.pair (Elt.slice E8) (Elt.slice E8))) EBool) 88 A0b c0b q0b :: hs) (fun s2 => session_Look.k2 r1 s2 = some r) (fun s2 x3 hk2 => ?_) (fun J2 => ?_)
    ·unfold session_Look.k2 at hk2
     refine T.seqJ (fun (s3 : Int × Int × (List (List (Int × Int × (List UInt8))))) (x4 : (Option Addr × Nat)) => [(6, .int .i64 s2), (7, .pointer (some ⟨b1, 0, none⟩))]) (fun s3 x4 => Cl b1 31 [.int .i64 s3.1, .int .i64 s3.2.1, .slice x4.1 s3.2.2.length x4.2] :: Ro (Elt.slice (Elt.pair E64 (Elt.pair E64 EStr))) x4.1 x4.2 s3.2.2 :: Cl p0 84 [.pointer (some ⟨p0a, 0, none⟩), .slice A0b q0b.length c0b] :: ck4 p0a o0a p0aa :: ck2 p0aa o0aa p0aaa m0aah m0aak :: ck1 p0aaa o0aaa m0aaab p0aaac :: Mp E64 m0aaab q0aaab :: ck0 p0aaac o0aaac m0aaacb A0aaacc q0aaacc.length c0aaacc :: Mp (Elt.slice E8) m0aaacb q0aaacb :: Bf (Elt.pair E64 (Elt.slice E8)) 174 A0aaacc c0aaacc q0aaacc :: Mp E64 m0aah q0aah :: Mp E64 m0aak q0aak :: Bf (Elt.pair (Elt.pair E64 (Elt.pair (Elt.slice E8) (Elt.slice E8))) EBool) 88 A0b c0b q0b :: hs) (fun s3 => session_Look.k3 s2 s3 = some r) (fun s3 x4 hk3 => ?_) (fun J3 => ?_)
     ·unfold session_Look.k3 at hk3
      refine T.seq ?_
      refine T.plan [(0, 0), (2, 0), (1, 1), (3, 2), (4, 0)] mixed (by kernel_rfl) (by kernel_rfl) rfl (fun d _ _ _ _ h => by cases d <;> exact h) ?_
      refine T.move (.plan rfl) rfl (wants0 rfl) rfl rfl ?_
      refine T.assign (.plan rfl) rfl (wants0 rfl) rfl rfl ?_
      refine T.loadN (.plan rfl) 0 rfl rfl (wants0 rfl) rfl rfl (vs := [.int .i64 s3.1, .int .i64 s3.2.1, .slice x4.1 s3.2.2.length x4.2]) rfl rfl ?_
      refine T.store (.plan rfl) 0 rfl rfl (wants0 rfl) rfl rfl rfl rfl (Nat.le_of_ble_eq_true rfl) rfl (cs' := [.int .i64 s3.1, .int .i64 s3.2.1, .slice x4.1 s3.2.2.length x4.2]) rfl rfl ?_
      refine T.assign (.plan rfl) rfl (wants0 rfl) rfl rfl ?_
      refine T.planEnd ?_
      refine T.then_normal ?_
      refine T.ret ?_
      obtain rfl := inv_some hk3
      refine T.out3 rfl (OutRun.tmp rfl) (OutRun.cellN 0 rfl rfl (vs := [.int .i64 s3.1, .int .i64 s3.2.1, .slice x4.1 s3.2.2.length x4.2]) rfl rfl) (OutRun.tmp rfl) (fun w hS => ⟨x4, rfl, hS.pick [1, 2, 3, 4, 5, 6, 7, 8, 9, 10, 11, 12] 13 rfl rfl nla rfl⟩)
     ·refine T.seq ?_
      refine T.region ?_
      refine T.move .list rfl (wants0 rfl) rfl rfl ?_
      refine T.bin .list rfl (wants0 rfl) rfl rfl rfl rfl ?_
      refine T.nil ?_
      refine T.then_normal ?_
      refine T.cond rfl (fun hb3 => ?_) (fun hb3 => ?_)
      ·replace hk2 := inv_posB hb3 hk2
       refine T.region ?_
       refine T.loadN .list 1 rfl rfl (wants0 rfl) rfl rfl (vs := [.int .i64 r1.2.1.1, .int .i64 r1.2.1.2.1, .slice x2.1 r1.2.1.2.2.length x2.2]) rfl rfl ?_
       refine T.store .list 0 rfl rfl (wants0 rfl) rfl rfl rfl rfl (Nat.le_of_ble_eq_true rfl) rfl (cs' := [.int .i64 r1.2.1.1, .int .i64 r1.2.1.2.1, .slice x2.1 r1.2.1.2.2.length x2.2]) rfl rfl ?_
       refine T.nil ?_
       refine T.then_normal ?_
       exact T.le (EnvLe.cons rfl (EnvLe.cons rfl EnvLe.nil)) (T.pick [0, 2, 3, 4, 5, 6, 7, 8, 9, 10, 11, 12, 13] 14 rfl rfl nla rfl (J3 r1.2.1 x2 hk2))
      ·replace hk2 := inv_negB hb3 hk2
       refine T.skip ?_
       refine T.then_normal ?_
       refine T.nilRo (Elt.slice (Elt.pair E64 (Elt.pair E64 EStr))) none 0 ?_
       exact T.le (EnvLe.cons rfl (EnvLe.cons rfl EnvLe.nil)) (T.pick [1, 0, 4, 5, 6, 7, 8, 9, 10, 11, 12, 13, 14] 15 rfl rfl nla rfl (J3 (0, 0, ([] : List (List (Int × Int × (List UInt8))))) (none, 0) hk2))
    ·refine T.block ?_
     refine T.seqJ (fun (s4 : Int) (x5 : Unit) => [(6, .int .i64 s4), (7, .pointer (some ⟨b1, 0, none⟩)), (10, .pointer (some ⟨b2, 0, none⟩))]) (fun s4 x5 => Cl b1 31 [.int .i64 0, .int .i64 0, .slice none 0 0] :: Cl b2 31 [.int .i64 r1.2.1.1, .int .i64 r1.2.1.2.1, .slice x2.1 r1.2.1.2.2.length x2.2] :: Ro (Elt.slice (Elt.pair E64 (Elt.pair E64 EStr))) x2.1 x2.2 r1.2.1.2.2 :: Cl p0 84 [.pointer (some ⟨p0a, 0, none⟩), .slice A0b q0b.length c0b] :: ck4 p0a o0a p0aa :: ck2 p0aa o0aa p0aaa m0aah m0aak :: ck1 p0aaa o0aaa m0aaab p0aaac :: Mp E64 m0aaab q0aaab :: ck0 p0aaac o0aaac m0aaacb A0aaacc q0aaacc.length c0aaacc :: Mp (Elt.slice E8) m0aaacb q0aaacb :: Bf (Elt.pair E64 (Elt.slice E8)) 174 A0aaacc c0aaacc q0aaacc :: Mp E64 m0aah q0aah :: Mp E64 m0aak q0aak :: Bf (Elt.pair (Elt.pair E64 (Elt.pair (Elt.slice E8) (Elt.slice E8))) EBool) 88 A0b c0b q0b :: hs) (fun s4 => session_Look.k4 r1 s4 = some r) (fun s4 x5 hk4 => ?_) (fun J4 => ?_)
     ·unfold session_Look.k4 at hk4
      refine T.seq ?_
      refine T.region ?_
      refine T.move .list rfl (wants0 rfl) rfl rfl ?_
      refine T.bin .list rfl (wants0 rfl) rfl rfl rfl rfl ?_
      refine T.assign .list rfl (wants0 rfl) rfl rfl ?_
      refine T.nil ?_
      refine T.then_normal ?_
      refine T.exit ?_
      refine T.in_hit ?_
      refine T.then_normal ?_
      exact T.le (EnvLe.cons rfl (EnvLe.cons rfl (EnvLe.cons rfl EnvLe.nil))) (T.pick [0, 1, 2, 3, 4, 5, 6, 7, 8, 9, 10, 11, 12, 13] 14 rfl rfl nla rfl (J2 (IntKind.i64.wrap (s4 + 1)) () hk4))
     ·refine T.block ?_
      refine T.seq ?_
      refine T.block ?_
      refine T.seq ?_
      refine T.seq ?_
      refine T.seq ?_
      refine T.region ?_
      refine T.move .list rfl (wants0 rfl) rfl rfl ?_
      refine T.move .list rfl (wants0 rfl) rfl rfl ?_
      refine T.bin .list rfl (wants0 rfl) rfl rfl rfl rfl ?_
      refine T.assign .list rfl (wants0 rfl) rfl rfl ?_
      refine T.nil ?_
      refine T.then_normal ?_
      refine T.cond rfl (fun hb4 => ?_) (fun hb4 => ?_)
      ·replace hk1 := inv_posB hb4 hk1
       refine T.exit ?_
       refine T.then_exit ?_
       refine T.then_exit ?_
       refine T.in_hit ?_
       refine T.then_normal ?_
       refine T.region ?_
       refine T.move .list rfl (wants0 rfl) rfl rfl ?_
       refine T.bin .list rfl (wants0 rfl) rfl rfl rfl rfl ?_
       refine T.assign .list rfl (wants0 rfl) rfl rfl ?_
       refine T.nil ?_
       refine T.in_normal ?_
       refine T.then_normal ?_
       exact T.le (EnvLe.cons rfl (EnvLe.cons rfl (EnvLe.cons rfl EnvLe.nil))) (T.pick [13, 0, 1, 2, 3, 4, 5, 6, 7, 8, 9, 10, 11, 12] 14 rfl rfl nla rfl (J4 (IntKind.i64.wrap (0 + 1)) () hk1))
      ·replace hk1 := inv_negB hb4 hk1
       refine T.skip ?_
       refine T.then_normal ?_
       refine T.seq ?_
       refine T.region ?_
       refine T.move .list rfl (wants0 rfl) rfl rfl ?_
       refine T.move .list rfl (wants0 rfl) rfl rfl ?_
       refine T.bin .list rfl (wants0 rfl) rfl rfl rfl rfl ?_
       refine T.assign .list rfl (wants0 rfl) rfl rfl ?_
       refine T.nil ?_
       refine T.then_normal ?_
       refine T.cond rfl (fun hb5 => ?_) (fun hb5 => ?_)
       ·replace hk1 := inv_posB hb5 hk1
        refine T.exit ?_
        refine T.then_exit ?_
        refine T.in_miss rfl ?_
        refine T.then_exit ?_
        refine T.in_hit ?_
        refine T.then_normal ?_
        exact T.le (EnvLe.cons rfl (EnvLe.cons rfl (EnvLe.cons rfl EnvLe.nil))) (T.pick [13, 0, 1, 2, 3, 4, 5, 6, 7, 8, 9, 10, 11, 12] 14 rfl rfl nla rfl (J4 0 () hk1))
       ·replace hk1 := inv_negB hb5 hk1
        refine T.skip ?_
        refine T.then_normal ?_
        refine T.exit ?_
        refine T.in_miss rfl ?_
        refine T.then_exit ?_
        refine T.in_miss rfl ?_
        refine T.then_exit ?_
        refine T.in_hit ?_
        refine T.then_normal ?_
        exact T.le (EnvLe.cons rfl (EnvLe.cons rfl (EnvLe.cons rfl EnvLe.nil))) (T.pick [13, 0, 1, 2, 3, 4, 5, 6, 7, 8, 9, 10, 11, 12] 14 rfl rfl nla rfl (J2 0 () hk1))
 ·refine T.region ?_
  refine T.move .list rfl (wants0 rfl) rfl rfl ?_
  refine T.move .list rfl (wants0 rfl) rfl rfl ?_
  refine T.pick [1, 2, 3, 4, 5, 6, 7, 8, 9, 10, 11, 0] 12 rfl rfl nla (hs' := Cl p0 84 [.pointer (some ⟨p0a, 0, none⟩), .slice A0b q0b.length c0b] :: ck4 p0a o0a p0aa :: ck2 p0aa o0aa p0aaa m0aah m0aak :: ck1 p0aaa o0aaa m0aaab p0aaac :: Mp E64 m0aaab q0aaab :: ck0 p0aaac o0aaac m0aaacb A0aaacc q0aaacc.length c0aaacc :: Mp (Elt.slice E8) m0aaacb q0aaacb :: Bf (Elt.pair E64 (Elt.slice E8)) 174 A0aaacc c0aaacc q0aaacc :: Mp E64 m0aah q0aah :: Mp E64 m0aak q0aak :: Bf (Elt.pair (Elt.pair E64 (Elt.pair (Elt.slice E8) (Elt.slice E8))) EBool) 88 A0b c0b q0b :: Cl b1 31 [.int .i64 0, .int .i64 0, .slice none 0 0] :: hs) rfl ?_
  obtain ⟨r2, hg2, hr⟩ := inv_bind hr
  refine T.call .list (wants0 rfl) rfl (run_callF (vs := [_, _]) rfl Tryd.func19 rfl (by decide) rfl) (fun w hS => session_right.c hB hS (o0a := o0a) (o0aa := o0aa) (o0aaa := o0aaa) (q0aaab := q0aaab) (o0aaac := o0aaac) (q0aaacb := q0aaacb) (q0aaacc := q0aaacc) (q0aah := q0aah) (q0aak := q0aak) (q0b := q0b)  hg2) (fun x6 => ?_)
  refine T.bin .list rfl (wants0 rfl) rfl rfl rfl rfl ?_
  refine T.move .list rfl (wants0 rfl) rfl rfl ?_
  refine T.bool (b := (decide (r2 = 0))) (fun hb6 => ?_) (fun hb6 => ?_)
  ·replace hr := inv_posB hb6 hr
   refine T.move .list rfl (wants1 rfl rfl rfl (not_t hb6)) rfl rfl ?_
   refine T.bin .list rfl (wants1 rfl rfl rfl (not_t hb6)) rfl rfl rfl rfl ?_
   refine T.pickF .list rfl (wants0 rfl) rfl rfl (not_t hb6) rfl ?_
   refine T.move .list rfl (wants0 rfl) rfl rfl ?_
   refine T.bool (b := (decide (a2 < 1))) (fun hb7 => ?_) (fun hb7 => ?_)
   ·replace hr := inv_posB hb7 hr
    refine T.leave .list (wantsNot rfl rfl rfl hb7) rfl ?_
    refine T.leave .list (wantsNot rfl rfl rfl hb7) rfl ?_
    refine T.pickT .list rfl (wants0 rfl) rfl rfl hb7 rfl ?_
    refine T.nil ?_
    refine T.then_normal ?_
    exact T.le (EnvLe.cons rfl (EnvLe.cons rfl (EnvLe.cons rfl (EnvLe.cons rfl (EnvLe.cons rfl (EnvLe.cons rfl EnvLe.nil)))))) (T.pick [0, 1, 2, 3, 4, 5, 6, 7, 8, 9, 10, 11] 12 rfl rfl nla rfl (J1 true () hr))
   ·replace hr := inv_negB hb7 hr
    refine T.move .list rfl (wants1 rfl rfl rfl hb7) rfl rfl ?_
    refine T.bin .list rfl (wants1 rfl rfl rfl hb7) rfl rfl rfl rfl ?_
    refine T.pickF .list rfl (wants0 rfl) rfl rfl hb7 rfl ?_
    refine T.nil ?_
    refine T.then_normal ?_
    exact T.le (EnvLe.cons rfl (EnvLe.cons rfl (EnvLe.cons rfl (EnvLe.cons rfl (EnvLe.cons rfl (EnvLe.cons rfl EnvLe.nil)))))) (T.pick [0, 1, 2, 3, 4, 5, 6, 7, 8, 9, 10, 11] 12 rfl rfl nla rfl (J1 (decide ((2147483647 : Int) < a2)) () hr))
  ·replace hr := inv_negB hb6 hr
   refine T.leave .list (wantsNot rfl rfl rfl (not_f hb6)) rfl ?_
   refine T.leave .list (wantsNot rfl rfl rfl (not_f hb6)) rfl ?_
   refine T.pickT .list rfl (wants0 rfl) rfl rfl (not_f hb6) rfl ?_
   refine T.move .list rfl (wants0 rfl) rfl rfl ?_
   refine T.leave .list (wantsNot rfl rfl rfl rfl) rfl ?_
   refine T.leave .list (wantsNot rfl rfl rfl rfl) rfl ?_
   refine T.pickT .list rfl (wants0 rfl) rfl rfl rfl rfl ?_
   refine T.nil ?_
   refine T.then_normal ?_
   exact T.le (EnvLe.cons rfl (EnvLe.cons rfl (EnvLe.cons rfl (EnvLe.cons rfl (EnvLe.cons rfl (EnvLe.cons rfl EnvLe.nil)))))) (T.pick [0, 1, 2, 3, 4, 5, 6, 7, 8, 9, 10, 11] 12 rfl rfl nla rfl (J1 true () hr))

noncomputable def session_Keep.impl (o0a : Int × Int × Int × Int × Int × Int × Int × Int × Int × Int × Int × Int × Int × Int × Int × Int × Int) (o0aa : Int × Int × Int × Int) (o0aaa : Int × Int × Int × Int) (q0aaab : List (Int × Int)) (o0aaac : Int × Bool × Int × Int × Int × Int × Int) (q0aaacb : List (Int × (List UInt8))) (q0aaacc : List (Int × (List UInt8))) (q0aah : List (Int × Int)) (q0aak : List (Int × Int)) (q0b : List ((Int × (List UInt8) × (List UInt8)) × Bool)) (a1 : Int) (a2 : Int) (a3 : Int × Int × (List (List (Int × Int × (List UInt8))))) : Option (Int × (List ((Int × (List UInt8) × (List UInt8)) × Bool))) :=
  (session_Look.impl o0a o0aa o0aaa q0aaab o0aaac q0aaacb q0aaacc q0aah q0aak q0b a1 a2).bind fun r1 => (if ((!(decide (r1.2.2 = 0)))) = true then some (r1.2.2, q0b) else (if ((!(decide (r1.1 = 0)))) = true then some (50, q0b) else (entry_EncodeReply.impl a3).bind fun r2 => (if ((!(decide (r2.2 = 0)))) = true then some (r2.2, q0b) else (wire_Uint.impl a2).bind fun r3 => chk ((r3.length + r2.1.length) * 1 ≤ 140737488355328) ((draft_Draft_Put.impl o0a o0aa o0aaa q0aaab o0aaac q0aaacb q0aaacc q0aah q0aak q0b 4 (([(u8 (IntKind.u8.wrap a1))] : List UInt8)) ((r3 ++ r2.1))).bind fun r4 => some r4))))
set_option maxRecDepth 100000 in
set_option maxHeartbeats 4000000 in
theorem session_Keep.c {B : World} {hs : List MP} {w : World} {p0 : Nat} {p0a : Nat} {o0a : Int × Int × Int × Int × Int × Int × Int × Int × Int × Int × Int × Int × Int × Int × Int × Int × Int} {p0aa : Nat} {o0aa : Int × Int × Int × Int} {p0aaa : Nat} {o0aaa : Int × Int × Int × Int} {m0aaab : Nat} {q0aaab : List (Int × Int)} {p0aaac : Nat} {o0aaac : Int × Bool × Int × Int × Int × Int × Int} {m0aaacb : Nat} {q0aaacb : List (Int × (List UInt8))} {c0aaacc : Nat} {A0aaacc : Option Addr} {q0aaacc : List (Int × (List UInt8))} {m0aah : Nat} {q0aah : List (Int × Int)} {m0aak : Nat} {q0aak : List (Int × Int)} {c0b : Nat} {A0b : Option Addr} {q0b : List ((Int × (List UInt8) × (List UInt8)) × Bool)} {a1 : Int} {a2 : Int} {a3 : Int × Int × (List (List (Int × Int × (List UInt8))))} {i3a c3a : Nat} {A3a : Option Addr} (hB : Base B) (hS : St B (Cl p0 84 [.pointer (some ⟨p0a, 0, none⟩), .slice A0b q0b.length c0b] :: ck4 p0a o0a p0aa :: ck2 p0aa o0aa p0aaa m0aah m0aak :: ck1 p0aaa o0aaa m0aaab p0aaac :: Mp E64 m0aaab q0aaab :: ck0 p0aaac o0aaac m0aaacb A0aaacc q0aaacc.length c0aaacc :: Mp (Elt.slice E8) m0aaacb q0aaacb :: Bf (Elt.pair E64 (Elt.slice E8)) 174 A0aaacc c0aaacc q0aaacc :: Mp E64 m0aah q0aah :: Mp E64 m0aak q0aak :: Bf (Elt.pair (Elt.pair E64 (Elt.pair (Elt.slice E8) (Elt.slice E8))) EBool) 88 A0b c0b q0b :: hs) w) (h3a : (Cl p0 84 [.pointer (some ⟨p0a, 0, none⟩), .slice A0b q0b.length c0b] :: ck4 p0a o0a p0aa :: ck2 p0aa o0aa p0aaa m0aah m0aak :: ck1 p0aaa o0aaa m0aaab p0aaac :: Mp E64 m0aaab q0aaab :: ck0 p0aaac o0aaac m0aaacb A0aaacc q0aaacc.length c0aaacc :: Mp (Elt.slice E8) m0aaacb q0aaacb :: Bf (Elt.pair E64 (Elt.slice E8)) 174 A0aaacc c0aaacc q0aaacc :: Mp E64 m0aah q0aah :: Mp E64 m0aak q0aak :: Bf (Elt.pair (Elt.pair E64 (Elt.pair (Elt.slice E8) (Elt.slice E8))) EBool) 88 A0b c0b q0b :: hs)[i3a]? = some (Ro (Elt.slice (Elt.pair E64 (Elt.pair E64 EStr))) A3a c3a a3.2.2)) {r : Int × (List ((Int × (List UInt8) × (List UInt8)) × Bool))} (hr : session_Keep.impl o0a o0aa o0aaa q0aaab o0aaac q0aaacb q0aaacc q0aah q0aak q0b a1 a2 a3 = some r) :
    Calls Tryd.prog 6 #[.pointer (some ⟨p0, 0, none⟩), .int .i64 a1, .int .i64 a2, .agg #[.int .i64 a3.1, .int .i64 a3.2.1, .slice A3a a3.2.2.length c3a]] w fun e w' => ∃ x : (Option Addr × Nat), e = .returned (.int .i64 r.1) ∧ St B (Cl p0 84 [.pointer (some ⟨p0a, 0, none⟩), .slice x.1 r.2.length x.2] :: ck4 p0a o0a p0aa :: ck2 p0aa o0aa p0aaa m0aah m0aak :: ck1 p0aaa o0aaa m0aaab p0aaac :: Mp E64 m0aaab q0aaab :: ck0 p0aaac o0aaac m0aaacb A0aaacc q0aaacc.length c0aaacc :: Mp (Elt.slice E8) m0aaacb q0aaacb :: Bf (Elt.pair E64 (Elt.slice E8)) 174 A0aaacc c0aaacc q0aaacc :: Mp E64 m0aah q0aah :: Mp E64 m0aak q0aak :: Bf (Elt.pair (Elt.pair E64 (Elt.pair (Elt.slice E8) (Elt.slice E8))) EBool) 88 x.1 x.2 r.2 :: hs) w' := by
 unfold session_Keep.impl at hr
 refine calls_T Tryd.func6 rfl rfl rfl hS ?_
 refine T.front i3a h3a ?_
 refine T.seq ?_
 refine T.region ?_
 refine T.boxS .list rfl (wants0 rfl) rfl rfl (cs := [.int .i64 a3.1, .int .i64 a3.2.1, .slice A3a a3.2.2.length c3a]) rfl (fun b1 => ?_)
 refine T.assign .list rfl (wants0 rfl) rfl rfl ?_
 refine T.nil ?_
 refine T.then_normal ?_
 refine T.seq ?_
 refine T.region ?_
 refine T.move .list rfl (wants0 rfl) rfl rfl ?_
 refine T.move .list rfl (wants0 rfl) rfl rfl ?_
 refine T.move .list rfl (wants0 rfl) rfl rfl ?_
 refine T.pick [2, 3, 4, 5, 6, 7, 8, 9, 10, 11, 12, 0, 1] 13 rfl rfl nla (hs' := Cl p0 84 [.pointer (some ⟨p0a, 0, none⟩), .slice A0b q0b.length c0b] :: ck4 p0a o0a p0aa :: ck2 p0aa o0aa p0aaa m0aah m0aak :: ck1 p0aaa o0aaa m0aaab p0aaac :: Mp E64 m0aaab q0aaab :: ck0 p0aaac o0aaac m0aaacb A0aaacc q0aaacc.length c0aaacc :: Mp (Elt.slice E8) m0aaacb q0aaacb :: Bf (Elt.pair E64 (Elt.slice E8)) 174 A0aaacc c0aaacc q0aaacc :: Mp E64 m0aah q0aah :: Mp E64 m0aak q0aak :: Bf (Elt.pair (Elt.pair E64 (Elt.pair (Elt.slice E8) (Elt.slice E8))) EBool) 88 A0b c0b q0b :: Cl b1 31 [.int .i64 a3.1, .int .i64 a3.2.1, .slice A3a a3.2.2.length c3a] :: Ro (Elt.slice (Elt.pair E64 (Elt.pair E64 EStr))) A3a c3a a3.2.2 :: hs) rfl ?_
 obtain ⟨r1, hg1, hr⟩ := inv_bind hr
 refine T.call .list (wants0 rfl) rfl (run_callF (vs := [_, _, _]) rfl Tryd.func8 rfl (by decide) rfl) (fun w hS => session_Look.c hB hS (o0a := o0a) (o0aa := o0aa) (o0aaa := o0aaa) (q0aaab := q0aaab) (o0aaac := o0aaac) (q0aaacb := q0aaacb) (q0aaacc := q0aaacc) (q0aah := q0aah) (q0aak := q0aak) (q0b := q0b)  hg1) (fun x1 => ?_)
 refine T.move .list rfl (wants0 rfl) rfl rfl ?_
 refine T.extract .list rfl (wants0 rfl) rfl rfl rfl ?_
 refine T.extract .list rfl (wants0 rfl) rfl rfl rfl ?_
 refine T.extract .list rfl (wants0 rfl) rfl rfl rfl ?_
 refine T.allocS .list rfl (wants0 rfl) rfl (cs := [.int .i64 0, .int .i64 0, .slice none 0 0]) rfl (fun b2 => ?_)
 refine T.assign .list rfl (wants0 rfl) rfl rfl ?_
 refine T.store .list 0 rfl rfl (wants0 rfl) rfl rfl rfl rfl (Nat.le_of_ble_eq_true rfl) rfl (cs' := [.int .i64 r1.2.1.1, .int .i64 r1.2.1.2.1, .slice x1.1 r1.2.1.2.2.length x1.2]) rfl rfl ?_
 refine T.assign .list rfl (wants0 rfl) rfl rfl ?_
 refine T.nil ?_
 refine T.then_normal ?_
 refine T.seq ?_
 refine T.block ?_
 refine T.seq ?_
 refine T.region ?_
 refine T.move .list rfl (wants0 rfl) rfl rfl ?_
 refine T.bin .list rfl (wants0 rfl) rfl rfl rfl rfl ?_
 refine T.assign .list rfl (wants0 rfl) rfl rfl ?_
 refine T.nil ?_
 refine T.then_normal ?_
 refine T.cond rfl (fun hb1 => ?_) (fun hb1 => ?_)
 ·replace hr := inv_posB hb1 hr
  refine T.seq ?_
  refine T.region ?_
  refine T.move .list rfl (wants0 rfl) rfl rfl ?_
  refine T.assign .list rfl (wants0 rfl) rfl rfl ?_
  refine T.nil ?_
  refine T.then_normal ?_
  refine T.ret ?_
  refine T.in_ret ?_
  refine T.then_ret ?_
  obtain rfl := inv_some hr
  refine T.pick [2, 3, 4, 5, 6, 7, 8, 9, 10, 11, 12] 15 rfl rfl nla rfl ?_
  refine T.ret1 rfl rfl (fun w hS => ⟨(A0b, c0b), rfl, hS⟩)
 ·replace hr := inv_negB hb1 hr
  refine T.seq ?_
  refine T.region ?_
  refine T.move .list rfl (wants0 rfl) rfl rfl ?_
  refine T.bin .list rfl (wants0 rfl) rfl rfl rfl rfl ?_
  refine T.assign .list rfl (wants0 rfl) rfl rfl ?_
  refine T.nil ?_
  refine T.then_normal ?_
  refine T.cond rfl (fun hb2 => ?_) (fun hb2 => ?_)
  ·replace hr := inv_posB hb2 hr
   refine T.seq ?_
   refine T.region ?_
   refine T.assign .list rfl (wants0 rfl) rfl rfl ?_
   refine T.nil ?_
   refine T.then_normal ?_
   refine T.ret ?_
   refine T.in_ret ?_
   refine T.then_ret ?_
   obtain rfl := inv_some hr
   refine T.pick [2, 3, 4, 5, 6, 7, 8, 9, 10, 11, 12] 15 rfl rfl nla rfl ?_
   refine T.ret1 rfl rfl (fun w hS => ⟨(A0b, c0b), rfl, hS⟩)
  ·replace hr := inv_negB hb2 hr
   refine T.skip ?_
   refine T.in_normal ?_
   refine T.then_normal ?_
   refine T.seq ?_
   refine T.region ?_
   refine T.loadN .list 13 rfl rfl (wants0 rfl) rfl rfl (vs := [.int .i64 a3.1, .int .i64 a3.2.1, .slice A3a a3.2.2.length c3a]) rfl rfl ?_
   obtain ⟨r2, hg2, hr⟩ := inv_bind hr
   refine T.call .list (wants0 rfl) rfl (run_callF (vs := [_]) rfl Tryd.func15 rfl (by decide) rfl) (fun w hS => entry_EncodeReply.c hB hS (i0a := 14) (a0 := a3) rfl hg2) (fun x2 => ?_)
   refine T.move .list rfl (wants0 rfl) rfl rfl ?_
   refine T.extract .list rfl (wants0 rfl) rfl rfl rfl ?_
   refine T.extract .list rfl (wants0 rfl) rfl rfl rfl ?_
   refine T.assign .list rfl (wants0 rfl) rfl rfl ?_
   refine T.assign .list rfl (wants0 rfl) rfl rfl ?_
   refine T.nil ?_
   refine T.then_normal ?_
   refine T.seq ?_
   refine T.seq ?_
   refine T.region ?_
   refine T.move .list rfl (wants0 rfl) rfl rfl ?_
   refine T.bin .list rfl (wants0 rfl) rfl rfl rfl rfl ?_
   refine T.nil ?_
   refine T.then_normal ?_
   refine T.cond rfl (fun hb3 => ?_) (fun hb3 => ?_)
   ·replace hr := inv_posB hb3 hr
    refine T.seq ?_
    refine T.region ?_
    refine T.move .list rfl (wants0 rfl) rfl rfl ?_
    refine T.assign .list rfl (wants0 rfl) rfl rfl ?_
    refine T.nil ?_
    refine T.then_normal ?_
    refine T.ret ?_
    refine T.then_ret ?_
    obtain rfl := inv_some hr
    refine T.pick [3, 4, 5, 6, 7, 8, 9, 10, 11, 12, 13] 16 rfl rfl nla rfl ?_
    refine T.ret1 rfl rfl (fun w hS => ⟨(A0b, c0b), rfl, hS⟩)
   ·replace hr := inv_negB hb3 hr
    refine T.skip ?_
    refine T.then_normal ?_
    refine T.seq ?_
    refine T.region ?_
    refine T.move .list rfl (wants0 rfl) rfl rfl ?_
    refine T.move .list rfl (wants0 rfl) rfl rfl ?_
    refine T.conv .list rfl (wants0 rfl) rfl rfl rfl ?_
    refine T.lit (E := E8) .list (vals := [(0, .int .u8 (IntKind.u8.wrap a1))]) (cells := #[.int .u8 (IntKind.u8.wrap a1)]) rfl (wants0 rfl) rfl rfl rfl rfl rfl (by kernel_rfl) ([(u8 (IntKind.u8.wrap a1))] : List UInt8) rfl (fun _ _ _ _ _ => (Encs.c1 (enc := b8) (h1 := fun _ => rfl) (b8_wrap _) rfl)) (fun b3 => ?_)
    refine T.move .list rfl (wants0 rfl) rfl rfl ?_
    obtain ⟨r3, hg3, hr⟩ := inv_bind hr
    refine T.call .list (wants0 rfl) rfl (run_callF (vs := [_]) rfl Tryd.func17 rfl (by decide) rfl) (fun w hS => wire_Uint.c hB hS  hg3) (fun x3 => ?_)
    refine T.move .list rfl (wants0 rfl) rfl rfl ?_
    obtain ⟨hc1, hr⟩ := inv_chk hr
    refine T.appBf .list 0 2 rfl rfl rfl rfl rfl (wants0 rfl) rfl rfl rfl rfl rfl rfl hc1 (fun _ _ => rfl) (fun A5 c5 => ?_)
    refine T.freeze 1 rfl rfl rfl ?_
    refine T.freeze 0 rfl rfl rfl ?_
    refine T.pick [5, 6, 7, 8, 9, 10, 11, 12, 13, 14, 15, 0, 1, 2, 3, 4, 16, 17] 18 rfl rfl nla (hs' := Cl p0 84 [.pointer (some ⟨p0a, 0, none⟩), .slice A0b q0b.length c0b] :: ck4 p0a o0a p0aa :: ck2 p0aa o0aa p0aaa m0aah m0aak :: ck1 p0aaa o0aaa m0aaab p0aaac :: Mp E64 m0aaab q0aaab :: ck0 p0aaac o0aaac m0aaacb A0aaacc q0aaacc.length c0aaacc :: Mp (Elt.slice E8) m0aaacb q0aaacb :: Bf (Elt.pair E64 (Elt.slice E8)) 174 A0aaacc c0aaacc q0aaacc :: Mp E64 m0aah q0aah :: Mp E64 m0aak q0aak :: Bf (Elt.pair (Elt.pair E64 (Elt.pair (Elt.slice E8) (Elt.slice E8))) EBool) 88 A0b c0b q0b :: Ro E8 A5 c5 ((r3 ++ r2.1)) :: Ro E8 (some ⟨b3, 0, none⟩) 1 (([(u8 (IntKind.u8.wrap a1))] : List UInt8)) :: Bf E8 5 x2.1 x2.2 r2.1 :: Cl b2 31 [.int .i64 r1.2.1.1, .int .i64 r1.2.1.2.1, .slice x1.1 r1.2.1.2.2.length x1.2] :: Ro (Elt.slice (Elt.pair E64 (Elt.pair E64 EStr))) x1.1 x1.2 r1.2.1.2.2 :: Cl b1 31 [.int .i64 a3.1, .int .i64 a3.2.1, .slice A3a a3.2.2.length c3a] :: Ro (Elt.slice (Elt.pair E64 (Elt.pair E64 EStr))) A3a c3a a3.2.2 :: hs) rfl ?_
    obtain ⟨r4, hg4, hr⟩ := inv_bind hr
    refine T.call .list (wants0 rfl) rfl (run_callF (vs := [_, _, _, _]) rfl Tryd.func16 rfl (by decide) rfl) (fun w hS => draft_Draft_Put.c hB hS (i2 := 12) (i3 := 11) (o0a := o0a) (o0aa := o0aa) (o0aaa := o0aaa) (q0aaab := q0aaab) (o0aaac := o0aaac) (q0aaacb := q0aaacb) (q0aaacc := q0aaacc) (q0aah := q0aah) (q0aak := q0aak) (q0b := q0b) rfl rfl hg4) (fun x4 => ?_)
    refine T.assign .list rfl (wants0 rfl) rfl rfl ?_
    refine T.nil ?_
    refine T.then_normal ?_
    refine T.ret ?_
    obtain rfl := inv_some hr
    refine T.pick [0, 1, 2, 3, 4, 5, 6, 7, 8, 9, 10] 18 rfl rfl nla rfl ?_
    refine T.ret1 rfl rfl (fun w hS => ⟨x4, rfl, hS⟩)

noncomputable def session_Last.impl (o0a : Int × Int × Int × Int × Int × Int × Int × Int × Int × Int × Int × Int × Int × Int × Int × Int × Int) (o0aa : Int × Int × Int × Int) (o0aaa : Int × Int × Int × Int) (q0aaab : List (Int × Int)) (o0aaac : Int × Bool × Int × Int × Int × Int × Int) (q0aaacb : List (Int × (List UInt8))) (q0aaacc : List (Int × (List UInt8))) (q0aah : List (Int × Int)) (q0aak : List (Int × Int)) (q0b : List ((Int × (List UInt8) × (List UInt8)) × Bool)) (a1 : Int) : Option (Int × Int) :=
  (session_right.impl o0a o0aa o0aaa q0aaab o0aaac q0aaacb q0aaacc q0aah q0aak q0b a1).bind fun r1 => (if ((!(decide (r1 = 0)))) = true then some (0, r1) else (session_read.impl o0a o0aa o0aaa q0aaab o0aaac q0aaacb q0aaacc q0aah q0aak q0b a1).bind fun r2 => some (r2.1, r2.2.2))
set_option maxRecDepth 100000 in
set_option maxHeartbeats 4000000 in
theorem session_Last.c {B : World} {hs : List MP} {w : World} {p0 : Nat} {p0a : Nat} {o0a : Int × Int × Int × Int × Int × Int × Int × Int × Int × Int × Int × Int × Int × Int × Int × Int × Int} {p0aa : Nat} {o0aa : Int × Int × Int × Int} {p0aaa : Nat} {o0aaa : Int × Int × Int × Int} {m0aaab : Nat} {q0aaab : List (Int × Int)} {p0aaac : Nat} {o0aaac : Int × Bool × Int × Int × Int × Int × Int} {m0aaacb : Nat} {q0aaacb : List (Int × (List UInt8))} {c0aaacc : Nat} {A0aaacc : Option Addr} {q0aaacc : List (Int × (List UInt8))} {m0aah : Nat} {q0aah : List (Int × Int)} {m0aak : Nat} {q0aak : List (Int × Int)} {c0b : Nat} {A0b : Option Addr} {q0b : List ((Int × (List UInt8) × (List UInt8)) × Bool)} {a1 : Int} (hB : Base B) (hS : St B (Cl p0 84 [.pointer (some ⟨p0a, 0, none⟩), .slice A0b q0b.length c0b] :: ck4 p0a o0a p0aa :: ck2 p0aa o0aa p0aaa m0aah m0aak :: ck1 p0aaa o0aaa m0aaab p0aaac :: Mp E64 m0aaab q0aaab :: ck0 p0aaac o0aaac m0aaacb A0aaacc q0aaacc.length c0aaacc :: Mp (Elt.slice E8) m0aaacb q0aaacb :: Bf (Elt.pair E64 (Elt.slice E8)) 174 A0aaacc c0aaacc q0aaacc :: Mp E64 m0aah q0aah :: Mp E64 m0aak q0aak :: Bf (Elt.pair (Elt.pair E64 (Elt.pair (Elt.slice E8) (Elt.slice E8))) EBool) 88 A0b c0b q0b :: hs) w) {r : Int × Int} (hr : session_Last.impl o0a o0aa o0aaa q0aaab o0aaac q0aaacb q0aaacc q0aah q0aak q0b a1 = some r) :
    Calls Tryd.prog 10 #[.pointer (some ⟨p0, 0, none⟩), .int .i64 a1] w fun e w' => ∃ x : Unit, e = .returned (.tuple #[.int .i64 r.1, .int .i64 r.2]) ∧ St B (Cl p0 84 [.pointer (some ⟨p0a, 0, none⟩), .slice A0b q0b.length c0b] :: ck4 p0a o0a p0aa :: ck2 p0aa o0aa p0aaa m0aah m0aak :: ck1 p0aaa o0aaa m0aaab p0aaac :: Mp E64 m0aaab q0aaab :: ck0 p0aaac o0aaac m0aaacb A0aaacc q0aaacc.length c0aaacc :: Mp (Elt.slice E8) m0aaacb q0aaacb :: Bf (Elt.pair E64 (Elt.slice E8)) 174 A0aaacc c0aaacc q0aaacc :: Mp E64 m0aah q0aah :: Mp E64 m0aak q0aak :: Bf (Elt.pair (Elt.pair E64 (Elt.pair (Elt.slice E8) (Elt.slice E8))) EBool) 88 A0b c0b q0b :: hs) w' := by
 unfold session_Last.impl at hr
 refine calls_T Tryd.func10 rfl rfl rfl hS ?_
 refine T.seq ?_
 refine T.region ?_
 refine T.assign .list rfl (wants0 rfl) rfl rfl ?_
 refine T.assign .list rfl (wants0 rfl) rfl rfl ?_
 refine T.nil ?_
 refine T.then_normal ?_
 refine T.seq ?_
 refine T.seq ?_
 refine T.region ?_
 refine T.move .list rfl (wants0 rfl) rfl rfl ?_
 refine T.move .list rfl (wants0 rfl) rfl rfl ?_
 refine T.pick [0, 1, 2, 3, 4, 5, 6, 7, 8, 9, 10] 11 rfl rfl nla (hs' := Cl p0 84 [.pointer (some ⟨p0a, 0, none⟩), .slice A0b q0b.length c0b] :: ck4 p0a o0a p0aa :: ck2 p0aa o0aa p0aaa m0aah m0aak :: ck1 p0aaa o0aaa m0aaab p0aaac :: Mp E64 m0aaab q0aaab :: ck0 p0aaac o0aaac m0aaacb A0aaacc q0aaacc.length c0aaacc :: Mp (Elt.slice E8) m0aaacb q0aaacb :: Bf (Elt.pair E64 (Elt.slice E8)) 174 A0aaacc c0aaacc q0aaacc :: Mp E64 m0aah q0aah :: Mp E64 m0aak q0aak :: Bf (Elt.pair (Elt.pair E64 (Elt.pair (Elt.slice E8) (Elt.slice E8))) EBool) 88 A0b c0b q0b :: hs) rfl ?_
 obtain ⟨r1, hg1, hr⟩ := inv_bind hr
 refine T.call .list (wants0 rfl) rfl (run_callF (vs := [_, _]) rfl Tryd.func19 rfl (by decide) rfl) (fun w hS => session_right.c hB hS (o0a := o0a) (o0aa := o0aa) (o0aaa := o0aaa) (q0aaab := q0aaab) (o0aaac := o0aaac) (q0aaacb := q0aaacb) (q0aaacc := q0aaacc) (q0aah := q0aah) (q0aak := q0aak) (q0b := q0b)  hg1) (fun x1 => ?_)
 refine T.assign .list rfl (wants0 rfl) rfl rfl ?_
 refine T.nil ?_
 refine T.then_normal ?_
 refine T.seq ?_
 refine T.region ?_
 refine T.move .list rfl (wants0 rfl) rfl rfl ?_
 refine T.bin .list rfl (wants0 rfl) rfl rfl rfl rfl ?_
 refine T.nil ?_
 refine T.then_normal ?_
 refine T.cond rfl (fun hb1 => ?_) (fun hb1 => ?_)
 ·replace hr := inv_posB hb1 hr
  refine T.seq ?_
  refine T.region ?_
  refine T.move .list rfl (wants0 rfl) rfl rfl ?_
  refine T.assign .list rfl (wants0 rfl) rfl rfl ?_
  refine T.assign .list rfl (wants0 rfl) rfl rfl ?_
  refine T.nil ?_
  refine T.then_normal ?_
  refine T.ret ?_
  refine T.then_ret ?_
  obtain rfl := inv_some hr
  refine T.pick [0, 1, 2, 3, 4, 5, 6, 7, 8, 9, 10] 11 rfl rfl nla rfl ?_
  refine T.ret2 rfl rfl rfl (fun w hS => ⟨(), rfl, hS⟩)
 ·replace hr := inv_negB hb1 hr
  refine T.skip ?_
  refine T.then_normal ?_
  refine T.seq ?_
  refine T.region ?_
  refine T.move .list rfl (wants0 rfl) rfl rfl ?_
  refine T.move .list rfl (wants0 rfl) rfl rfl ?_
  refine T.pick [0, 1, 2, 3, 4, 5, 6, 7, 8, 9, 10] 11 rfl rfl nla (hs' := Cl p0 84 [.pointer (some ⟨p0a, 0, none⟩), .slice A0b q0b.length c0b] :: ck4 p0a o0a p0aa :: ck2 p0aa o0aa p0aaa m0aah m0aak :: ck1 p0aaa o0aaa m0aaab p0aaac :: Mp E64 m0aaab q0aaab :: ck0 p0aaac o0aaac m0aaacb A0aaacc q0aaacc.length c0aaacc :: Mp (Elt.slice E8) m0aaacb q0aaacb :: Bf (Elt.pair E64 (Elt.slice E8)) 174 A0aaacc c0aaacc q0aaacc :: Mp E64 m0aah q0aah :: Mp E64 m0aak q0aak :: Bf (Elt.pair (Elt.pair E64 (Elt.pair (Elt.slice E8) (Elt.slice E8))) EBool) 88 A0b c0b q0b :: hs) rfl ?_
  obtain ⟨r2, hg2, hr⟩ := inv_bind hr
  refine T.call .list (wants0 rfl) rfl (run_callF (vs := [_, _]) rfl Tryd.func20 rfl (by decide) rfl) (fun w hS => session_read.c hB hS (o0a := o0a) (o0aa := o0aa) (o0aaa := o0aaa) (q0aaab := q0aaab) (o0aaac := o0aaac) (q0aaacb := q0aaacb) (q0aaacc := q0aaacc) (q0aah := q0aah) (q0aak := q0aak) (q0b := q0b)  hg2) (fun x2 => ?_)
  refine T.move .list rfl (wants0 rfl) rfl rfl ?_
  refine T.extract .list rfl (wants0 rfl) rfl rfl rfl ?_
  refine T.extract .list rfl (wants0 rfl) rfl rfl rfl ?_
  refine T.extract .list rfl (wants0 rfl) rfl rfl rfl ?_
  refine T.allocS .list rfl (wants0 rfl) rfl (cs := [.int .i64 0, .int .i64 0, .slice none 0 0]) rfl (fun b1 => ?_)
  refine T.assign .list rfl (wants0 rfl) rfl rfl ?_
  refine T.store .list 0 rfl rfl (wants0 rfl) rfl rfl rfl rfl (Nat.le_of_ble_eq_true rfl) rfl (cs' := [.int .i64 r2.2.1.1, .int .i64 r2.2.1.2.1, .slice x2.1 r2.2.1.2.2.length x2.2]) rfl rfl ?_
  refine T.assign .list rfl (wants0 rfl) rfl rfl ?_
  refine T.nil ?_
  refine T.then_normal ?_
  refine T.seq ?_
  refine T.region ?_
  refine T.move .list rfl (wants0 rfl) rfl rfl ?_
  refine T.move .list rfl (wants0 rfl) rfl rfl ?_
  refine T.assign .list rfl (wants0 rfl) rfl rfl ?_
  refine T.assign .list rfl (wants0 rfl) rfl rfl ?_
  refine T.nil ?_
  refine T.then_normal ?_
  refine T.ret ?_
  obtain rfl := inv_some hr
  refine T.pick [2, 3, 4, 5, 6, 7, 8, 9, 10, 11, 12] 13 rfl rfl nla rfl ?_
  refine T.ret2 rfl rfl rfl (fun w hS => ⟨(), rfl, hS⟩)

noncomputable def session_right_nil0.impl (a1 : Int) : Option Int :=
  some 1
set_option maxRecDepth 100000 in
set_option maxHeartbeats 4000000 in
theorem session_right_nil0.c {B : World} {hs : List MP} {w : World} {a1 : Int} (hB : Base B) (hS : St B hs w) {r : Int} (hr : session_right_nil0.impl a1 = some r) :
    Calls Tryd.prog 19 #[.pointer none, .int .i64 a1] w fun e w' => ∃ x : Unit, e = .returned (.int .i64 r) ∧ St B hs w' := by
 unfold session_right_nil0.impl at hr
 refine calls_T Tryd.func19 rfl rfl rfl hS ?_
 refine T.seq ?_
 refine T.region ?_
 refine T.assign .list rfl (wants0 rfl) rfl rfl ?_
 refine T.nil ?_
 refine T.then_normal ?_
 refine T.seq ?_
 refine T.seq ?_
 refine T.region ?_
 refine T.move .list rfl (wants0 rfl) rfl rfl ?_
 refine T.ptrEq (pt := 84) .list rfl (wants0 rfl) rfl rfl rfl (by kernel_rfl) (.inr rfl) rfl ?_
 refine T.move .list rfl (wants0 rfl) rfl rfl ?_
 refine T.leave .list (wantsNot rfl rfl rfl rfl) rfl ?_
 refine T.leave .list (wantsNot rfl rfl rfl rfl) rfl ?_
 refine T.pickT .list rfl (wants0 rfl) rfl rfl rfl rfl ?_
 refine T.move .list rfl (wants0 rfl) rfl rfl ?_
 refine T.leave .list (wantsNot rfl rfl rfl rfl) rfl ?_
 refine T.leave .list (wantsNot rfl rfl rfl rfl) rfl ?_
 refine T.pickT .list rfl (wants0 rfl) rfl rfl rfl rfl ?_
 refine T.nil ?_
 refine T.then_normal ?_
 refine T.condT rfl rfl ?_
 refine T.seq ?_
 refine T.region ?_
 refine T.assign .list rfl (wants0 rfl) rfl rfl ?_
 refine T.nil ?_
 refine T.then_normal ?_
 refine T.ret ?_
 refine T.then_ret ?_
 obtain rfl := inv_some hr
 refine T.pick [] 0 rfl rfl nla rfl ?_
 refine T.ret1 rfl rfl (fun w hS => ⟨(), rfl, hS⟩)

noncomputable def session_Look_nil0.k1 (s1 : Bool) : Option (Int × (Int × Int × (List (List (Int × Int × (List UInt8))))) × Int) :=
  (if s1 = true then some (0, (0, 0, ([] : List (List (Int × Int × (List UInt8))))), 1) else none)
noncomputable def session_Look_nil0.impl (a1 : Int) (a2 : Int) : Option (Int × (Int × Int × (List (List (Int × Int × (List UInt8))))) × Int) :=
  (session_right_nil0.impl a1).bind fun r1 => (if ((decide (r1 = 0))) = true then (if ((decide (a2 < 1))) = true then session_Look_nil0.k1 true else session_Look_nil0.k1 (decide ((2147483647 : Int) < a2))) else session_Look_nil0.k1 true)
set_option maxRecDepth 100000 in
set_option maxHeartbeats 4000000 in
theorem session_Look_nil0.c {B : World} {hs : List MP} {w : World} {a1 : Int} {a2 : Int} (hB : Base B) (hS : St B hs w) {r : Int × (Int × Int × (List (List (Int × Int × (List UInt8))))) × Int} (hr : session_Look_nil0.impl a1 a2 = some r) :
    Calls Tryd.prog 8 #[.pointer none, .int .i64 a1, .int .i64 a2] w fun e w' => ∃ x : (Option Addr × Nat), e = .returned (.tuple #[.int .i64 r.1, .agg #[.int .i64 r.2.1.1, .int .i64 r.2.1.2.1, .slice x.1 r.2.1.2.2.length x.2], .int .i64 r.2.2]) ∧ St B (Ro (Elt.slice (Elt.pair E64 (Elt.pair E64 EStr))) x.1 x.2 r.2.1.2.2 :: hs) w' := by
 unfold session_Look_nil0.impl at hr
 refine calls_T Tryd.func8 rfl rfl rfl hS ?_
 refine T.seq ?_
 refine T.region ?_
 refine T.assign .list rfl (wants0 rfl) rfl rfl ?_
 refine T.allocS .list rfl (wants0 rfl) rfl (cs := [.int .i64 0, .int .i64 0, .slice none 0 0]) rfl (fun b1 => ?_)
 refine T.assign .list rfl (wants0 rfl) rfl rfl ?_
 refine T.nil ?_
 refine T.then_normal ?_
 refine T.seq ?_
 refine T.seqJ (fun (s1 : Bool) (x1 : Unit) => [(0, .pointer none), (1, .int .i64 a1), (2, .int .i64 a2), (6, .int .i64 0), (7, .pointer (some ⟨b1, 0, none⟩)), (22, .bool s1)]) (fun s1 x1 => Cl b1 31 [.int .i64 0, .int .i64 0, .slice none 0 0] :: hs) (fun s1 => session_Look_nil0.k1 s1 = some r) (fun s1 x1 hk1 => ?_) (fun J1 => ?_)
 ·unfold session_Look_nil0.k1 at hk1
  refine T.cond rfl (fun hb1 => ?_) (fun hb1 => ?_)
  ·replace hk1 := inv_posB hb1 hk1
   refine T.seq ?_
   refine T.region ?_
   refine T.build .list (vals := []) (cells := #[.int .i64 0, .int .i64 0, .slice none 0 0]) rfl (wants0 rfl) rfl rfl (run_buildStruct (sizes := [1, 1, 1]) (by kernel_rfl) (by kernel_rfl)) ?_
   refine T.assign .list rfl (wants0 rfl) rfl rfl ?_
   refine T.store .list 0 rfl rfl (wants0 rfl) rfl rfl rfl rfl (Nat.le_of_ble_eq_true rfl) rfl (cs' := [.int .i64 0, .int .i64 0, .slice none 0 0]) rfl rfl ?_
   refine T.assign .list rfl (wants0 rfl) rfl rfl ?_
   refine T.nil ?_
   refine T.then_normal ?_
   refine T.ret ?_
   refine T.then_ret ?_
   obtain rfl := inv_some hk1
   refine T.nilRo (Elt.slice (Elt.pair E64 (Elt.pair E64 EStr))) none 0 ?_
   refine T.out3 rfl (OutRun.tmp rfl) (OutRun.cellN 1 rfl rfl (vs := [.int .i64 0, .int .i64 0, .slice none 0 0]) rfl rfl) (OutRun.tmp rfl) (fun w hS => ⟨(none, 0), rfl, hS.pick [0] 2 rfl rfl nla rfl⟩)
  ·replace hk1 := inv_negB hb1 hk1
   cases hk1
 ·refine T.region ?_
  refine T.move .list rfl (wants0 rfl) rfl rfl ?_
  refine T.move .list rfl (wants0 rfl) rfl rfl ?_
  obtain ⟨r1, hg1, hr⟩ := inv_bind hr
  refine T.call .list (wants0 rfl) rfl (run_callF (vs := [_, _]) rfl Tryd.func19 rfl (by decide) rfl) (fun w hS => session_right_nil0.c hB hS  hg1) (fun x2 => ?_)
  refine T.bin .list rfl (wants0 rfl) rfl rfl rfl rfl ?_
  refine T.move .list rfl (wants0 rfl) rfl rfl ?_
  refine T.bool (b := (decide (r1 = 0))) (fun hb2 => ?_) (fun hb2 => ?_)
  ·replace hr := inv_posB hb2 hr
   refine T.move .list rfl (wants1 rfl rfl rfl (not_t hb2)) rfl rfl ?_
   refine T.bin .list rfl (wants1 rfl rfl rfl (not_t hb2)) rfl rfl rfl rfl ?_
   refine T.pickF .list rfl (wants0 rfl) rfl rfl (not_t hb2) rfl ?_
   refine T.move .list rfl (wants0 rfl) rfl rfl ?_
   refine T.bool (b := (decide (a2 < 1))) (fun hb3 => ?_) (fun hb3 => ?_)
   ·replace hr := inv_posB hb3 hr
    refine T.leave .list (wantsNot rfl rfl rfl hb3) rfl ?_
    refine T.leave .list (wantsNot rfl rfl rfl hb3) rfl ?_
    refine T.pickT .list rfl (wants0 rfl) rfl rfl hb3 rfl ?_
    refine T.nil ?_
    refine T.then_normal ?_
    exact T.le (EnvLe.cons rfl (EnvLe.cons rfl (EnvLe.cons rfl (EnvLe.cons rfl (EnvLe.cons rfl (EnvLe.cons rfl EnvLe.nil)))))) (T.pick [0] 1 rfl rfl nla rfl (J1 true () hr))
   ·replace hr := inv_negB hb3 hr
    refine T.move .list rfl (wants1 rfl rfl rfl hb3) rfl rfl ?_
    refine T.bin .list rfl (wants1 rfl rfl rfl hb3) rfl rfl rfl rfl ?_
    refine T.pickF .list rfl (wants0 rfl) rfl rfl hb3 rfl ?_
    refine T.nil ?_
    refine T.then_normal ?_
    exact T.le (EnvLe.cons rfl (EnvLe.cons rfl (EnvLe.cons rfl (EnvLe.cons rfl (EnvLe.cons rfl (EnvLe.cons rfl EnvLe.nil)))))) (T.pick [0] 1 rfl rfl nla rfl (J1 (decide ((2147483647 : Int) < a2)) () hr))
  ·replace hr := inv_negB hb2 hr
   refine T.leave .list (wantsNot rfl rfl rfl (not_f hb2)) rfl ?_
   refine T.leave .list (wantsNot rfl rfl rfl (not_f hb2)) rfl ?_
   refine T.pickT .list rfl (wants0 rfl) rfl rfl (not_f hb2) rfl ?_
   refine T.move .list rfl (wants0 rfl) rfl rfl ?_
   refine T.leave .list (wantsNot rfl rfl rfl rfl) rfl ?_
   refine T.leave .list (wantsNot rfl rfl rfl rfl) rfl ?_
   refine T.pickT .list rfl (wants0 rfl) rfl rfl rfl rfl ?_
   refine T.nil ?_
   refine T.then_normal ?_
   exact T.le (EnvLe.cons rfl (EnvLe.cons rfl (EnvLe.cons rfl (EnvLe.cons rfl (EnvLe.cons rfl (EnvLe.cons rfl EnvLe.nil)))))) (T.pick [0] 1 rfl rfl nla rfl (J1 true () hr))

noncomputable def law18_told.impl  : Option Bool :=
  (law13_New.impl ).bind fun r1 => (match r1 with | (none, r1p1) => (some false) | (some r1p0, r1p1) => ((session_Look.impl r1p0.2.1 r1p0.2.2.1 r1p0.2.2.2.1 r1p0.2.2.2.2.1 r1p0.2.2.2.2.2.1 r1p0.2.2.2.2.2.2.1 r1p0.2.2.2.2.2.2.2.1 r1p0.2.2.2.2.2.2.2.2.1 r1p0.2.2.2.2.2.2.2.2.2.1 r1p0.2.2.2.2.2.2.2.2.2.2 0 3).bind fun r2 => (session_Keep.impl r1p0.2.1 r1p0.2.2.1 r1p0.2.2.2.1 r1p0.2.2.2.2.1 r1p0.2.2.2.2.2.1 r1p0.2.2.2.2.2.2.1 r1p0.2.2.2.2.2.2.2.1 r1p0.2.2.2.2.2.2.2.2.1 r1p0.2.2.2.2.2.2.2.2.2.1 r1p0.2.2.2.2.2.2.2.2.2.2 0 3 ((0, 1, ([] : List (List (Int × Int × (List UInt8))))))).bind fun r3 => (session_Look.impl r1p0.2.1 r1p0.2.2.1 r1p0.2.2.2.1 r1p0.2.2.2.2.1 r1p0.2.2.2.2.2.1 r1p0.2.2.2.2.2.2.1 r1p0.2.2.2.2.2.2.2.1 r1p0.2.2.2.2.2.2.2.2.1 r1p0.2.2.2.2.2.2.2.2.2.1 r3.2 0 3).bind fun r4 => (session_Look.impl r1p0.2.1 r1p0.2.2.1 r1p0.2.2.2.1 r1p0.2.2.2.2.1 r1p0.2.2.2.2.2.1 r1p0.2.2.2.2.2.2.1 r1p0.2.2.2.2.2.2.2.1 r1p0.2.2.2.2.2.2.2.2.1 r1p0.2.2.2.2.2.2.2.2.2.1 r3.2 0 2).bind fun r5 => (session_Keep.impl r1p0.2.1 r1p0.2.2.1 r1p0.2.2.2.1 r1p0.2.2.2.2.1 r1p0.2.2.2.2.2.1 r1p0.2.2.2.2.2.2.1 r1p0.2.2.2.2.2.2.2.1 r1p0.2.2.2.2.2.2.2.2.1 r1p0.2.2.2.2.2.2.2.2.2.1 r3.2 0 3 ((0, 0, ([] : List (List (Int × Int × (List UInt8))))))).bind fun r6 => (session_Last.impl r1p0.2.1 r1p0.2.2.1 r1p0.2.2.2.1 r1p0.2.2.2.2.1 r1p0.2.2.2.2.2.1 r1p0.2.2.2.2.2.2.1 r1p0.2.2.2.2.2.2.2.1 r1p0.2.2.2.2.2.2.2.2.1 r1p0.2.2.2.2.2.2.2.2.2.1 r6.2 0).bind fun r7 => (session_Look_nil0.impl 0 1).bind fun r8 => (if ((decide (r2.1 = 0))) = true then (if ((decide (r2.2.2 = 0))) = true then (if ((decide (r3.1 = 0))) = true then (if ((decide (r4.1 = 1))) = true then (if ((decide (r4.2.2 = 0))) = true then (if ((decide (r4.2.1.2.1 = 1))) = true then (if ((decide (r5.1 = 2))) = true then (if ((decide (r6.1 = 50))) = true then (if ((decide (r7.1 = 3))) = true then some (decide (r8.2.2 = 1)) else some false) else some false) else some false) else some false) else some false) else some false) else some false) else some false) else some false)))
set_option maxRecDepth 100000 in
set_option maxHeartbeats 4000000 in
theorem law18_told.c {B : World} {hs : List MP} {w : World} (hB : Base B) (hS : St B hs w) {r : Bool} (hr : law18_told.impl  = some r) :
    Calls Tryd.prog 11 #[] w fun e w' => ∃ x : Unit, e = .returned (.bool r) ∧ St B hs w' := by
 unfold law18_told.impl at hr
 refine calls_T Tryd.func11 rfl rfl rfl hS ?_
 refine T.seq ?_
 refine T.region ?_
 refine T.assign .list rfl (wants0 rfl) rfl rfl ?_
 refine T.nil ?_
 refine T.then_normal ?_
 refine T.seq ?_
 refine T.region ?_
 obtain ⟨r1, hg1, hr⟩ := inv_bind hr
 rcases r1 with ⟨_ | r1p0, r1p1⟩
 ·dsimp only at hr
  refine T.call (v := fun (x1 : Nat × Nat × Nat × Nat × Nat × Nat × Nat × (Option Addr × Nat) × Nat × Nat × (Option Addr × Nat)) => .tuple #[.pointer none, .pointer none]) (hs' := fun x1 => hs) .list (wants0 rfl) rfl (run_callF (vs := []) rfl Tryd.func5 rfl (by decide) rfl) (fun w hS => law13_New.c hB hS  hg1) (fun x1 => ?_)
  refine T.move .list rfl (wants0 rfl) rfl rfl ?_
  refine T.extract .list rfl (wants0 rfl) rfl rfl rfl ?_
  refine T.extract .list rfl (wants0 rfl) rfl rfl rfl ?_
  refine T.assign .list rfl (wants0 rfl) rfl rfl ?_
  refine T.assign .list rfl (wants0 rfl) rfl rfl ?_
  refine T.nil ?_
  refine T.then_normal ?_
  refine T.seq ?_
  refine T.seq ?_
  refine T.region ?_
  refine T.move .list rfl (wants0 rfl) rfl rfl ?_
  refine T.ptrEq (pt := 84) .list rfl (wants0 rfl) rfl rfl rfl (by kernel_rfl) (.inr rfl) rfl ?_
  refine T.nil ?_
  refine T.then_normal ?_
  refine T.condT rfl rfl ?_
  refine T.seq ?_
  refine T.region ?_
  refine T.assign .list rfl (wants0 rfl) rfl rfl ?_
  refine T.nil ?_
  refine T.then_normal ?_
  refine T.ret ?_
  refine T.then_ret ?_
  obtain rfl := inv_some hr
  refine T.pick [] 0 rfl rfl nla rfl ?_
  refine T.ret1 rfl rfl (fun w hS => ⟨(), rfl, hS⟩)
 ·dsimp only at hr
  refine T.call (v := fun (x2 : Nat × Nat × Nat × Nat × Nat × Nat × Nat × (Option Addr × Nat) × Nat × Nat × (Option Addr × Nat)) => .tuple #[.pointer (some ⟨x2.1, 0, none⟩), .pointer (some ⟨x2.2.1, 0, none⟩)]) (hs' := fun x2 => ck6 x2.1 x2.2.1 x2.2.2.2.2.2.2.2.2.2.2.1 r1p0.2.2.2.2.2.2.2.2.2.2.length x2.2.2.2.2.2.2.2.2.2.2.2 :: ck4 x2.2.1 r1p0.2.1 x2.2.2.1 :: ck2 x2.2.2.1 r1p0.2.2.1 x2.2.2.2.1 x2.2.2.2.2.2.2.2.2.1 x2.2.2.2.2.2.2.2.2.2.1 :: ck1 x2.2.2.2.1 r1p0.2.2.2.1 x2.2.2.2.2.1 x2.2.2.2.2.2.1 :: Mp E64 x2.2.2.2.2.1 r1p0.2.2.2.2.1 :: ck0 x2.2.2.2.2.2.1 r1p0.2.2.2.2.2.1 x2.2.2.2.2.2.2.1 x2.2.2.2.2.2.2.2.1.1 r1p0.2.2.2.2.2.2.2.1.length x2.2.2.2.2.2.2.2.1.2 :: Mp (Elt.slice E8) x2.2.2.2.2.2.2.1 r1p0.2.2.2.2.2.2.1 :: Bf (Elt.pair E64 (Elt.slice E8)) 174 x2.2.2.2.2.2.2.2.1.1 x2.2.2.2.2.2.2.2.1.2 r1p0.2.2.2.2.2.2.2.1 :: Mp E64 x2.2.2.2.2.2.2.2.2.1 r1p0.2.2.2.2.2.2.2.2.1 :: Mp E64 x2.2.2.2.2.2.2.2.2.2.1 r1p0.2.2.2.2.2.2.2.2.2.1 :: Bf (Elt.pair (Elt.pair E64 (Elt.pair (Elt.slice E8) (Elt.slice E8))) EBool) 88 x2.2.2.2.2.2.2.2.2.2.2.1 x2.2.2.2.2.2.2.2.2.2.2.2 r1p0.2.2.2.2.2.2.2.2.2.2 :: hs) .list (wants0 rfl) rfl (run_callF (vs := []) rfl Tryd.func5 rfl (by decide) rfl) (fun w hS => law13_New.c hB hS  hg1) (fun x2 => ?_)
  refine T.move .list rfl (wants0 rfl) rfl rfl ?_
  refine T.extract .list rfl (wants0 rfl) rfl rfl rfl ?_
  refine T.extract .list rfl (wants0 rfl) rfl rfl rfl ?_
  refine T.assign .list rfl (wants0 rfl) rfl rfl ?_
  refine T.assign .list rfl (wants0 rfl) rfl rfl ?_
  refine T.nil ?_
  refine T.then_normal ?_
  refine T.seq ?_
  refine T.seq ?_
  refine T.region ?_
  refine T.move .list rfl (wants0 rfl) rfl rfl ?_
  refine T.ptrEq (pt := 84) .list rfl (wants0 rfl) rfl rfl rfl (by kernel_rfl) (.inr rfl) rfl ?_
  refine T.nil ?_
  refine T.then_normal ?_
  refine T.condF rfl rfl ?_
  refine T.skip ?_
  refine T.then_normal ?_
  refine T.seq ?_
  refine T.region ?_
  refine T.move .list rfl (wants0 rfl) rfl rfl ?_
  refine T.pick [0, 1, 2, 3, 4, 5, 6, 7, 8, 9, 10] 11 rfl rfl nla (hs' := ck6 x2.1 x2.2.1 x2.2.2.2.2.2.2.2.2.2.2.1 r1p0.2.2.2.2.2.2.2.2.2.2.length x2.2.2.2.2.2.2.2.2.2.2.2 :: ck4 x2.2.1 r1p0.2.1 x2.2.2.1 :: ck2 x2.2.2.1 r1p0.2.2.1 x2.2.2.2.1 x2.2.2.2.2.2.2.2.2.1 x2.2.2.2.2.2.2.2.2.2.1 :: ck1 x2.2.2.2.1 r1p0.2.2.2.1 x2.2.2.2.2.1 x2.2.2.2.2.2.1 :: Mp E64 x2.2.2.2.2.1 r1p0.2.2.2.2.1 :: ck0 x2.2.2.2.2.2.1 r1p0.2.2.2.2.2.1 x2.2.2.2.2.2.2.1 x2.2.2.2.2.2.2.2.1.1 r1p0.2.2.2.2.2.2.2.1.length x2.2.2.2.2.2.2.2.1.2 :: Mp (Elt.slice E8) x2.2.2.2.2.2.2.1 r1p0.2.2.2.2.2.2.1 :: Bf (Elt.pair E64 (Elt.slice E8)) 174 x2.2.2.2.2.2.2.2.1.1 x2.2.2.2.2.2.2.2.1.2 r1p0.2.2.2.2.2.2.2.1 :: Mp E64 x2.2.2.2.2.2.2.2.2.1 r1p0.2.2.2.2.2.2.2.2.1 :: Mp E64 x2.2.2.2.2.2.2.2.2.2.1 r1p0.2.2.2.2.2.2.2.2.2.1 :: Bf (Elt.pair (Elt.pair E64 (Elt.pair (Elt.slice E8) (Elt.slice E8))) EBool) 88 x2.2.2.2.2.2.2.2.2.2.2.1 x2.2.2.2.2.2.2.2.2.2.2.2 r1p0.2.2.2.2.2.2.2.2.2.2 :: hs) rfl ?_
  obtain ⟨r2, hg2, hr⟩ := inv_bind hr
  refine T.call .list (wants0 rfl) rfl (run_callF (vs := [_, _, _]) rfl Tryd.func8 rfl (by decide) rfl) (fun w hS => session_Look.c hB hS (o0a := r1p0.2.1) (o0aa := r1p0.2.2.1) (o0aaa := r1p0.2.2.2.1) (q0aaab := r1p0.2.2.2.2.1) (o0aaac := r1p0.2.2.2.2.2.1) (q0aaacb := r1p0.2.2.2.2.2.2.1) (q0aaacc := r1p0.2.2.2.2.2.2.2.1) (q0aah := r1p0.2.2.2.2.2.2.2.2.1) (q0aak := r1p0.2.2.2.2.2.2.2.2.2.1) (q0b := r1p0.2.2.2.2.2.2.2.2.2.2)  hg2) (fun x3 => ?_)
  refine T.move .list rfl (wants0 rfl) rfl rfl ?_
  refine T.extract .list rfl (wants0 rfl) rfl rfl rfl ?_
  refine T.extract .list rfl (wants0 rfl) rfl rfl rfl ?_
  refine T.extract .list rfl (wants0 rfl) rfl rfl rfl ?_
  refine T.allocS .list rfl (wants0 rfl) rfl (cs := [.int .i64 0, .int .i64 0, .slice none 0 0]) rfl (fun b1 => ?_)
  refine T.assign .list rfl (wants0 rfl) rfl rfl ?_
  refine T.store .list 0 rfl rfl (wants0 rfl) rfl rfl rfl rfl (Nat.le_of_ble_eq_true rfl) rfl (cs' := [.int .i64 r2.2.1.1, .int .i64 r2.2.1.2.1, .slice x3.1 r2.2.1.2.2.length x3.2]) rfl rfl ?_
  refine T.assign .list rfl (wants0 rfl) rfl rfl ?_
  refine T.nil ?_
  refine T.then_normal ?_
  refine T.seq ?_
  refine T.region ?_
  refine T.move .list rfl (wants0 rfl) rfl rfl ?_
  refine T.build .list (vals := [(1, .int .i64 1)]) (cells := #[.int .i64 0, .int .i64 1, .slice none 0 0]) rfl (wants0 rfl) rfl rfl (run_buildStruct (sizes := [1, 1, 1]) (by kernel_rfl) (by kernel_rfl)) ?_
  refine T.nilRo (Elt.slice (Elt.pair E64 (Elt.pair E64 EStr))) none 0 ?_
  refine T.pick [3, 4, 5, 6, 7, 8, 9, 10, 11, 12, 13, 0, 1, 2] 14 rfl rfl nla (hs' := ck6 x2.1 x2.2.1 x2.2.2.2.2.2.2.2.2.2.2.1 r1p0.2.2.2.2.2.2.2.2.2.2.length x2.2.2.2.2.2.2.2.2.2.2.2 :: ck4 x2.2.1 r1p0.2.1 x2.2.2.1 :: ck2 x2.2.2.1 r1p0.2.2.1 x2.2.2.2.1 x2.2.2.2.2.2.2.2.2.1 x2.2.2.2.2.2.2.2.2.2.1 :: ck1 x2.2.2.2.1 r1p0.2.2.2.1 x2.2.2.2.2.1 x2.2.2.2.2.2.1 :: Mp E64 x2.2.2.2.2.1 r1p0.2.2.2.2.1 :: ck0 x2.2.2.2.2.2.1 r1p0.2.2.2.2.2.1 x2.2.2.2.2.2.2.1 x2.2.2.2.2.2.2.2.1.1 r1p0.2.2.2.2.2.2.2.1.length x2.2.2.2.2.2.2.2.1.2 :: Mp (Elt.slice E8) x2.2.2.2.2.2.2.1 r1p0.2.2.2.2.2.2.1 :: Bf (Elt.pair E64 (Elt.slice E8)) 174 x2.2.2.2.2.2.2.2.1.1 x2.2.2.2.2.2.2.2.1.2 r1p0.2.2.2.2.2.2.2.1 :: Mp E64 x2.2.2.2.2.2.2.2.2.1 r1p0.2.2.2.2.2.2.2.2.1 :: Mp E64 x2.2.2.2.2.2.2.2.2.2.1 r1p0.2.2.2.2.2.2.2.2.2.1 :: Bf (Elt.pair (Elt.pair E64 (Elt.pair (Elt.slice E8) (Elt.slice E8))) EBool) 88 x2.2.2.2.2.2.2.2.2.2.2.1 x2.2.2.2.2.2.2.2.2.2.2.2 r1p0.2.2.2.2.2.2.2.2.2.2 :: Ro (Elt.slice (Elt.pair E64 (Elt.pair E64 EStr))) none 0 (([] : List (List (Int × Int × (List UInt8))))) :: Cl b1 31 [.int .i64 r2.2.1.1, .int .i64 r2.2.1.2.1, .slice x3.1 r2.2.1.2.2.length x3.2] :: Ro (Elt.slice (Elt.pair E64 (Elt.pair E64 EStr))) x3.1 x3.2 r2.2.1.2.2 :: hs) rfl ?_
  obtain ⟨r3, hg3, hr⟩ := inv_bind hr
  refine T.call .list (wants0 rfl) rfl (run_callF (vs := [_, _, _, _]) rfl Tryd.func6 rfl (by decide) rfl) (fun w hS => session_Keep.c hB hS (i3a := 11) (o0a := r1p0.2.1) (o0aa := r1p0.2.2.1) (o0aaa := r1p0.2.2.2.1) (q0aaab := r1p0.2.2.2.2.1) (o0aaac := r1p0.2.2.2.2.2.1) (q0aaacb := r1p0.2.2.2.2.2.2.1) (q0aaacc := r1p0.2.2.2.2.2.2.2.1) (q0aah := r1p0.2.2.2.2.2.2.2.2.1) (q0aak := r1p0.2.2.2.2.2.2.2.2.2.1) (q0b := r1p0.2.2.2.2.2.2.2.2.2.2) (a3 := (0, 1, ([] : List (List (Int × Int × (List UInt8)))))) rfl hg3) (fun x4 => ?_)
  refine T.assign .list rfl (wants0 rfl) rfl rfl ?_
  refine T.nil ?_
  refine T.then_normal ?_
  refine T.seq ?_
  refine T.region ?_
  refine T.move .list rfl (wants0 rfl) rfl rfl ?_
  refine T.pick [0, 1, 2, 3, 4, 5, 6, 7, 8, 9, 10, 11, 12, 13] 14 rfl rfl nla (hs' := Cl x2.1 84 [.pointer (some ⟨x2.2.1, 0, none⟩), .slice x4.1 r3.2.length x4.2] :: ck4 x2.2.1 r1p0.2.1 x2.2.2.1 :: ck2 x2.2.2.1 r1p0.2.2.1 x2.2.2.2.1 x2.2.2.2.2.2.2.2.2.1 x2.2.2.2.2.2.2.2.2.2.1 :: ck1 x2.2.2.2.1 r1p0.2.2.2.1 x2.2.2.2.2.1 x2.2.2.2.2.2.1 :: Mp E64 x2.2.2.2.2.1 r1p0.2.2.2.2.1 :: ck0 x2.2.2.2.2.2.1 r1p0.2.2.2.2.2.1 x2.2.2.2.2.2.2.1 x2.2.2.2.2.2.2.2.1.1 r1p0.2.2.2.2.2.2.2.1.length x2.2.2.2.2.2.2.2.1.2 :: Mp (Elt.slice E8) x2.2.2.2.2.2.2.1 r1p0.2.2.2.2.2.2.1 :: Bf (Elt.pair E64 (Elt.slice E8)) 174 x2.2.2.2.2.2.2.2.1.1 x2.2.2.2.2.2.2.2.1.2 r1p0.2.2.2.2.2.2.2.1 :: Mp E64 x2.2.2.2.2.2.2.2.2.1 r1p0.2.2.2.2.2.2.2.2.1 :: Mp E64 x2.2.2.2.2.2.2.2.2.2.1 r1p0.2.2.2.2.2.2.2.2.2.1 :: Bf (Elt.pair (Elt.pair E64 (Elt.pair (Elt.slice E8) (Elt.slice E8))) EBool) 88 x4.1 x4.2 r3.2 :: Ro (Elt.slice (Elt.pair E64 (Elt.pair E64 EStr))) none 0 (([] : List (List (Int × Int × (List UInt8))))) :: Cl b1 31 [.int .i64 r2.2.1.1, .int .i64 r2.2.1.2.1, .slice x3.1 r2.2.1.2.2.length x3.2] :: Ro (Elt.slice (Elt.pair E64 (Elt.pair E64 EStr))) x3.1 x3.2 r2.2.1.2.2 :: hs) rfl ?_
  obtain ⟨r4, hg4, hr⟩ := inv_bind hr
  refine T.call .list (wants0 rfl) rfl (run_callF (vs := [_, _, _]) rfl Tryd.func8 rfl (by decide) rfl) (fun w hS => session_Look.c hB hS (o0a := r1p0.2.1) (o0aa := r1p0.2.2.1) (o0aaa := r1p0.2.2.2.1) (q0aaab := r1p0.2.2.2.2.1) (o0aaac := r1p0.2.2.2.2.2.1) (q0aaacb := r1p0.2.2.2.2.2.2.1) (q0aaacc := r1p0.2.2.2.2.2.2.2.1) (q0aah := r1p0.2.2.2.2.2.2.2.2.1) (q0aak := r1p0.2.2.2.2.2.2.2.2.2.1) (q0b := r3.2)  hg4) (fun x5 => ?_)
  refine T.move .list rfl (wants0 rfl) rfl rfl ?_
  refine T.extract .list rfl (wants0 rfl) rfl rfl rfl ?_
  refine T.extract .list rfl (wants0 rfl) rfl rfl rfl ?_
  refine T.extract .list rfl (wants0 rfl) rfl rfl rfl ?_
  refine T.allocS .list rfl (wants0 rfl) rfl (cs := [.int .i64 0, .int .i64 0, .slice none 0 0]) rfl (fun b2 => ?_)
  refine T.assign .list rfl (wants0 rfl) rfl rfl ?_
  refine T.store .list 0 rfl rfl (wants0 rfl) rfl rfl rfl rfl (Nat.le_of_ble_eq_true rfl) rfl (cs' := [.int .i64 r4.2.1.1, .int .i64 r4.2.1.2.1, .slice x5.1 r4.2.1.2.2.length x5.2]) rfl rfl ?_
  refine T.assign .list rfl (wants0 rfl) rfl rfl ?_
  refine T.nil ?_
  refine T.then_normal ?_
  refine T.seq ?_
  refine T.region ?_
  refine T.move .list rfl (wants0 rfl) rfl rfl ?_
  refine T.pick [2, 3, 4, 5, 6, 7, 8, 9, 10, 11, 12, 0, 1, 13, 14, 15] 16 rfl rfl nla (hs' := Cl x2.1 84 [.pointer (some ⟨x2.2.1, 0, none⟩), .slice x4.1 r3.2.length x4.2] :: ck4 x2.2.1 r1p0.2.1 x2.2.2.1 :: ck2 x2.2.2.1 r1p0.2.2.1 x2.2.2.2.1 x2.2.2.2.2.2.2.2.2.1 x2.2.2.2.2.2.2.2.2.2.1 :: ck1 x2.2.2.2.1 r1p0.2.2.2.1 x2.2.2.2.2.1 x2.2.2.2.2.2.1 :: Mp E64 x2.2.2.2.2.1 r1p0.2.2.2.2.1 :: ck0 x2.2.2.2.2.2.1 r1p0.2.2.2.2.2.1 x2.2.2.2.2.2.2.1 x2.2.2.2.2.2.2.2.1.1 r1p0.2.2.2.2.2.2.2.1.length x2.2.2.2.2.2.2.2.1.2 :: Mp (Elt.slice E8) x2.2.2.2.2.2.2.1 r1p0.2.2.2.2.2.2.1 :: Bf (Elt.pair E64 (Elt.slice E8)) 174 x2.2.2.2.2.2.2.2.1.1 x2.2.2.2.2.2.2.2.1.2 r1p0.2.2.2.2.2.2.2.1 :: Mp E64 x2.2.2.2.2.2.2.2.2.1 r1p0.2.2.2.2.2.2.2.2.1 :: Mp E64 x2.2.2.2.2.2.2.2.2.2.1 r1p0.2.2.2.2.2.2.2.2.2.1 :: Bf (Elt.pair (Elt.pair E64 (Elt.pair (Elt.slice E8) (Elt.slice E8))) EBool) 88 x4.1 x4.2 r3.2 :: Cl b2 31 [.int .i64 r4.2.1.1, .int .i64 r4.2.1.2.1, .slice x5.1 r4.2.1.2.2.length x5.2] :: Ro (Elt.slice (Elt.pair E64 (Elt.pair E64 EStr))) x5.1 x5.2 r4.2.1.2.2 :: Ro (Elt.slice (Elt.pair E64 (Elt.pair E64 EStr))) none 0 (([] : List (List (Int × Int × (List UInt8))))) :: Cl b1 31 [.int .i64 r2.2.1.1, .int .i64 r2.2.1.2.1, .slice x3.1 r2.2.1.2.2.length x3.2] :: Ro (Elt.slice (Elt.pair E64 (Elt.pair E64 EStr))) x3.1 x3.2 r2.2.1.2.2 :: hs) rfl ?_
  obtain ⟨r5, hg5, hr⟩ := inv_bind hr
  refine T.call .list (wants0 rfl) rfl (run_callF (vs := [_, _, _]) rfl Tryd.func8 rfl (by decide) rfl) (fun w hS => session_Look.c hB hS (o0a := r1p0.2.1) (o0aa := r1p0.2.2.1) (o0aaa := r1p0.2.2.2.1) (q0aaab := r1p0.2.2.2.2.1) (o0aaac := r1p0.2.2.2.2.2.1) (q0aaacb := r1p0.2.2.2.2.2.2.1) (q0aaacc := r1p0.2.2.2.2.2.2.2.1) (q0aah := r1p0.2.2.2.2.2.2.2.2.1) (q0aak := r1p0.2.2.2.2.2.2.2.2.2.1) (q0b := r3.2)  hg5) (fun x6 => ?_)
  refine T.move .list rfl (wants0 rfl) rfl rfl ?_
  refine T.extract .list rfl (wants0 rfl) rfl rfl rfl ?_
  refine T.extract .list rfl (wants0 rfl) rfl rfl rfl ?_
  refine T.extract .list rfl (wants0 rfl) rfl rfl rfl ?_
  refine T.allocS .list rfl (wants0 rfl) rfl (cs := [.int .i64 0, .int .i64 0, .slice none 0 0]) rfl (fun b3 => ?_)
  refine T.assign .list rfl (wants0 rfl) rfl rfl ?_
  refine T.store .list 0 rfl rfl (wants0 rfl) rfl rfl rfl rfl (Nat.le_of_ble_eq_true rfl) rfl (cs' := [.int .i64 r5.2.1.1, .int .i64 r5.2.1.2.1, .slice x6.1 r5.2.1.2.2.length x6.2]) rfl rfl ?_
  refine T.assign .list rfl (wants0 rfl) rfl rfl ?_
  refine T.nil ?_
  refine T.then_normal ?_
  refine T.seq ?_
  refine T.region ?_
  refine T.move .list rfl (wants0 rfl) rfl rfl ?_
  refine T.build .list (vals := []) (cells := #[.int .i64 0, .int .i64 0, .slice none 0 0]) rfl (wants0 rfl) rfl rfl (run_buildStruct (sizes := [1, 1, 1]) (by kernel_rfl) (by kernel_rfl)) ?_
  refine T.nilRo (Elt.slice (Elt.pair E64 (Elt.pair E64 EStr))) none 0 ?_
  refine T.pick [3, 4, 5, 6, 7, 8, 9, 10, 11, 12, 13, 0, 1, 2, 14, 15, 16, 17, 18] 19 rfl rfl nla (hs' := Cl x2.1 84 [.pointer (some ⟨x2.2.1, 0, none⟩), .slice x4.1 r3.2.length x4.2] :: ck4 x2.2.1 r1p0.2.1 x2.2.2.1 :: ck2 x2.2.2.1 r1p0.2.2.1 x2.2.2.2.1 x2.2.2.2.2.2.2.2.2.1 x2.2.2.2.2.2.2.2.2.2.1 :: ck1 x2.2.2.2.1 r1p0.2.2.2.1 x2.2.2.2.2.1 x2.2.2.2.2.2.1 :: Mp E64 x2.2.2.2.2.1 r1p0.2.2.2.2.1 :: ck0 x2.2.2.2.2.2.1 r1p0.2.2.2.2.2.1 x2.2.2.2.2.2.2.1 x2.2.2.2.2.2.2.2.1.1 r1p0.2.2.2.2.2.2.2.1.length x2.2.2.2.2.2.2.2.1.2 :: Mp (Elt.slice E8) x2.2.2.2.2.2.2.1 r1p0.2.2.2.2.2.2.1 :: Bf (Elt.pair E64 (Elt.slice E8)) 174 x2.2.2.2.2.2.2.2.1.1 x2.2.2.2.2.2.2.2.1.2 r1p0.2.2.2.2.2.2.2.1 :: Mp E64 x2.2.2.2.2.2.2.2.2.1 r1p0.2.2.2.2.2.2.2.2.1 :: Mp E64 x2.2.2.2.2.2.2.2.2.2.1 r1p0.2.2.2.2.2.2.2.2.2.1 :: Bf (Elt.pair (Elt.pair E64 (Elt.pair (Elt.slice E8) (Elt.slice E8))) EBool) 88 x4.1 x4.2 r3.2 :: Ro (Elt.slice (Elt.pair E64 (Elt.pair E64 EStr))) none 0 (([] : List (List (Int × Int × (List UInt8))))) :: Cl b3 31 [.int .i64 r5.2.1.1, .int .i64 r5.2.1.2.1, .slice x6.1 r5.2.1.2.2.length x6.2] :: Ro (Elt.slice (Elt.pair E64 (Elt.pair E64 EStr))) x6.1 x6.2 r5.2.1.2.2 :: Cl b2 31 [.int .i64 r4.2.1.1, .int .i64 r4.2.1.2.1, .slice x5.1 r4.2.1.2.2.length x5.2] :: Ro (Elt.slice (Elt.pair E64 (Elt.pair E64 EStr))) x5.1 x5.2 r4.2.1.2.2 :: Ro (Elt.slice (Elt.pair E64 (Elt.pair E64 EStr))) none 0 (([] : List (List (Int × Int × (List UInt8))))) :: Cl b1 31 [.int .i64 r2.2.1.1, .int .i64 r2.2.1.2.1, .slice x3.1 r2.2.1.2.2.length x3.2] :: Ro (Elt.slice (Elt.pair E64 (Elt.pair E64 EStr))) x3.1 x3.2 r2.2.1.2.2 :: hs) rfl ?_
  obtain ⟨r6, hg6, hr⟩ := inv_bind hr
  refine T.call .list (wants0 rfl) rfl (run_callF (vs := [_, _, _, _]) rfl Tryd.func6 rfl (by decide) rfl) (fun w hS => session_Keep.c hB hS (i3a := 11) (o0a := r1p0.2.1) (o0aa := r1p0.2.2.1) (o0aaa := r1p0.2.2.2.1) (q0aaab := r1p0.2.2.2.2.1) (o0aaac := r1p0.2.2.2.2.2.1) (q0aaacb := r1p0.2.2.2.2.2.2.1) (q0aaacc := r1p0.2.2.2.2.2.2.2.1) (q0aah := r1p0.2.2.2.2.2.2.2.2.1) (q0aak := r1p0.2.2.2.2.2.2.2.2.2.1) (q0b := r3.2) (a3 := (0, 0, ([] : List (List (Int × Int × (List UInt8)))))) rfl hg6) (fun x7 => ?_)
  refine T.assign .list rfl (wants0 rfl) rfl rfl ?_
  refine T.nil ?_
  refine T.then_normal ?_
  refine T.seq ?_
  refine T.region ?_
  refine T.move .list rfl (wants0 rfl) rfl rfl ?_
  refine T.pick [0, 1, 2, 3, 4, 5, 6, 7, 8, 9, 10, 11, 12, 13, 14, 15, 16, 17, 18] 19 rfl rfl nla (hs' := Cl x2.1 84 [.pointer (some ⟨x2.2.1, 0, none⟩), .slice x7.1 r6.2.length x7.2] :: ck4 x2.2.1 r1p0.2.1 x2.2.2.1 :: ck2 x2.2.2.1 r1p0.2.2.1 x2.2.2.2.1 x2.2.2.2.2.2.2.2.2.1 x2.2.2.2.2.2.2.2.2.2.1 :: ck1 x2.2.2.2.1 r1p0.2.2.2.1 x2.2.2.2.2.1 x2.2.2.2.2.2.1 :: Mp E64 x2.2.2.2.2.1 r1p0.2.2.2.2.1 :: ck0 x2.2.2.2.2.2.1 r1p0.2.2.2.2.2.1 x2.2.2.2.2.2.2.1 x2.2.2.2.2.2.2.2.1.1 r1p0.2.2.2.2.2.2.2.1.length x2.2.2.2.2.2.2.2.1.2 :: Mp (Elt.slice E8) x2.2.2.2.2.2.2.1 r1p0.2.2.2.2.2.2.1 :: Bf (Elt.pair E64 (Elt.slice E8)) 174 x2.2.2.2.2.2.2.2.1.1 x2.2.2.2.2.2.2.2.1.2 r1p0.2.2.2.2.2.2.2.1 :: Mp E64 x2.2.2.2.2.2.2.2.2.1 r1p0.2.2.2.2.2.2.2.2.1 :: Mp E64 x2.2.2.2.2.2.2.2.2.2.1 r1p0.2.2.2.2.2.2.2.2.2.1 :: Bf (Elt.pair (Elt.pair E64 (Elt.pair (Elt.slice E8) (Elt.slice E8))) EBool) 88 x7.1 x7.2 r6.2 :: Ro (Elt.slice (Elt.pair E64 (Elt.pair E64 EStr))) none 0 (([] : List (List (Int × Int × (List UInt8))))) :: Cl b3 31 [.int .i64 r5.2.1.1, .int .i64 r5.2.1.2.1, .slice x6.1 r5.2.1.2.2.length x6.2] :: Ro (Elt.slice (Elt.pair E64 (Elt.pair E64 EStr))) x6.1 x6.2 r5.2.1.2.2 :: Cl b2 31 [.int .i64 r4.2.1.1, .int .i64 r4.2.1.2.1, .slice x5.1 r4.2.1.2.2.length x5.2] :: Ro (Elt.slice (Elt.pair E64 (Elt.pair E64 EStr))) x5.1 x5.2 r4.2.1.2.2 :: Ro (Elt.slice (Elt.pair E64 (Elt.pair E64 EStr))) none 0 (([] : List (List (Int × Int × (List UInt8))))) :: Cl b1 31 [.int .i64 r2.2.1.1, .int .i64 r2.2.1.2.1, .slice x3.1 r2.2.1.2.2.length x3.2] :: Ro (Elt.slice (Elt.pair E64 (Elt.pair E64 EStr))) x3.1 x3.2 r2.2.1.2.2 :: hs) rfl ?_
  obtain ⟨r7, hg7, hr⟩ := inv_bind hr
  refine T.call .list (wants0 rfl) rfl (run_callF (vs := [_, _]) rfl Tryd.func10 rfl (by decide) rfl) (fun w hS => session_Last.c hB hS (o0a := r1p0.2.1) (o0aa := r1p0.2.2.1) (o0aaa := r1p0.2.2.2.1) (q0aaab := r1p0.2.2.2.2.1) (o0aaac := r1p0.2.2.2.2.2.1) (q0aaacb := r1p0.2.2.2.2.2.2.1) (q0aaacc := r1p0.2.2.2.2.2.2.2.1) (q0aah := r1p0.2.2.2.2.2.2.2.2.1) (q0aak := r1p0.2.2.2.2.2.2.2.2.2.1) (q0b := r6.2)  hg7) (fun x8 => ?_)
  refine T.move .list rfl (wants0 rfl) rfl rfl ?_
  refine T.extract .list rfl (wants0 rfl) rfl rfl rfl ?_
  refine T.extract .list rfl (wants0 rfl) rfl rfl rfl ?_
  refine T.assign .list rfl (wants0 rfl) rfl rfl ?_
  refine T.assign .list rfl (wants0 rfl) rfl rfl ?_
  refine T.nil ?_
  refine T.then_normal ?_
  refine T.seq ?_
  refine T.region ?_
  obtain ⟨r8, hg8, hr⟩ := inv_bind hr
  refine T.call .list (wants0 rfl) rfl (run_callF (vs := [_, _, _]) rfl Tryd.func8 rfl (by decide) rfl) (fun w hS => session_Look_nil0.c hB hS  hg8) (fun x9 => ?_)
  refine T.move .list rfl (wants0 rfl) rfl rfl ?_
  refine T.extract .list rfl (wants0 rfl) rfl rfl rfl ?_
  refine T.extract .list rfl (wants0 rfl) rfl rfl rfl ?_
  refine T.extract .list rfl (wants0 rfl) rfl rfl rfl ?_
  refine T.allocS .list rfl (wants0 rfl) rfl (cs := [.int .i64 0, .int .i64 0, .slice none 0 0]) rfl (fun b4 => ?_)
  refine T.assign .list rfl (wants0 rfl) rfl rfl ?_
  refine T.store .list 0 rfl rfl (wants0 rfl) rfl rfl rfl rfl (Nat.le_of_ble_eq_true rfl) rfl (cs' := [.int .i64 r8.2.1.1, .int .i64 r8.2.1.2.1, .slice x9.1 r8.2.1.2.2.length x9.2]) rfl rfl ?_
  refine T.assign .list rfl (wants0 rfl) rfl rfl ?_
  refine T.nil ?_
  refine T.then_normal ?_
  refine T.seq ?_
  refine T.region ?_
  refine T.move .list rfl (wants0 rfl) rfl rfl ?_
  refine T.bin .list rfl (wants0 rfl) rfl rfl rfl rfl ?_
  refine T.move .list rfl (wants0 rfl) rfl rfl ?_
  refine T.bool (b := (decide (r2.1 = 0))) (fun hb1 => ?_) (fun hb1 => ?_)
  ·replace hr := inv_posB hb1 hr
   refine T.move .list rfl (wants1 rfl rfl rfl hb1) rfl rfl ?_
   refine T.bin .list rfl (wants1 rfl rfl rfl hb1) rfl rfl rfl rfl ?_
   refine T.pickT .list rfl (wants0 rfl) rfl rfl hb1 rfl ?_
   refine T.move .list rfl (wants0 rfl) rfl rfl ?_
   refine T.bool (b := (decide (r2.2.2 = 0))) (fun hb2 => ?_) (fun hb2 => ?_)
   ·replace hr := inv_posB hb2 hr
    refine T.move .list rfl (wants1 rfl rfl rfl hb2) rfl rfl ?_
    refine T.bin .list rfl (wants1 rfl rfl rfl hb2) rfl rfl rfl rfl ?_
    refine T.pickT .list rfl (wants0 rfl) rfl rfl hb2 rfl ?_
    refine T.move .list rfl (wants0 rfl) rfl rfl ?_
    refine T.bool (b := (decide (r3.1 = 0))) (fun hb3 => ?_) (fun hb3 => ?_)
    ·replace hr := inv_posB hb3 hr
     refine T.move .list rfl (wants1 rfl rfl rfl hb3) rfl rfl ?_
     refine T.bin .list rfl (wants1 rfl rfl rfl hb3) rfl rfl rfl rfl ?_
     refine T.pickT .list rfl (wants0 rfl) rfl rfl hb3 rfl ?_
     refine T.move .list rfl (wants0 rfl) rfl rfl ?_
     refine T.bool (b := (decide (r4.1 = 1))) (fun hb4 => ?_) (fun hb4 => ?_)
     ·replace hr := inv_posB hb4 hr
      refine T.move .list rfl (wants1 rfl rfl rfl hb4) rfl rfl ?_
      refine T.bin .list rfl (wants1 rfl rfl rfl hb4) rfl rfl rfl rfl ?_
      refine T.pickT .list rfl (wants0 rfl) rfl rfl hb4 rfl ?_
      refine T.move .list rfl (wants0 rfl) rfl rfl ?_
      refine T.bool (b := (decide (r4.2.2 = 0))) (fun hb5 => ?_) (fun hb5 => ?_)
      ·replace hr := inv_posB hb5 hr
       refine T.field .list rfl (wants1 rfl rfl rfl hb5) rfl rfl ?_
       refine T.load .list 16 rfl rfl (wants1 rfl rfl rfl hb5) rfl rfl rfl ?_
       refine T.bin .list rfl (wants1 rfl rfl rfl hb5) rfl rfl rfl rfl ?_
       refine T.pickT .list rfl (wants0 rfl) rfl rfl hb5 rfl ?_
       refine T.move .list rfl (wants0 rfl) rfl rfl ?_
       refine T.bool (b := (decide (r4.2.1.2.1 = 1))) (fun hb6 => ?_) (fun hb6 => ?_)
       ·replace hr := inv_posB hb6 hr
        refine T.move .list rfl (wants1 rfl rfl rfl hb6) rfl rfl ?_
        refine T.bin .list rfl (wants1 rfl rfl rfl hb6) rfl rfl rfl rfl ?_
        refine T.pickT .list rfl (wants0 rfl) rfl rfl hb6 rfl ?_
        refine T.move .list rfl (wants0 rfl) rfl rfl ?_
        refine T.bool (b := (decide (r5.1 = 2))) (fun hb7 => ?_) (fun hb7 => ?_)
        ·replace hr := inv_posB hb7 hr
         refine T.move .list rfl (wants1 rfl rfl rfl hb7) rfl rfl ?_
         refine T.bin .list rfl (wants1 rfl rfl rfl hb7) rfl rfl rfl rfl ?_
         refine T.pickT .list rfl (wants0 rfl) rfl rfl hb7 rfl ?_
         refine T.move .list rfl (wants0 rfl) rfl rfl ?_
         refine T.bool (b := (decide (r6.1 = 50))) (fun hb8 => ?_) (fun hb8 => ?_)
         ·replace hr := inv_posB hb8 hr
          refine T.move .list rfl (wants1 rfl rfl rfl hb8) rfl rfl ?_
          refine T.bin .list rfl (wants1 rfl rfl rfl hb8) rfl rfl rfl rfl ?_
          refine T.pickT .list rfl (wants0 rfl) rfl rfl hb8 rfl ?_
          refine T.move .list rfl (wants0 rfl) rfl rfl ?_
          refine T.bool (b := (decide (r7.1 = 3))) (fun hb9 => ?_) (fun hb9 => ?_)
          ·replace hr := inv_posB hb9 hr
           refine T.move .list rfl (wants1 rfl rfl rfl hb9) rfl rfl ?_
           refine T.bin .list rfl (wants1 rfl rfl rfl hb9) rfl rfl rfl rfl ?_
           refine T.pickT .list rfl (wants0 rfl) rfl rfl hb9 rfl ?_
           refine T.assign .list rfl (wants0 rfl) rfl rfl ?_
           refine T.nil ?_
           refine T.then_normal ?_
           refine T.ret ?_
           obtain rfl := inv_some hr
           refine T.pick [] 21 rfl rfl nla rfl ?_
           refine T.ret1 rfl rfl (fun w hS => ⟨(), rfl, hS⟩)
          ·replace hr := inv_negB hb9 hr
           refine T.leave .list (wantsNot rfl rfl rfl hb9) rfl ?_
           refine T.leave .list (wantsNot rfl rfl rfl hb9) rfl ?_
           refine T.pickF .list rfl (wants0 rfl) rfl rfl hb9 rfl ?_
           refine T.assign .list rfl (wants0 rfl) rfl rfl ?_
           refine T.nil ?_
           refine T.then_normal ?_
           refine T.ret ?_
           obtain rfl := inv_some hr
           refine T.pick [] 21 rfl rfl nla rfl ?_
           refine T.ret1 rfl rfl (fun w hS => ⟨(), rfl, hS⟩)
         ·replace hr := inv_negB hb8 hr
          refine T.leave .list (wantsNot rfl rfl rfl hb8) rfl ?_
          refine T.leave .list (wantsNot rfl rfl rfl hb8) rfl ?_
          refine T.pickF .list rfl (wants0 rfl) rfl rfl hb8 rfl ?_
          refine T.move .list rfl (wants0 rfl) rfl rfl ?_
          refine T.leave .list (wantsNot rfl rfl rfl rfl) rfl ?_
          refine T.leave .list (wantsNot rfl rfl rfl rfl) rfl ?_
          refine T.pickF .list rfl (wants0 rfl) rfl rfl rfl rfl ?_
          refine T.assign .list rfl (wants0 rfl) rfl rfl ?_
          refine T.nil ?_
          refine T.then_normal ?_
          refine T.ret ?_
          obtain rfl := inv_some hr
          refine T.pick [] 21 rfl rfl nla rfl ?_
          refine T.ret1 rfl rfl (fun w hS => ⟨(), rfl, hS⟩)
        ·replace hr := inv_negB hb7 hr
         refine T.leave .list (wantsNot rfl rfl rfl hb7) rfl ?_
         refine T.leave .list (wantsNot rfl rfl rfl hb7) rfl ?_
         refine T.pickF .list rfl (wants0 rfl) rfl rfl hb7 rfl ?_
         refine T.move .list rfl (wants0 rfl) rfl rfl ?_
         refine T.leave .list (wantsNot rfl rfl rfl rfl) rfl ?_
         refine T.leave .list (wantsNot rfl rfl rfl rfl) rfl ?_
         refine T.pickF .list rfl (wants0 rfl) rfl rfl rfl rfl ?_
         refine T.move .list rfl (wants0 rfl) rfl rfl ?_
         refine T.leave .list (wantsNot rfl rfl rfl rfl) rfl ?_
         refine T.leave .list (wantsNot rfl rfl rfl rfl) rfl ?_
         refine T.pickF .list rfl (wants0 rfl) rfl rfl rfl rfl ?_
         refine T.assign .list rfl (wants0 rfl) rfl rfl ?_
         refine T.nil ?_
         refine T.then_normal ?_
         refine T.ret ?_
         obtain rfl := inv_some hr
         refine T.pick [] 21 rfl rfl nla rfl ?_
         refine T.ret1 rfl rfl (fun w hS => ⟨(), rfl, hS⟩)
       ·replace hr := inv_negB hb6 hr
        refine T.leave .list (wantsNot rfl rfl rfl hb6) rfl ?_
        refine T.leave .list (wantsNot rfl rfl rfl hb6) rfl ?_
        refine T.pickF .list rfl (wants0 rfl) rfl rfl hb6 rfl ?_
        refine T.move .list rfl (wants0 rfl) rfl rfl ?_
        refine T.leave .list (wantsNot rfl rfl rfl rfl) rfl ?_
        refine T.leave .list (wantsNot rfl rfl rfl rfl) rfl ?_
        refine T.pickF .list rfl (wants0 rfl) rfl rfl rfl rfl ?_
        refine T.move .list rfl (wants0 rfl) rfl rfl ?_
        refine T.leave .list (wantsNot rfl rfl rfl rfl) rfl ?_
        refine T.leave .list (wantsNot rfl rfl rfl rfl) rfl ?_
        refine T.pickF .list rfl (wants0 rfl) rfl rfl rfl rfl ?_
        refine T.move .list rfl (wants0 rfl) rfl rfl ?_
        refine T.leave .list (wantsNot rfl rfl rfl rfl) rfl ?_
        refine T.leave .list (wantsNot rfl rfl rfl rfl) rfl ?_
        refine T.pickF .list rfl (wants0 rfl) rfl rfl rfl rfl ?_
        refine T.assign .list rfl (wants0 rfl) rfl rfl ?_
        refine T.nil ?_
        refine T.then_normal ?_
        refine T.ret ?_
        obtain rfl := inv_some hr
        refine T.pick [] 21 rfl rfl nla rfl ?_
        refine T.ret1 rfl rfl (fun w hS => ⟨(), rfl, hS⟩)
      ·replace hr := inv_negB hb5 hr
       refine T.leave .list (wantsNot rfl rfl rfl hb5) rfl ?_
       refine T.leave .list (wantsNot rfl rfl rfl hb5) rfl ?_
       refine T.leave .list (wantsNot rfl rfl rfl hb5) rfl ?_
       refine T.pickF .list rfl (wants0 rfl) rfl rfl hb5 rfl ?_
       refine T.move .list rfl (wants0 rfl) rfl rfl ?_
       refine T.leave .list (wantsNot rfl rfl rfl rfl) rfl ?_
       refine T.leave .list (wantsNot rfl rfl rfl rfl) rfl ?_
       refine T.pickF .list rfl (wants0 rfl) rfl rfl rfl rfl ?_
       refine T.move .list rfl (wants0 rfl) rfl rfl ?_
       refine T.leave .list (wantsNot rfl rfl rfl rfl) rfl ?_
       refine T.leave .list (wantsNot rfl rfl rfl rfl) rfl ?_
       refine T.pickF .list rfl (wants0 rfl) rfl rfl rfl rfl ?_
       refine T.move .list rfl (wants0 rfl) rfl rfl ?_
       refine T.leave .list (wantsNot rfl rfl rfl rfl) rfl ?_
       refine T.leave .list (wantsNot rfl rfl rfl rfl) rfl ?_
       refine T.pickF .list rfl (wants0 rfl) rfl rfl rfl rfl ?_
       refine T.move .list rfl (wants0 rfl) rfl rfl ?_
       refine T.leave .list (wantsNot rfl rfl rfl rfl) rfl ?_
       refine T.leave .list (wantsNot rfl rfl rfl rfl) rfl ?_
       refine T.pickF .list rfl (wants0 rfl) rfl rfl rfl rfl ?_
       refine T.assign .list rfl (wants0 rfl) rfl rfl ?_
       refine T.nil ?_
       refine T.then_normal ?_
       refine T.ret ?_
       obtain rfl := inv_some hr
       refine T.pick [] 21 rfl rfl nla rfl ?_
       refine T.ret1 rfl rfl (fun w hS => ⟨(), rfl, hS⟩)
     ·replace hr := inv_negB hb4 hr
      refine T.leave .list (wantsNot rfl rfl rfl hb4) rfl ?_
      refine T.leave .list (wantsNot rfl rfl rfl hb4) rfl ?_
      refine T.pickF .list rfl (wants0 rfl) rfl rfl hb4 rfl ?_
      refine T.move .list rfl (wants0 rfl) rfl rfl ?_
      refine T.leave .list (wantsNot rfl rfl rfl rfl) rfl ?_
      refine T.leave .list (wantsNot rfl rfl rfl rfl) rfl ?_
      refine T.leave .list (wantsNot rfl rfl rfl rfl) rfl ?_
      refine T.pickF .list rfl (wants0 rfl) rfl rfl rfl rfl ?_
      refine T.move .list rfl (wants0 rfl) rfl rfl ?_
      refine T.leave .list (wantsNot rfl rfl rfl rfl) rfl ?_
      refine T.leave .list (wantsNot rfl rfl rfl rfl) rfl ?_
      refine T.pickF .list rfl (wants0 rfl) rfl rfl rfl rfl ?_
      refine T.move .list rfl (wants0 rfl) rfl rfl ?_
      refine T.leave .list (wantsNot rfl rfl rfl rfl) rfl ?_
      refine T.leave .list (wantsNot rfl rfl rfl rfl) rfl ?_
      refine T.pickF .list rfl (wants0 rfl) rfl rfl rfl rfl ?_
      refine T.move .list rfl (wants0 rfl) rfl rfl ?_
      refine T.leave .list (wantsNot rfl rfl rfl rfl) rfl ?_
      refine T.leave .list (wantsNot rfl rfl rfl rfl) rfl ?_
      refine T.pickF .list rfl (wants0 rfl) rfl rfl rfl rfl ?_
      refine T.move .list rfl (wants0 rfl) rfl rfl ?_
      refine T.leave .list (wantsNot rfl rfl rfl rfl) rfl ?_
      refine T.leave .list (wantsNot rfl rfl rfl rfl) rfl ?_
      refine T.pickF .list rfl (wants0 rfl) rfl rfl rfl rfl ?_
      refine T.assign .list rfl (wants0 rfl) rfl rfl ?_
      refine T.nil ?_
      refine T.then_normal ?_
      refine T.ret ?_
      obtain rfl := inv_some hr
      refine T.pick [] 21 rfl rfl nla rfl ?_
      refine T.ret1 rfl rfl (fun w hS => ⟨(), rfl, hS⟩)
    ·replace hr := inv_negB hb3 hr
     refine T.leave .list (wantsNot rfl rfl rfl hb3) rfl ?_
     refine T.leave .list (wantsNot rfl rfl rfl hb3) rfl ?_
     refine T.pickF .list rfl (wants0 rfl) rfl rfl hb3 rfl ?_
     refine T.move .list rfl (wants0 rfl) rfl rfl ?_
     refine T.leave .list (wantsNot rfl rfl rfl rfl) rfl ?_
     refine T.leave .list (wantsNot rfl rfl rfl rfl) rfl ?_
     refine T.pickF .list rfl (wants0 rfl) rfl rfl rfl rfl ?_
     refine T.move .list rfl (wants0 rfl) rfl rfl ?_
     refine T.leave .list (wantsNot rfl rfl rfl rfl) rfl ?_
     refine T.leave .list (wantsNot rfl rfl rfl rfl) rfl ?_
     refine T.leave .list (wantsNot rfl rfl rfl rfl) rfl ?_
     refine T.pickF .list rfl (wants0 rfl) rfl rfl rfl rfl ?_
     refine T.move .list rfl (wants0 rfl) rfl rfl ?_
     refine T.leave .list (wantsNot rfl rfl rfl rfl) rfl ?_
     refine T.leave .list (wantsNot rfl rfl rfl rfl) rfl ?_
     refine T.pickF .list rfl (wants0 rfl) rfl rfl rfl rfl ?_
     refine T.move .list rfl (wants0 rfl) rfl rfl ?_
     refine T.leave .list (wantsNot rfl rfl rfl rfl) rfl ?_
     refine T.leave .list (wantsNot rfl rfl rfl rfl) rfl ?_
     refine T.pickF .list rfl (wants0 rfl) rfl rfl rfl rfl ?_
     refine T.move .list rfl (wants0 rfl) rfl rfl ?_
     refine T.leave .list (wantsNot rfl rfl rfl rfl) rfl ?_
     refine T.leave .list (wantsNot rfl rfl rfl rfl) rfl ?_
     refine T.pickF .list rfl (wants0 rfl) rfl rfl rfl rfl ?_
     refine T.move .list rfl (wants0 rfl) rfl rfl ?_
     refine T.leave .list (wantsNot rfl rfl rfl rfl) rfl ?_
     refine T.leave .list (wantsNot rfl rfl rfl rfl) rfl ?_
     refine T.pickF .list rfl (wants0 rfl) rfl rfl rfl rfl ?_
     refine T.assign .list rfl (wants0 rfl) rfl rfl ?_
     refine T.nil ?_
     refine T.then_normal ?_
     refine T.ret ?_
     obtain rfl := inv_some hr
     refine T.pick [] 21 rfl rfl nla rfl ?_
     refine T.ret1 rfl rfl (fun w hS => ⟨(), rfl, hS⟩)
   ·replace hr := inv_negB hb2 hr
    refine T.leave .list (wantsNot rfl rfl rfl hb2) rfl ?_
    refine T.leave .list (wantsNot rfl rfl rfl hb2) rfl ?_
    refine T.pickF .list rfl (wants0 rfl) rfl rfl hb2 rfl ?_
    refine T.move .list rfl (wants0 rfl) rfl rfl ?_
    refine T.leave .list (wantsNot rfl rfl rfl rfl) rfl ?_
    refine T.leave .list (wantsNot rfl rfl rfl rfl) rfl ?_
    refine T.pickF .list rfl (wants0 rfl) rfl rfl rfl rfl ?_
    refine T.move .list rfl (wants0 rfl) rfl rfl ?_
    refine T.leave .list (wantsNot rfl rfl rfl rfl) rfl ?_
    refine T.leave .list (wantsNot rfl rfl rfl rfl) rfl ?_
    refine T.pickF .list rfl (wants0 rfl) rfl rfl rfl rfl ?_
    refine T.move .list rfl (wants0 rfl) rfl rfl ?_
    refine T.leave .list (wantsNot rfl rfl rfl rfl) rfl ?_
    refine T.leave .list (wantsNot rfl rfl rfl rfl) rfl ?_
    refine T.leave .list (wantsNot rfl rfl rfl rfl) rfl ?_
    refine T.pickF .list rfl (wants0 rfl) rfl rfl rfl rfl ?_
    refine T.move .list rfl (wants0 rfl) rfl rfl ?_
    refine T.leave .list (wantsNot rfl rfl rfl rfl) rfl ?_
    refine T.leave .list (wantsNot rfl rfl rfl rfl) rfl ?_
    refine T.pickF .list rfl (wants0 rfl) rfl rfl rfl rfl ?_
    refine T.move .list rfl (wants0 rfl) rfl rfl ?_
    refine T.leave .list (wantsNot rfl rfl rfl rfl) rfl ?_
    refine T.leave .list (wantsNot rfl rfl rfl rfl) rfl ?_
    refine T.pickF .list rfl (wants0 rfl) rfl rfl rfl rfl ?_
    refine T.move .list rfl (wants0 rfl) rfl rfl ?_
    refine T.leave .list (wantsNot rfl rfl rfl rfl) rfl ?_
    refine T.leave .list (wantsNot rfl rfl rfl rfl) rfl ?_
    refine T.pickF .list rfl (wants0 rfl) rfl rfl rfl rfl ?_
    refine T.move .list rfl (wants0 rfl) rfl rfl ?_
    refine T.leave .list (wantsNot rfl rfl rfl rfl) rfl ?_
    refine T.leave .list (wantsNot rfl rfl rfl rfl) rfl ?_
    refine T.pickF .list rfl (wants0 rfl) rfl rfl rfl rfl ?_
    refine T.assign .list rfl (wants0 rfl) rfl rfl ?_
    refine T.nil ?_
    refine T.then_normal ?_
    refine T.ret ?_
    obtain rfl := inv_some hr
    refine T.pick [] 21 rfl rfl nla rfl ?_
    refine T.ret1 rfl rfl (fun w hS => ⟨(), rfl, hS⟩)
  ·replace hr := inv_negB hb1 hr
   refine T.leave .list (wantsNot rfl rfl rfl hb1) rfl ?_
   refine T.leave .list (wantsNot rfl rfl rfl hb1) rfl ?_
   refine T.pickF .list rfl (wants0 rfl) rfl rfl hb1 rfl ?_
   refine T.move .list rfl (wants0 rfl) rfl rfl ?_
   refine T.leave .list (wantsNot rfl rfl rfl rfl) rfl ?_
   refine T.leave .list (wantsNot rfl rfl rfl rfl) rfl ?_
   refine T.pickF .list rfl (wants0 rfl) rfl rfl rfl rfl ?_
   refine T.move .list rfl (wants0 rfl) rfl rfl ?_
   refine T.leave .list (wantsNot rfl rfl rfl rfl) rfl ?_
   refine T.leave .list (wantsNot rfl rfl rfl rfl) rfl ?_
   refine T.pickF .list rfl (wants0 rfl) rfl rfl rfl rfl ?_
   refine T.move .list rfl (wants0 rfl) rfl rfl ?_
   refine T.leave .list (wantsNot rfl rfl rfl rfl) rfl ?_
   refine T.leave .list (wantsNot rfl rfl rfl rfl) rfl ?_
   refine T.pickF .list rfl (wants0 rfl) rfl rfl rfl rfl ?_
   refine T.move .list rfl (wants0 rfl) rfl rfl ?_
   refine T.leave .list (wantsNot rfl rfl rfl rfl) rfl ?_
   refine T.leave .list (wantsNot rfl rfl rfl rfl) rfl ?_
   refine T.leave .list (wantsNot rfl rfl rfl rfl) rfl ?_
   refine T.pickF .list rfl (wants0 rfl) rfl rfl rfl rfl ?_
   refine T.move .list rfl (wants0 rfl) rfl rfl ?_
   refine T.leave .list (wantsNot rfl rfl rfl rfl) rfl ?_
   refine T.leave .list (wantsNot rfl rfl rfl rfl) rfl ?_
   refine T.pickF .list rfl (wants0 rfl) rfl rfl rfl rfl ?_
   refine T.move .list rfl (wants0 rfl) rfl rfl ?_
   refine T.leave .list (wantsNot rfl rfl rfl rfl) rfl ?_
   refine T.leave .list (wantsNot rfl rfl rfl rfl) rfl ?_
   refine T.pickF .list rfl (wants0 rfl) rfl rfl rfl rfl ?_
   refine T.move .list rfl (wants0 rfl) rfl rfl ?_
   refine T.leave .list (wantsNot rfl rfl rfl rfl) rfl ?_
   refine T.leave .list (wantsNot rfl rfl rfl rfl) rfl ?_
   refine T.pickF .list rfl (wants0 rfl) rfl rfl rfl rfl ?_
   refine T.move .list rfl (wants0 rfl) rfl rfl ?_
   refine T.leave .list (wantsNot rfl rfl rfl rfl) rfl ?_
   refine T.leave .list (wantsNot rfl rfl rfl rfl) rfl ?_
   refine T.pickF .list rfl (wants0 rfl) rfl rfl rfl rfl ?_
   refine T.assign .list rfl (wants0 rfl) rfl rfl ?_
   refine T.nil ?_
   refine T.then_normal ?_
   refine T.ret ?_
   obtain rfl := inv_some hr
   refine T.pick [] 21 rfl rfl nla rfl ?_
   refine T.ret1 rfl rfl (fun w hS => ⟨(), rfl, hS⟩)
end Go.Proofs.YtdojooblfemmnaaDoor
