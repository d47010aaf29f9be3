/- Draft: what the functions compute, and that the program computes it; printed by a program of ours. -/
import Derived.Test.YthacklkmngfniaaFresh
import Derived.Test.YthacklkmngfniaaClone
set_option linter.unusedVariables false
set_option linter.unusedSimpArgs false
namespace Go.Proofs.Ythacklkmngfniaa
open Go.RowKit
noncomputable def draft_right.k2 (s2 : Bool) : Option Int :=
  (if s2 = true then some 3 else some 0)
noncomputable def draft_right.k1 (l1 : List UInt8) (l2 : List UInt8) (s1 : Bool) : Option Int :=
  (if s1 = true then some 1 else (if ((decide ((60 : Int) < ((l1.length : Int))))) = true then draft_right.k2 true else draft_right.k2 (decide ((1800 : Int) < ((l2.length : Int))))))
noncomputable def draft_right.impl (a0 : Int) (l1 : List UInt8) (l2 : List UInt8) : Option Int :=
  (if ((decide (a0 < 0))) = true then draft_right.k1 l1 l2 true else (if ((decide ((16 : Int) ≤ a0))) = true then draft_right.k1 l1 l2 true else draft_right.k1 l1 l2 (decide ((((l1.length : Int))) = 0))))
set_option maxRecDepth 100000 in
set_option maxHeartbeats 4000000 in
theorem draft_right.c {B : World} {hs : List MP} {w : World} {a0 : Int} {i1 c1 : Nat} {A1 : Option Addr} {l1 : List UInt8} {i2 c2 : Nat} {A2 : Option Addr} {l2 : List UInt8} (hS : St B (hs) w) (h1 : (hs)[i1]? = some (Ro E8 A1 c1 l1)) (h2 : (hs)[i2]? = some (Ro E8 A2 c2 l2)) {r : Int} (hr : draft_right.impl a0 l1 l2 = some r) :
    Calls Try.prog 29 #[.int .i64 a0, .slice A1 l1.length c1, .slice A2 l2.length c2] w fun e w' => ∃ x : Unit, e = .returned (.int .i64 r) ∧ St B (hs) w' := by
 unfold draft_right.impl at hr
 refine calls_T Try.func29 rfl rfl rfl hS ?_
 refine T.front i1 h1 ?_
 refine T.front (i2 + 1) h2 ?_
 refine T.seq ?_
 refine T.region ?_
 refine T.assign .list rfl (wants0 rfl) rfl rfl ?_
 refine T.nil ?_
 refine T.then_normal ?_
 refine T.seq ?_
 refine T.block ?_
 refine T.seqJ (fun (s1 : Bool) (x1 : Unit) => [(1, .slice A1 l1.length c1), (2, .slice A2 l2.length c2), (7, .bool s1)]) (fun s1 x1 => Ro E8 A1 c1 l1 :: Ro E8 A2 c2 l2 :: hs) (fun s1 => draft_right.k1 l1 l2 s1 = some r) (fun s1 x1 hk1 => ?_) (fun J1 => ?_)
 ·unfold draft_right.k1 at hk1
  refine T.cond rfl (fun hb1 => ?_) (fun hb1 => ?_)
  ·replace hk1 := inv_posB hb1 hk1
   refine T.seq ?_
   refine T.region ?_
   refine T.assign .list rfl (wants0 rfl) rfl rfl ?_
   refine T.nil ?_
   refine T.then_normal ?_
   refine T.ret ?_
   refine T.in_ret ?_
   refine T.then_ret ?_
   obtain rfl := inv_some hk1
   refine T.pick [] 2 rfl rfl (Nat.le_add_left _ _) rfl ?_
   refine T.ret1 rfl rfl (fun w hS => ⟨(), rfl, hS⟩)
  ·replace hk1 := inv_negB hb1 hk1
   refine T.seqJ (fun (s2 : Bool) (x2 : Unit) => [(19, .bool s2)]) (fun s2 x2 => hs) (fun s2 => draft_right.k2 s2 = some r) (fun s2 x2 hk2 => ?_) (fun J2 => ?_)
   ·unfold draft_right.k2 at hk2
    refine T.cond rfl (fun hb2 => ?_) (fun hb2 => ?_)
    ·replace hk2 := inv_posB hb2 hk2
     refine T.seq ?_
     refine T.region ?_
     refine T.assign .list rfl (wants0 rfl) rfl rfl ?_
     refine T.nil ?_
     refine T.then_normal ?_
     refine T.ret ?_
     refine T.in_ret ?_
     refine T.then_ret ?_
     obtain rfl := inv_some hk2
     refine T.pick [] 0 rfl rfl (Nat.le_add_left _ _) rfl ?_
     refine T.ret1 rfl rfl (fun w hS => ⟨(), rfl, hS⟩)
    ·replace hk2 := inv_negB hb2 hk2
     refine T.skip ?_
     refine T.in_normal ?_
     refine T.then_normal ?_
     refine T.seq ?_
     refine T.region ?_
     refine T.assign .list rfl (wants0 rfl) rfl rfl ?_
     refine T.nil ?_
     refine T.then_normal ?_
     refine T.ret ?_
     obtain rfl := inv_some hk2
     refine T.pick [] 0 rfl rfl (Nat.le_add_left _ _) rfl ?_
     refine T.ret1 rfl rfl (fun w hS => ⟨(), rfl, hS⟩)
   ·refine T.region ?_
    refine T.move .list rfl (wants0 rfl) rfl rfl ?_
    refine T.lenSlice .list rfl (wants0 rfl) rfl rfl ?_
    refine T.bin .list rfl (wants0 rfl) rfl rfl rfl rfl ?_
    refine T.move .list rfl (wants0 rfl) rfl rfl ?_
    refine T.bool (b := (decide ((60 : Int) < ((l1.length : Int))))) (fun hb3 => ?_) (fun hb3 => ?_)
    ·replace hk1 := inv_posB hb3 hk1
     refine T.leave .list (wantsNot rfl rfl rfl hb3) rfl ?_
     refine T.leave .list (wantsNot rfl rfl rfl hb3) rfl ?_
     refine T.leave .list (wantsNot rfl rfl rfl hb3) rfl ?_
     refine T.pickT .list rfl (wants0 rfl) rfl rfl hb3 rfl ?_
     refine T.assign .list rfl (wants0 rfl) rfl rfl ?_
     refine T.nil ?_
     refine T.then_normal ?_
     exact T.le (EnvLe.cons rfl EnvLe.nil) (T.pick [] 2 rfl rfl (Nat.le_add_left _ _) rfl (J2 true () hk1))
    ·replace hk1 := inv_negB hb3 hk1
     refine T.move .list rfl (wants1 rfl rfl rfl hb3) rfl rfl ?_
     refine T.lenSlice .list rfl (wants1 rfl rfl rfl hb3) rfl rfl ?_
     refine T.bin .list rfl (wants1 rfl rfl rfl hb3) rfl rfl rfl rfl ?_
     refine T.pickF .list rfl (wants0 rfl) rfl rfl hb3 rfl ?_
     refine T.assign .list rfl (wants0 rfl) rfl rfl ?_
     refine T.nil ?_
     refine T.then_normal ?_
     exact T.le (EnvLe.cons rfl EnvLe.nil) (T.pick [] 2 rfl rfl (Nat.le_add_left _ _) rfl (J2 (decide ((1800 : Int) < ((l2.length : Int)))) () hk1))
 ·refine T.region ?_
  refine T.move .list rfl (wants0 rfl) rfl rfl ?_
  refine T.bin .list rfl (wants0 rfl) rfl rfl rfl rfl ?_
  refine T.move .list rfl (wants0 rfl) rfl rfl ?_
  refine T.bool (b := (decide (a0 < 0))) (fun hb4 => ?_) (fun hb4 => ?_)
  ·replace hr := inv_posB hb4 hr
   refine T.leave .list (wantsNot rfl rfl rfl hb4) rfl ?_
   refine T.leave .list (wantsNot rfl rfl rfl hb4) rfl ?_
   refine T.pickT .list rfl (wants0 rfl) rfl rfl hb4 rfl ?_
   refine T.move .list rfl (wants0 rfl) rfl rfl ?_
   refine T.leave .list (wantsNot rfl rfl rfl rfl) rfl ?_
   refine T.leave .list (wantsNot rfl rfl rfl rfl) rfl ?_
   refine T.leave .list (wantsNot rfl rfl rfl rfl) rfl ?_
   refine T.pickT .list rfl (wants0 rfl) rfl rfl rfl rfl ?_
   refine T.assign .list rfl (wants0 rfl) rfl rfl ?_
   refine T.nil ?_
   refine T.then_normal ?_
   exact T.le (EnvLe.cons rfl (EnvLe.cons rfl (EnvLe.cons rfl EnvLe.nil))) (T.pick [1, 0] 2 rfl rfl (Nat.le_add_left _ _) rfl (J1 true () hr))
  ·replace hr := inv_negB hb4 hr
   refine T.move .list rfl (wants1 rfl rfl rfl hb4) rfl rfl ?_
   refine T.bin .list rfl (wants1 rfl rfl rfl hb4) rfl rfl rfl rfl ?_
   refine T.pickF .list rfl (wants0 rfl) rfl rfl hb4 rfl ?_
   refine T.move .list rfl (wants0 rfl) rfl rfl ?_
   refine T.bool (b := (decide ((16 : Int) ≤ a0))) (fun hb5 => ?_) (fun hb5 => ?_)
   ·replace hr := inv_posB hb5 hr
    refine T.leave .list (wantsNot rfl rfl rfl hb5) rfl ?_
    refine T.leave .list (wantsNot rfl rfl rfl hb5) rfl ?_
    refine T.leave .list (wantsNot rfl rfl rfl hb5) rfl ?_
    refine T.pickT .list rfl (wants0 rfl) rfl rfl hb5 rfl ?_
    refine T.assign .list rfl (wants0 rfl) rfl rfl ?_
    refine T.nil ?_
    refine T.then_normal ?_
    exact T.le (EnvLe.cons rfl (EnvLe.cons rfl (EnvLe.cons rfl EnvLe.nil))) (T.pick [1, 0] 2 rfl rfl (Nat.le_add_left _ _) rfl (J1 true () hr))
   ·replace hr := inv_negB hb5 hr
    refine T.move .list rfl (wants1 rfl rfl rfl hb5) rfl rfl ?_
    refine T.lenSlice .list rfl (wants1 rfl rfl rfl hb5) rfl rfl ?_
    refine T.bin .list rfl (wants1 rfl rfl rfl hb5) rfl rfl rfl rfl ?_
    refine T.pickF .list rfl (wants0 rfl) rfl rfl hb5 rfl ?_
    refine T.assign .list rfl (wants0 rfl) rfl rfl ?_
    refine T.nil ?_
    refine T.then_normal ?_
    exact T.le (EnvLe.cons rfl (EnvLe.cons rfl (EnvLe.cons rfl EnvLe.nil))) (T.pick [1, 0] 2 rfl rfl (Nat.le_add_left _ _) rfl (J1 (decide ((((l1.length : Int))) = 0)) () hr))

noncomputable def draft_Draft_last.k1 (s1 : Unit) : Option (((Int × (List UInt8) × (List UInt8)) × Bool) × Bool) :=
  some (((0, ([] : List UInt8), ([] : List UInt8)), false), false)
noncomputable def draft_Draft_last.k2 (s2 : Int) (q0b : List ((Int × (List UInt8) × (List UInt8)) × Bool)) (s3 : Bool) : Option (Int ⊕ ((((Int × (List UInt8) × (List UInt8)) × Bool) × Bool) ⊕ Unit)) :=
  (if s3 = true then chk (0 ≤ s2 ∧ s2 < (q0b.length : Int)) (some (.inr (.inl ((((((((q0b).getD (s2 : Int).toNat default)).1).1), (((((q0b).getD (s2 : Int).toNat default)).1).2.1), (((((q0b).getD (s2 : Int).toNat default)).1).2.2)), ((((q0b).getD (s2 : Int).toNat default)).2)), true)))) else some (.inl (IntKind.i64.wrap (s2 - 1))))
noncomputable def draft_Draft_last.st1 (q0b : List ((Int × (List UInt8) × (List UInt8)) × Bool)) (a1 : Int) (l2 : List UInt8) (s2 : Int) : Option (Int ⊕ ((((Int × (List UInt8) × (List UInt8)) × Bool) × Bool) ⊕ Unit)) :=
  (if ((decide ((0 : Int) ≤ s2))) = true then chk (0 ≤ s2 ∧ s2 < (q0b.length : Int)) ((if ((decide ((((((((q0b).getD (s2 : Int).toNat default)).1).1))) = a1))) = true then chk (0 ≤ s2 ∧ s2 < (q0b.length : Int)) ((bytes_Equal.impl ((((((q0b).getD (s2 : Int).toNat default)).1).2.1)) l2).bind fun r1 => draft_Draft_last.k2 s2 q0b r1) else draft_Draft_last.k2 s2 q0b false)) else some (.inr (.inr ())))
noncomputable def draft_Draft_last.impl (o0a : Int × Int × Int × Int × Int × Int × Int × Int × Int × Int × Int × Int × Int × Int × Int × Int × Int) (o0aa : Int × Int × Int × Int) (o0aaa : Int × Int × Int × Int) (q0aaab : List (Int × Int)) (o0aaac : Int × Bool × Int × Int × Int × Int × Int) (q0aaacb : List (Int × (List UInt8))) (q0aaacc : List (Int × (List UInt8))) (q0aah : List (Int × Int)) (q0aak : List (Int × Int)) (q0b : List ((Int × (List UInt8) × (List UInt8)) × Bool)) (a1 : Int) (l2 : List UInt8) : Option (((Int × (List UInt8) × (List UInt8)) × Bool) × Bool) :=
  (loop (draft_Draft_last.st1 q0b a1 l2) (IntKind.i64.wrap (((q0b.length : Int)) - 1))).bind (fun e1 => match e1 with | .inl v => some v | .inr v => draft_Draft_last.k1 v)
set_option maxRecDepth 100000 in
set_option maxHeartbeats 4000000 in
theorem draft_Draft_last.c {B : World} {hs : List MP} {w : World} {p0 : Nat} {p0a : Nat} {o0a : Int × Int × Int × Int × Int × Int × Int × Int × Int × Int × Int × Int × Int × Int × Int × Int × Int} {p0aa : Nat} {o0aa : Int × Int × Int × Int} {p0aaa : Nat} {o0aaa : Int × Int × Int × Int} {m0aaab : Nat} {q0aaab : List (Int × Int)} {p0aaac : Nat} {o0aaac : Int × Bool × Int × Int × Int × Int × Int} {m0aaacb : Nat} {q0aaacb : List (Int × (List UInt8))} {c0aaacc : Nat} {A0aaacc : Option Addr} {q0aaacc : List (Int × (List UInt8))} {m0aah : Nat} {q0aah : List (Int × Int)} {m0aak : Nat} {q0aak : List (Int × Int)} {c0b : Nat} {A0b : Option Addr} {q0b : List ((Int × (List UInt8) × (List UInt8)) × Bool)} {a1 : Int} {i2 c2 : Nat} {A2 : Option Addr} {l2 : List UInt8} (hS : St B (Cl p0 99 [.pointer (some ⟨p0a, 0, none⟩), .slice A0b q0b.length c0b] :: Cl p0a 89 [.pointer (some ⟨p0aa, 0, none⟩), .int .i64 o0a.1, .int .i64 o0a.2.1, .int .i64 o0a.2.2.1, .int .i64 o0a.2.2.2.1, .int .i64 o0a.2.2.2.2.1, .int .i64 o0a.2.2.2.2.2.1, .int .i64 o0a.2.2.2.2.2.2.1, .int .i64 o0a.2.2.2.2.2.2.2.1, .int .i64 o0a.2.2.2.2.2.2.2.2.1, .int .i64 o0a.2.2.2.2.2.2.2.2.2.1, .int .i64 o0a.2.2.2.2.2.2.2.2.2.2.1, .int .i64 o0a.2.2.2.2.2.2.2.2.2.2.2.1, .int .i64 o0a.2.2.2.2.2.2.2.2.2.2.2.2.1, .int .i64 o0a.2.2.2.2.2.2.2.2.2.2.2.2.2.1, .int .i64 o0a.2.2.2.2.2.2.2.2.2.2.2.2.2.2.1, .int .i64 o0a.2.2.2.2.2.2.2.2.2.2.2.2.2.2.2.1, .int .i64 o0a.2.2.2.2.2.2.2.2.2.2.2.2.2.2.2.2] :: Cl p0aa 115 [.pointer (some ⟨p0aaa, 0, none⟩), .nilIface, .int .i64 o0aa.1, .int .i64 o0aa.2.1, .nilIface, .int .i64 o0aa.2.2.1, .int .i64 o0aa.2.2.2, .map (some m0aah), .slice none 0 0, .slice none 0 0, .map (some m0aak)] :: Cl p0aaa 134 [.int .i64 o0aaa.1, .map (some m0aaab), .pointer (some ⟨p0aaac, 0, none⟩), .int .i64 o0aaa.2.1, .int .u64 o0aaa.2.2.1, .int .i64 o0aaa.2.2.2] :: Mp E64 m0aaab q0aaab :: Cl p0aaac 83 [.int .i64 o0aaac.1, .map (some m0aaacb), .slice A0aaacc q0aaacc.length c0aaacc, .bool o0aaac.2.1, .int .i64 o0aaac.2.2.1, .int .i64 o0aaac.2.2.2.1, .int .u64 o0aaac.2.2.2.2.1, .int .i64 o0aaac.2.2.2.2.2.1, .int .i64 o0aaac.2.2.2.2.2.2] :: Mp (Elt.slice E8) m0aaacb q0aaacb :: Bf (Elt.pair E64 (Elt.slice E8)) 158 A0aaacc c0aaacc q0aaacc :: Mp E64 m0aah q0aah :: Mp E64 m0aak q0aak :: Bf (Elt.pair (Elt.pair E64 (Elt.pair (Elt.slice E8) (Elt.slice E8))) EBool) 102 A0b c0b q0b :: hs) w) (h2 : (Cl p0 99 [.pointer (some ⟨p0a, 0, none⟩), .slice A0b q0b.length c0b] :: Cl p0a 89 [.pointer (some ⟨p0aa, 0, none⟩), .int .i64 o0a.1, .int .i64 o0a.2.1, .int .i64 o0a.2.2.1, .int .i64 o0a.2.2.2.1, .int .i64 o0a.2.2.2.2.1, .int .i64 o0a.2.2.2.2.2.1, .int .i64 o0a.2.2.2.2.2.2.1, .int .i64 o0a.2.2.2.2.2.2.2.1, .int .i64 o0a.2.2.2.2.2.2.2.2.1, .int .i64 o0a.2.2.2.2.2.2.2.2.2.1, .int .i64 o0a.2.2.2.2.2.2.2.2.2.2.1, .int .i64 o0a.2.2.2.2.2.2.2.2.2.2.2.1, .int .i64 o0a.2.2.2.2.2.2.2.2.2.2.2.2.1, .int .i64 o0a.2.2.2.2.2.2.2.2.2.2.2.2.2.1, .int .i64 o0a.2.2.2.2.2.2.2.2.2.2.2.2.2.2.1, .int .i64 o0a.2.2.2.2.2.2.2.2.2.2.2.2.2.2.2.1, .int .i64 o0a.2.2.2.2.2.2.2.2.2.2.2.2.2.2.2.2] :: Cl p0aa 115 [.pointer (some ⟨p0aaa, 0, none⟩), .nilIface, .int .i64 o0aa.1, .int .i64 o0aa.2.1, .nilIface, .int .i64 o0aa.2.2.1, .int .i64 o0aa.2.2.2, .map (some m0aah), .slice none 0 0, .slice none 0 0, .map (some m0aak)] :: Cl p0aaa 134 [.int .i64 o0aaa.1, .map (some m0aaab), .pointer (some ⟨p0aaac, 0, none⟩), .int .i64 o0aaa.2.1, .int .u64 o0aaa.2.2.1, .int .i64 o0aaa.2.2.2] :: Mp E64 m0aaab q0aaab :: Cl p0aaac 83 [.int .i64 o0aaac.1, .map (some m0aaacb), .slice A0aaacc q0aaacc.length c0aaacc, .bool o0aaac.2.1, .int .i64 o0aaac.2.2.1, .int .i64 o0aaac.2.2.2.1, .int .u64 o0aaac.2.2.2.2.1, .int .i64 o0aaac.2.2.2.2.2.1, .int .i64 o0aaac.2.2.2.2.2.2] :: Mp (Elt.slice E8) m0aaacb q0aaacb :: Bf (Elt.pair E64 (Elt.slice E8)) 158 A0aaacc c0aaacc q0aaacc :: Mp E64 m0aah q0aah :: Mp E64 m0aak q0aak :: Bf (Elt.pair (Elt.pair E64 (Elt.pair (Elt.slice E8) (Elt.slice E8))) EBool) 102 A0b c0b q0b :: hs)[i2]? = some (Ro E8 A2 c2 l2)) {r : ((Int × (List UInt8) × (List UInt8)) × Bool) × Bool} (hr : draft_Draft_last.impl o0a o0aa o0aaa q0aaab o0aaac q0aaacb q0aaacc q0aah q0aak q0b a1 l2 = some r) :
    Calls Try.prog 42 #[.pointer (some ⟨p0, 0, none⟩), .int .i64 a1, .slice A2 l2.length c2] w fun e w' => ∃ x : (Option Addr × Nat) × (Option Addr × Nat), e = .returned (.tuple #[.agg #[.int .i64 r.1.1.1, .slice x.1.1 r.1.1.2.1.length x.1.2, .slice x.2.1 r.1.1.2.2.length x.2.2, .bool r.1.2], .bool r.2]) ∧ St B (Ro E8 x.1.1 x.1.2 r.1.1.2.1 :: Ro E8 x.2.1 x.2.2 r.1.1.2.2 :: Cl p0 99 [.pointer (some ⟨p0a, 0, none⟩), .slice A0b q0b.length c0b] :: Cl p0a 89 [.pointer (some ⟨p0aa, 0, none⟩), .int .i64 o0a.1, .int .i64 o0a.2.1, .int .i64 o0a.2.2.1, .int .i64 o0a.2.2.2.1, .int .i64 o0a.2.2.2.2.1, .int .i64 o0a.2.2.2.2.2.1, .int .i64 o0a.2.2.2.2.2.2.1, .int .i64 o0a.2.2.2.2.2.2.2.1, .int .i64 o0a.2.2.2.2.2.2.2.2.1, .int .i64 o0a.2.2.2.2.2.2.2.2.2.1, .int .i64 o0a.2.2.2.2.2.2.2.2.2.2.1, .int .i64 o0a.2.2.2.2.2.2.2.2.2.2.2.1, .int .i64 o0a.2.2.2.2.2.2.2.2.2.2.2.2.1, .int .i64 o0a.2.2.2.2.2.2.2.2.2.2.2.2.2.1, .int .i64 o0a.2.2.2.2.2.2.2.2.2.2.2.2.2.2.1, .int .i64 o0a.2.2.2.2.2.2.2.2.2.2.2.2.2.2.2.1, .int .i64 o0a.2.2.2.2.2.2.2.2.2.2.2.2.2.2.2.2] :: Cl p0aa 115 [.pointer (some ⟨p0aaa, 0, none⟩), .nilIface, .int .i64 o0aa.1, .int .i64 o0aa.2.1, .nilIface, .int .i64 o0aa.2.2.1, .int .i64 o0aa.2.2.2, .map (some m0aah), .slice none 0 0, .slice none 0 0, .map (some m0aak)] :: Cl p0aaa 134 [.int .i64 o0aaa.1, .map (some m0aaab), .pointer (some ⟨p0aaac, 0, none⟩), .int .i64 o0aaa.2.1, .int .u64 o0aaa.2.2.1, .int .i64 o0aaa.2.2.2] :: Mp E64 m0aaab q0aaab :: Cl p0aaac 83 [.int .i64 o0aaac.1, .map (some m0aaacb), .slice A0aaacc q0aaacc.length c0aaacc, .bool o0aaac.2.1, .int .i64 o0aaac.2.2.1, .int .i64 o0aaac.2.2.2.1, .int .u64 o0aaac.2.2.2.2.1, .int .i64 o0aaac.2.2.2.2.2.1, .int .i64 o0aaac.2.2.2.2.2.2] :: Mp (Elt.slice E8) m0aaacb q0aaacb :: Bf (Elt.pair E64 (Elt.slice E8)) 158 A0aaacc c0aaacc q0aaacc :: Mp E64 m0aah q0aah :: Mp E64 m0aak q0aak :: Bf (Elt.pair (Elt.pair E64 (Elt.pair (Elt.slice E8) (Elt.slice E8))) EBool) 102 A0b c0b q0b :: hs) w' := by
 unfold draft_Draft_last.impl at hr
 refine calls_T Try.func42 rfl rfl rfl hS ?_
 refine T.front i2 h2 ?_
 refine T.seq ?_
 refine T.region ?_
 refine T.allocS .list rfl (wants0 rfl) rfl (cs := [.int .i64 0, .slice none 0 0, .slice none 0 0, .bool false]) rfl (fun b1 => ?_)
 refine T.assign .list rfl (wants0 rfl) rfl rfl ?_
 refine T.nil ?_
 refine T.then_normal ?_
 refine T.seqJ (fun (s1 : Unit) (x1 : Unit) => [(6, .pointer (some ⟨b1, 0, none⟩))]) (fun s1 x1 => Cl b1 102 [.int .i64 0, .slice none 0 0, .slice none 0 0, .bool false] :: Cl p0 99 [.pointer (some ⟨p0a, 0, none⟩), .slice A0b q0b.length c0b] :: Cl p0a 89 [.pointer (some ⟨p0aa, 0, none⟩), .int .i64 o0a.1, .int .i64 o0a.2.1, .int .i64 o0a.2.2.1, .int .i64 o0a.2.2.2.1, .int .i64 o0a.2.2.2.2.1, .int .i64 o0a.2.2.2.2.2.1, .int .i64 o0a.2.2.2.2.2.2.1, .int .i64 o0a.2.2.2.2.2.2.2.1, .int .i64 o0a.2.2.2.2.2.2.2.2.1, .int .i64 o0a.2.2.2.2.2.2.2.2.2.1, .int .i64 o0a.2.2.2.2.2.2.2.2.2.2.1, .int .i64 o0a.2.2.2.2.2.2.2.2.2.2.2.1, .int .i64 o0a.2.2.2.2.2.2.2.2.2.2.2.2.1, .int .i64 o0a.2.2.2.2.2.2.2.2.2.2.2.2.2.1, .int .i64 o0a.2.2.2.2.2.2.2.2.2.2.2.2.2.2.1, .int .i64 o0a.2.2.2.2.2.2.2.2.2.2.2.2.2.2.2.1, .int .i64 o0a.2.2.2.2.2.2.2.2.2.2.2.2.2.2.2.2] :: Cl p0aa 115 [.pointer (some ⟨p0aaa, 0, none⟩), .nilIface, .int .i64 o0aa.1, .int .i64 o0aa.2.1, .nilIface, .int .i64 o0aa.2.2.1, .int .i64 o0aa.2.2.2, .map (some m0aah), .slice none 0 0, .slice none 0 0, .map (some m0aak)] :: Cl p0aaa 134 [.int .i64 o0aaa.1, .map (some m0aaab), .pointer (some ⟨p0aaac, 0, none⟩), .int .i64 o0aaa.2.1, .int .u64 o0aaa.2.2.1, .int .i64 o0aaa.2.2.2] :: Mp E64 m0aaab q0aaab :: Cl p0aaac 83 [.int .i64 o0aaac.1, .map (some m0aaacb), .slice A0aaacc q0aaacc.length c0aaacc, .bool o0aaac.2.1, .int .i64 o0aaac.2.2.1, .int .i64 o0aaac.2.2.2.1, .int .u64 o0aaac.2.2.2.2.1, .int .i64 o0aaac.2.2.2.2.2.1, .int .i64 o0aaac.2.2.2.2.2.2] :: Mp (Elt.slice E8) m0aaacb q0aaacb :: Bf (Elt.pair E64 (Elt.slice E8)) 158 A0aaacc c0aaacc q0aaacc :: Mp E64 m0aah q0aah :: Mp E64 m0aak q0aak :: Bf (Elt.pair (Elt.pair E64 (Elt.pair (Elt.slice E8) (Elt.slice E8))) EBool) 102 A0b c0b q0b :: hs) (fun s1 => draft_Draft_last.k1 s1 = some r) (fun s1 x1 hk1 => ?_) (fun J1 => ?_)
 ·unfold draft_Draft_last.k1 at hk1
  refine T.seq ?_
  refine T.region ?_
  refine T.build .list (vals := []) (cells := #[.int .i64 0, .slice none 0 0, .slice none 0 0, .bool false]) rfl (wants0 rfl) rfl rfl (run_buildStruct (sizes := [3, 1]) (by kernel_rfl) (by kernel_rfl)) ?_
  refine T.store .list 0 rfl rfl (wants0 rfl) rfl rfl rfl rfl (Nat.le_of_ble_eq_true rfl) rfl (cs' := [.int .i64 0, .slice none 0 0, .slice none 0 0, .bool false]) rfl rfl ?_
  refine T.assign .list rfl (wants0 rfl) rfl rfl ?_
  refine T.nil ?_
  refine T.then_normal ?_
  refine T.ret ?_
  obtain rfl := inv_some hk1
  refine T.nilRo E8 none 0 ?_
  refine T.nilRo E8 none 0 ?_
  refine T.out2 rfl (OutRun.cellN 2 rfl rfl (vs := [.int .i64 0, .slice none 0 0, .slice none 0 0, .bool false]) rfl rfl) (OutRun.tmp rfl) (fun w hS => ⟨((none, 0), (none, 0)), rfl, hS.pick [1, 0, 3, 4, 5, 6, 7, 8, 9, 10, 11, 12, 13] 14 rfl rfl (Nat.le_add_left _ _) rfl⟩)
 ·refine T.seq ?_
  refine T.region ?_
  refine T.move .list rfl (wants0 rfl) rfl rfl ?_
  refine T.nilCheck .list rfl (wants0 rfl) rfl rfl ?_
  refine T.field .list rfl (wants0 rfl) rfl rfl ?_
  refine T.load .list 2 rfl rfl (wants0 rfl) rfl rfl rfl ?_
  refine T.lenSlice .list rfl (wants0 rfl) rfl rfl ?_
  refine T.bin .list rfl (wants0 rfl) rfl rfl rfl rfl ?_
  refine T.assign .list rfl (wants0 rfl) rfl rfl ?_
  refine T.nil ?_
  refine T.then_normal ?_
  refine T.block ?_
  obtain ⟨e1, hl1, hr⟩ := inv_bind hr
  refine T.le (EnvLe.cons rfl (EnvLe.cons rfl (EnvLe.cons rfl (EnvLe.cons rfl (EnvLe.cons rfl EnvLe.nil))))) (T.pick [2, 3, 4, 5, 6, 7, 8, 9, 10, 11, 12, 1, 0] 13 rfl rfl (Nat.le_add_left _ _) rfl (T.loop (s0 := IntKind.i64.wrap (((q0b.length : Int)) - 1)) (env := fun s2 x2 => [(0, .pointer (some ⟨p0, 0, none⟩)), (1, .int .i64 a1), (2, .slice A2 l2.length c2), (6, .pointer (some ⟨b1, 0, none⟩)), (8, .int .i64 s2)]) (hs := fun (s2 : Int) (x2 : Unit) => Cl p0 99 [.pointer (some ⟨p0a, 0, none⟩), .slice A0b q0b.length c0b] :: Cl p0a 89 [.pointer (some ⟨p0aa, 0, none⟩), .int .i64 o0a.1, .int .i64 o0a.2.1, .int .i64 o0a.2.2.1, .int .i64 o0a.2.2.2.1, .int .i64 o0a.2.2.2.2.1, .int .i64 o0a.2.2.2.2.2.1, .int .i64 o0a.2.2.2.2.2.2.1, .int .i64 o0a.2.2.2.2.2.2.2.1, .int .i64 o0a.2.2.2.2.2.2.2.2.1, .int .i64 o0a.2.2.2.2.2.2.2.2.2.1, .int .i64 o0a.2.2.2.2.2.2.2.2.2.2.1, .int .i64 o0a.2.2.2.2.2.2.2.2.2.2.2.1, .int .i64 o0a.2.2.2.2.2.2.2.2.2.2.2.2.1, .int .i64 o0a.2.2.2.2.2.2.2.2.2.2.2.2.2.1, .int .i64 o0a.2.2.2.2.2.2.2.2.2.2.2.2.2.2.1, .int .i64 o0a.2.2.2.2.2.2.2.2.2.2.2.2.2.2.2.1, .int .i64 o0a.2.2.2.2.2.2.2.2.2.2.2.2.2.2.2.2] :: Cl p0aa 115 [.pointer (some ⟨p0aaa, 0, none⟩), .nilIface, .int .i64 o0aa.1, .int .i64 o0aa.2.1, .nilIface, .int .i64 o0aa.2.2.1, .int .i64 o0aa.2.2.2, .map (some m0aah), .slice none 0 0, .slice none 0 0, .map (some m0aak)] :: Cl p0aaa 134 [.int .i64 o0aaa.1, .map (some m0aaab), .pointer (some ⟨p0aaac, 0, none⟩), .int .i64 o0aaa.2.1, .int .u64 o0aaa.2.2.1, .int .i64 o0aaa.2.2.2] :: Mp E64 m0aaab q0aaab :: Cl p0aaac 83 [.int .i64 o0aaac.1, .map (some m0aaacb), .slice A0aaacc q0aaacc.length c0aaacc, .bool o0aaac.2.1, .int .i64 o0aaac.2.2.1, .int .i64 o0aaac.2.2.2.1, .int .u64 o0aaac.2.2.2.2.1, .int .i64 o0aaac.2.2.2.2.2.1, .int .i64 o0aaac.2.2.2.2.2.2] :: Mp (Elt.slice E8) m0aaacb q0aaacb :: Bf (Elt.pair E64 (Elt.slice E8)) 158 A0aaacc c0aaacc q0aaacc :: Mp E64 m0aah q0aah :: Mp E64 m0aak q0aak :: Bf (Elt.pair (Elt.pair E64 (Elt.pair (Elt.slice E8) (Elt.slice E8))) EBool) 102 A0b c0b q0b :: Ro E8 A2 c2 l2 :: Cl b1 102 [.int .i64 0, .slice none 0 0, .slice none 0 0, .bool false] :: hs) hl1 () (fun K1 s2 x2 o1 he1 hm1 hx1 => ?_)))
  unfold draft_Draft_last.st1 at he1
  refine T.seq ?_
  refine T.seq ?_
  refine T.region ?_
  refine T.move .list rfl (wants0 rfl) rfl rfl ?_
  refine T.bin .list rfl (wants0 rfl) rfl rfl rfl rfl ?_
  refine T.nil ?_
  refine T.then_normal ?_
  refine T.cond rfl (fun hb1 => ?_) (fun hb1 => ?_)
  ·replace he1 := inv_posB hb1 he1
   refine T.skip ?_
   refine T.then_normal ?_
   refine T.seq ?_
   refine T.block ?_
   refine T.seqJ (fun (s3 : Bool) (x3 : Unit) => [(0, .pointer (some ⟨p0, 0, none⟩)), (1, .int .i64 a1), (2, .slice A2 l2.length c2), (6, .pointer (some ⟨b1, 0, none⟩)), (8, .int .i64 s2), (42, .bool s3)]) (fun s3 x3 => Cl p0 99 [.pointer (some ⟨p0a, 0, none⟩), .slice A0b q0b.length c0b] :: Cl p0a 89 [.pointer (some ⟨p0aa, 0, none⟩), .int .i64 o0a.1, .int .i64 o0a.2.1, .int .i64 o0a.2.2.1, .int .i64 o0a.2.2.2.1, .int .i64 o0a.2.2.2.2.1, .int .i64 o0a.2.2.2.2.2.1, .int .i64 o0a.2.2.2.2.2.2.1, .int .i64 o0a.2.2.2.2.2.2.2.1, .int .i64 o0a.2.2.2.2.2.2.2.2.1, .int .i64 o0a.2.2.2.2.2.2.2.2.2.1, .int .i64 o0a.2.2.2.2.2.2.2.2.2.2.1, .int .i64 o0a.2.2.2.2.2.2.2.2.2.2.2.1, .int .i64 o0a.2.2.2.2.2.2.2.2.2.2.2.2.1, .int .i64 o0a.2.2.2.2.2.2.2.2.2.2.2.2.2.1, .int .i64 o0a.2.2.2.2.2.2.2.2.2.2.2.2.2.2.1, .int .i64 o0a.2.2.2.2.2.2.2.2.2.2.2.2.2.2.2.1, .int .i64 o0a.2.2.2.2.2.2.2.2.2.2.2.2.2.2.2.2] :: Cl p0aa 115 [.pointer (some ⟨p0aaa, 0, none⟩), .nilIface, .int .i64 o0aa.1, .int .i64 o0aa.2.1, .nilIface, .int .i64 o0aa.2.2.1, .int .i64 o0aa.2.2.2, .map (some m0aah), .slice none 0 0, .slice none 0 0, .map (some m0aak)] :: Cl p0aaa 134 [.int .i64 o0aaa.1, .map (some m0aaab), .pointer (some ⟨p0aaac, 0, none⟩), .int .i64 o0aaa.2.1, .int .u64 o0aaa.2.2.1, .int .i64 o0aaa.2.2.2] :: Mp E64 m0aaab q0aaab :: Cl p0aaac 83 [.int .i64 o0aaac.1, .map (some m0aaacb), .slice A0aaacc q0aaacc.length c0aaacc, .bool o0aaac.2.1, .int .i64 o0aaac.2.2.1, .int .i64 o0aaac.2.2.2.1, .int .u64 o0aaac.2.2.2.2.1, .int .i64 o0aaac.2.2.2.2.2.1, .int .i64 o0aaac.2.2.2.2.2.2] :: Mp (Elt.slice E8) m0aaacb q0aaacb :: Bf (Elt.pair E64 (Elt.slice E8)) 158 A0aaacc c0aaacc q0aaacc :: Mp E64 m0aah q0aah :: Mp E64 m0aak q0aak :: Bf (Elt.pair (Elt.pair E64 (Elt.pair (Elt.slice E8) (Elt.slice E8))) EBool) 102 A0b c0b q0b :: Ro E8 A2 c2 l2 :: Cl b1 102 [.int .i64 0, .slice none 0 0, .slice none 0 0, .bool false] :: hs) (fun s3 => draft_Draft_last.k2 s2 q0b s3 = some o1) (fun s3 x3 hk2 => ?_) (fun J2 => ?_)
   ·unfold draft_Draft_last.k2 at hk2
    refine T.cond rfl (fun hb2 => ?_) (fun hb2 => ?_)
    ·replace hk2 := inv_posB hb2 hk2
     refine T.seq ?_
     refine T.region ?_
     refine T.move .list rfl (wants0 rfl) rfl rfl ?_
     refine T.nilCheck .list rfl (wants0 rfl) rfl rfl ?_
     refine T.field .list rfl (wants0 rfl) rfl rfl ?_
     refine T.load .list 0 rfl rfl (wants0 rfl) rfl rfl rfl ?_
     refine T.move .list rfl (wants0 rfl) rfl rfl ?_
     obtain ⟨hc1, hk2⟩ := inv_chk hk2
     refine T.idxBf .list 10 rfl rfl (wants0 rfl) rfl rfl rfl hc1.1 hc1.2 (Nat.le_refl _) ?_
     refine T.ldFBf 10 .list Fd.self (Sh.pair (Sh.pair Sh.sc (Sh.pair Sh.slice Sh.slice)) Sh.sc) rfl (.inl rfl) rfl rfl hc1.1 hc1.2 rfl (wants0 rfl) rfl rfl rfl (v := fun x4 => .agg #[.int .i64 ((((((q0b).getD (s2 : Int).toNat default)).1).1)), .slice x4.1.2.1.1 (((((((q0b).getD (s2 : Int).toNat default)).1).2.1)).length) x4.1.2.1.2, .slice x4.1.2.2.1 (((((((q0b).getD (s2 : Int).toNat default)).1).2.2)).length) x4.1.2.2.2, .bool (((((q0b).getD (s2 : Int).toNat default)).2))]) (hs' := fun x4 => Ro E8 x4.1.2.1.1 x4.1.2.1.2 ((((((q0b).getD (s2 : Int).toNat default)).1).2.1)) :: Ro E8 x4.1.2.2.1 x4.1.2.2.2 ((((((q0b).getD (s2 : Int).toNat default)).1).2.2)) :: Cl p0 99 [.pointer (some ⟨p0a, 0, none⟩), .slice A0b q0b.length c0b] :: Cl p0a 89 [.pointer (some ⟨p0aa, 0, none⟩), .int .i64 o0a.1, .int .i64 o0a.2.1, .int .i64 o0a.2.2.1, .int .i64 o0a.2.2.2.1, .int .i64 o0a.2.2.2.2.1, .int .i64 o0a.2.2.2.2.2.1, .int .i64 o0a.2.2.2.2.2.2.1, .int .i64 o0a.2.2.2.2.2.2.2.1, .int .i64 o0a.2.2.2.2.2.2.2.2.1, .int .i64 o0a.2.2.2.2.2.2.2.2.2.1, .int .i64 o0a.2.2.2.2.2.2.2.2.2.2.1, .int .i64 o0a.2.2.2.2.2.2.2.2.2.2.2.1, .int .i64 o0a.2.2.2.2.2.2.2.2.2.2.2.2.1, .int .i64 o0a.2.2.2.2.2.2.2.2.2.2.2.2.2.1, .int .i64 o0a.2.2.2.2.2.2.2.2.2.2.2.2.2.2.1, .int .i64 o0a.2.2.2.2.2.2.2.2.2.2.2.2.2.2.2.1, .int .i64 o0a.2.2.2.2.2.2.2.2.2.2.2.2.2.2.2.2] :: Cl p0aa 115 [.pointer (some ⟨p0aaa, 0, none⟩), .nilIface, .int .i64 o0aa.1, .int .i64 o0aa.2.1, .nilIface, .int .i64 o0aa.2.2.1, .int .i64 o0aa.2.2.2, .map (some m0aah), .slice none 0 0, .slice none 0 0, .map (some m0aak)] :: Cl p0aaa 134 [.int .i64 o0aaa.1, .map (some m0aaab), .pointer (some ⟨p0aaac, 0, none⟩), .int .i64 o0aaa.2.1, .int .u64 o0aaa.2.2.1, .int .i64 o0aaa.2.2.2] :: Mp E64 m0aaab q0aaab :: Cl p0aaac 83 [.int .i64 o0aaac.1, .map (some m0aaacb), .slice A0aaacc q0aaacc.length c0aaacc, .bool o0aaac.2.1, .int .i64 o0aaac.2.2.1, .int .i64 o0aaac.2.2.2.1, .int .u64 o0aaac.2.2.2.2.1, .int .i64 o0aaac.2.2.2.2.2.1, .int .i64 o0aaac.2.2.2.2.2.2] :: Mp (Elt.slice E8) m0aaacb q0aaacb :: Bf (Elt.pair E64 (Elt.slice E8)) 158 A0aaacc c0aaacc q0aaacc :: Mp E64 m0aah q0aah :: Mp E64 m0aak q0aak :: Bf (Elt.pair (Elt.pair E64 (Elt.pair (Elt.slice E8) (Elt.slice E8))) EBool) 102 A0b c0b q0b :: Ro E8 A2 c2 l2 :: Cl b1 102 [.int .i64 0, .slice none 0 0, .slice none 0 0, .bool false] :: hs) (fun _ => rfl) (fun _ => rfl) (fun x4 => ?_)
     refine T.store .list 14 rfl rfl (wants0 rfl) rfl rfl rfl rfl (Nat.le_of_ble_eq_true rfl) rfl (cs' := [.int .i64 ((((((q0b).getD (s2 : Int).toNat default)).1).1)), .slice x4.1.2.1.1 (((((((q0b).getD (s2 : Int).toNat default)).1).2.1)).length) x4.1.2.1.2, .slice x4.1.2.2.1 (((((((q0b).getD (s2 : Int).toNat default)).1).2.2)).length) x4.1.2.2.2, .bool (((((q0b).getD (s2 : Int).toNat default)).2))]) rfl rfl ?_
     refine T.assign .list rfl (wants0 rfl) rfl rfl ?_
     refine T.nil ?_
     refine T.then_normal ?_
     refine T.ret ?_
     refine T.in_ret ?_
     refine T.then_ret ?_
     refine T.then_ret ?_
     obtain rfl := inv_some hk2
     obtain rfl := hx1 _ rfl
     refine T.in_ret ?_
     refine T.then_ret ?_
     obtain rfl := inv_some hr
     refine T.out2 rfl (OutRun.cellN 14 rfl rfl (vs := [.int .i64 ((((((q0b).getD (s2 : Int).toNat default)).1).1)), .slice x4.1.2.1.1 (((((((q0b).getD (s2 : Int).toNat default)).1).2.1)).length) x4.1.2.1.2, .slice x4.1.2.2.1 (((((((q0b).getD (s2 : Int).toNat default)).1).2.2)).length) x4.1.2.2.2, .bool (((((q0b).getD (s2 : Int).toNat default)).2))]) rfl rfl) (OutRun.tmp rfl) (fun w hS => ⟨((x4.1.2.1.1, x4.1.2.1.2), (x4.1.2.2.1, x4.1.2.2.2)), rfl, hS.pick [0, 1, 2, 3, 4, 5, 6, 7, 8, 9, 10, 11, 12] 15 rfl rfl (Nat.le_add_left _ _) rfl⟩)
    ·replace hk2 := inv_negB hb2 hk2
     refine T.skip ?_
     refine T.in_normal ?_
     refine T.then_normal ?_
     refine T.region ?_
     refine T.move .list rfl (wants0 rfl) rfl rfl ?_
     refine T.bin .list rfl (wants0 rfl) rfl rfl rfl rfl ?_
     refine T.assign .list rfl (wants0 rfl) rfl rfl ?_
     refine T.nil ?_
     refine T.then_normal ?_
     obtain rfl := inv_some hk2
     exact T.le (EnvLe.cons rfl (EnvLe.cons rfl (EnvLe.cons rfl (EnvLe.cons rfl (EnvLe.cons rfl EnvLe.nil))))) (T.pick [0, 1, 2, 3, 4, 5, 6, 7, 8, 9, 10, 11, 12] 13 rfl rfl (Nat.le_add_left _ _) rfl (hm1 (IntKind.i64.wrap (s2 - 1)) rfl ()))
   ·refine T.region ?_
    refine T.move .list rfl (wants0 rfl) rfl rfl ?_
    refine T.nilCheck .list rfl (wants0 rfl) rfl rfl ?_
    refine T.field .list rfl (wants0 rfl) rfl rfl ?_
    refine T.load .list 0 rfl rfl (wants0 rfl) rfl rfl rfl ?_
    refine T.move .list rfl (wants0 rfl) rfl rfl ?_
    obtain ⟨hc2, he1⟩ := inv_chk he1
    refine T.idxBf .list 10 rfl rfl (wants0 rfl) rfl rfl rfl hc2.1 hc2.2 (Nat.le_refl _) ?_
    refine T.fieldBf .list 10 rfl hc2.1 hc2.2 rfl (wants0 rfl) rfl rfl ?_
    refine T.fieldBf .list 10 rfl hc2.1 hc2.2 rfl (wants0 rfl) rfl rfl ?_
    refine T.fldBf 10 .list (Fd.fst (Fd.fst Fd.self)) rfl rfl hc2.1 hc2.2 rfl (wants0 rfl) rfl rfl rfl ?_
    refine T.move .list rfl (wants0 rfl) rfl rfl ?_
    refine T.bin .list rfl (wants0 rfl) rfl rfl rfl rfl ?_
    refine T.move .list rfl (wants0 rfl) rfl rfl ?_
    refine T.bool (b := (decide ((((((((q0b).getD (s2 : Int).toNat default)).1).1))) = a1))) (fun hb3 => ?_) (fun hb3 => ?_)
    ·replace he1 := inv_posB hb3 he1
     refine T.move .list rfl (wants1 rfl rfl rfl hb3) rfl rfl ?_
     refine T.nilCheck .list rfl (wants1 rfl rfl rfl hb3) rfl rfl ?_
     refine T.field .list rfl (wants1 rfl rfl rfl hb3) rfl rfl ?_
     refine T.load .list 0 rfl rfl (wants1 rfl rfl rfl hb3) rfl rfl rfl ?_
     refine T.move .list rfl (wants1 rfl rfl rfl hb3) rfl rfl ?_
     obtain ⟨hc3, he1⟩ := inv_chk he1
     refine T.idxBf .list 10 rfl rfl (wants1 rfl rfl rfl hb3) rfl rfl rfl hc3.1 hc3.2 (Nat.le_refl _) ?_
     refine T.fieldBf .list 10 rfl hc3.1 hc3.2 rfl (wants1 rfl rfl rfl hb3) rfl rfl ?_
     refine T.fieldBf .list 10 rfl hc3.1 hc3.2 rfl (wants1 rfl rfl rfl hb3) rfl rfl ?_
     refine T.ldFBf 10 .list (Fd.fst (Fd.snd (Fd.fst Fd.self))) Sh.slice rfl (.inr rfl) rfl rfl hc3.1 hc3.2 rfl (wants1 rfl rfl rfl hb3) rfl rfl rfl (v := fun x5 => .slice x5.1 (((((((q0b).getD (s2 : Int).toNat default)).1).2.1)).length) x5.2) (hs' := fun x5 => Ro E8 x5.1 x5.2 ((((((q0b).getD (s2 : Int).toNat default)).1).2.1)) :: Cl p0 99 [.pointer (some ⟨p0a, 0, none⟩), .slice A0b q0b.length c0b] :: Cl p0a 89 [.pointer (some ⟨p0aa, 0, none⟩), .int .i64 o0a.1, .int .i64 o0a.2.1, .int .i64 o0a.2.2.1, .int .i64 o0a.2.2.2.1, .int .i64 o0a.2.2.2.2.1, .int .i64 o0a.2.2.2.2.2.1, .int .i64 o0a.2.2.2.2.2.2.1, .int .i64 o0a.2.2.2.2.2.2.2.1, .int .i64 o0a.2.2.2.2.2.2.2.2.1, .int .i64 o0a.2.2.2.2.2.2.2.2.2.1, .int .i64 o0a.2.2.2.2.2.2.2.2.2.2.1, .int .i64 o0a.2.2.2.2.2.2.2.2.2.2.2.1, .int .i64 o0a.2.2.2.2.2.2.2.2.2.2.2.2.1, .int .i64 o0a.2.2.2.2.2.2.2.2.2.2.2.2.2.1, .int .i64 o0a.2.2.2.2.2.2.2.2.2.2.2.2.2.2.1, .int .i64 o0a.2.2.2.2.2.2.2.2.2.2.2.2.2.2.2.1, .int .i64 o0a.2.2.2.2.2.2.2.2.2.2.2.2.2.2.2.2] :: Cl p0aa 115 [.pointer (some ⟨p0aaa, 0, none⟩), .nilIface, .int .i64 o0aa.1, .int .i64 o0aa.2.1, .nilIface, .int .i64 o0aa.2.2.1, .int .i64 o0aa.2.2.2, .map (some m0aah), .slice none 0 0, .slice none 0 0, .map (some m0aak)] :: Cl p0aaa 134 [.int .i64 o0aaa.1, .map (some m0aaab), .pointer (some ⟨p0aaac, 0, none⟩), .int .i64 o0aaa.2.1, .int .u64 o0aaa.2.2.1, .int .i64 o0aaa.2.2.2] :: Mp E64 m0aaab q0aaab :: Cl p0aaac 83 [.int .i64 o0aaac.1, .map (some m0aaacb), .slice A0aaacc q0aaacc.length c0aaacc, .bool o0aaac.2.1, .int .i64 o0aaac.2.2.1, .int .i64 o0aaac.2.2.2.1, .int .u64 o0aaac.2.2.2.2.1, .int .i64 o0aaac.2.2.2.2.2.1, .int .i64 o0aaac.2.2.2.2.2.2] :: Mp (Elt.slice E8) m0aaacb q0aaacb :: Bf (Elt.pair E64 (Elt.slice E8)) 158 A0aaacc c0aaacc q0aaacc :: Mp E64 m0aah q0aah :: Mp E64 m0aak q0aak :: Bf (Elt.pair (Elt.pair E64 (Elt.pair (Elt.slice E8) (Elt.slice E8))) EBool) 102 A0b c0b q0b :: Ro E8 A2 c2 l2 :: Cl b1 102 [.int .i64 0, .slice none 0 0, .slice none 0 0, .bool false] :: hs) (fun _ => rfl) (fun _ => rfl) (fun x5 => ?_)
     refine T.move .list rfl (wants1 rfl rfl rfl hb3) rfl rfl ?_
     obtain ⟨r1, hg1, he1⟩ := inv_bind he1
     refine T.call .list (wants1 rfl rfl rfl hb3) rfl (run_callF (vs := [_, _]) rfl Try.func58 rfl (by decide) rfl) (fun w hS => bytes_Equal.c hS (i0 := 0) (i1 := 12) rfl rfl hg1) (fun x6 => ?_)
     refine T.pickT .list rfl (wants0 rfl) rfl rfl hb3 rfl ?_
     refine T.nil ?_
     refine T.then_normal ?_
     exact T.le (EnvLe.cons rfl (EnvLe.cons rfl (EnvLe.cons rfl (EnvLe.cons rfl (EnvLe.cons rfl (EnvLe.cons rfl EnvLe.nil)))))) (T.pick [1, 2, 3, 4, 5, 6, 7, 8, 9, 10, 11, 12, 13] 14 rfl rfl (Nat.le_add_left _ _) rfl (J2 r1 () he1))
    ·replace he1 := inv_negB hb3 he1
     refine T.leave .list (wantsNot rfl rfl rfl hb3) rfl ?_
     refine T.leave .list (wantsNot rfl rfl rfl hb3) rfl ?_
     refine T.leave .list (wantsNot rfl rfl rfl hb3) rfl ?_
     refine T.leave .list (wantsNot rfl rfl rfl hb3) rfl ?_
     refine T.leave .list (wantsNot rfl rfl rfl hb3) rfl ?_
     refine T.leave .list (wantsNot rfl rfl rfl hb3) rfl ?_
     refine T.leave .list (wantsNot rfl rfl rfl hb3) rfl ?_
     refine T.leave .list (wantsNot rfl rfl rfl hb3) rfl ?_
     refine T.leave .list (wantsNot rfl rfl rfl hb3) rfl ?_
     refine T.leave .list (wantsNot rfl rfl rfl hb3) rfl ?_
     refine T.leave .list (wantsNot rfl rfl rfl hb3) rfl ?_
     refine T.pickF .list rfl (wants0 rfl) rfl rfl hb3 rfl ?_
     refine T.nil ?_
     refine T.then_normal ?_
     exact T.le (EnvLe.cons rfl (EnvLe.cons rfl (EnvLe.cons rfl (EnvLe.cons rfl (EnvLe.cons rfl (EnvLe.cons rfl EnvLe.nil)))))) (T.pick [0, 1, 2, 3, 4, 5, 6, 7, 8, 9, 10, 11, 12] 13 rfl rfl (Nat.le_add_left _ _) rfl (J2 false () he1))
  ·replace he1 := inv_negB hb1 he1
   refine T.exit ?_
   refine T.then_exit ?_
   refine T.then_exit ?_
   obtain rfl := inv_some he1
   obtain rfl := hx1 _ rfl
   refine T.in_hit ?_
   refine T.then_normal ?_
   exact T.le (EnvLe.cons rfl EnvLe.nil) (T.pick [12, 0, 1, 2, 3, 4, 5, 6, 7, 8, 9, 10] 13 rfl rfl (Nat.le_add_left _ _) rfl (J1 () () hr))

noncomputable def draft_Draft_Get.impl (o0a : Int × Int × Int × Int × Int × Int × Int × Int × Int × Int × Int × Int × Int × Int × Int × Int × Int) (o0aa : Int × Int × Int × Int) (o0aaa : Int × Int × Int × Int) (q0aaab : List (Int × Int)) (o0aaac : Int × Bool × Int × Int × Int × Int × Int) (q0aaacb : List (Int × (List UInt8))) (q0aaacc : List (Int × (List UInt8))) (q0aah : List (Int × Int)) (q0aak : List (Int × Int)) (q0b : List ((Int × (List UInt8) × (List UInt8)) × Bool)) (a1 : Int) (l2 : List UInt8) : Option (List UInt8 × Bool × Int) :=
  (local_Store_Get.impl ((o0a.1, o0a.2.1, o0a.2.2.1, o0a.2.2.2.1, o0a.2.2.2.2.1, o0a.2.2.2.2.2.1, o0a.2.2.2.2.2.2.1, o0a.2.2.2.2.2.2.2.1, o0a.2.2.2.2.2.2.2.2.1, o0a.2.2.2.2.2.2.2.2.2.1, o0a.2.2.2.2.2.2.2.2.2.2.1, o0a.2.2.2.2.2.2.2.2.2.2.2.1, o0a.2.2.2.2.2.2.2.2.2.2.2.2.1, o0a.2.2.2.2.2.2.2.2.2.2.2.2.2.1, o0a.2.2.2.2.2.2.2.2.2.2.2.2.2.2.1, o0a.2.2.2.2.2.2.2.2.2.2.2.2.2.2.2.1, o0a.2.2.2.2.2.2.2.2.2.2.2.2.2.2.2.2)) ((o0aa.1, o0aa.2.1, o0aa.2.2.1, o0aa.2.2.2)) ((o0aaa.1, o0aaa.2.1, o0aaa.2.2.1, o0aaa.2.2.2)) q0aaab ((o0aaac.1, o0aaac.2.1, o0aaac.2.2.1, o0aaac.2.2.2.1, o0aaac.2.2.2.2.1, o0aaac.2.2.2.2.2.1, o0aaac.2.2.2.2.2.2)) q0aaacb q0aaacc q0aah q0aak a1 l2).bind fun r1 => (if ((!(decide (r1.2.2 = 0)))) = true then some (([] : List UInt8), false, r1.2.2) else (draft_Draft_last.impl ((o0a.1, o0a.2.1, o0a.2.2.1, o0a.2.2.2.1, o0a.2.2.2.2.1, o0a.2.2.2.2.2.1, o0a.2.2.2.2.2.2.1, o0a.2.2.2.2.2.2.2.1, o0a.2.2.2.2.2.2.2.2.1, o0a.2.2.2.2.2.2.2.2.2.1, o0a.2.2.2.2.2.2.2.2.2.2.1, o0a.2.2.2.2.2.2.2.2.2.2.2.1, o0a.2.2.2.2.2.2.2.2.2.2.2.2.1, o0a.2.2.2.2.2.2.2.2.2.2.2.2.2.1, o0a.2.2.2.2.2.2.2.2.2.2.2.2.2.2.1, o0a.2.2.2.2.2.2.2.2.2.2.2.2.2.2.2.1, o0a.2.2.2.2.2.2.2.2.2.2.2.2.2.2.2.2)) ((o0aa.1, o0aa.2.1, o0aa.2.2.1, o0aa.2.2.2)) ((o0aaa.1, o0aaa.2.1, o0aaa.2.2.1, o0aaa.2.2.2)) q0aaab ((o0aaac.1, o0aaac.2.1, o0aaac.2.2.1, o0aaac.2.2.2.1, o0aaac.2.2.2.2.1, o0aaac.2.2.2.2.2.1, o0aaac.2.2.2.2.2.2)) q0aaacb q0aaacc q0aah q0aak q0b a1 l2).bind fun r2 => (if r2.2 = true then (slices_Clone.impl r2.1.1.2.2).bind fun r3 => some (r3, (!r2.1.2), 0) else some (([] : List UInt8), r1.2.1, 0)))
set_option maxRecDepth 100000 in
set_option maxHeartbeats 4000000 in
theorem draft_Draft_Get.c {B : World} {hs : List MP} {w : World} {p0 : Nat} {p0a : Nat} {o0a : Int × Int × Int × Int × Int × Int × Int × Int × Int × Int × Int × Int × Int × Int × Int × Int × Int} {p0aa : Nat} {o0aa : Int × Int × Int × Int} {p0aaa : Nat} {o0aaa : Int × Int × Int × Int} {m0aaab : Nat} {q0aaab : List (Int × Int)} {p0aaac : Nat} {o0aaac : Int × Bool × Int × Int × Int × Int × Int} {m0aaacb : Nat} {q0aaacb : List (Int × (List UInt8))} {c0aaacc : Nat} {A0aaacc : Option Addr} {q0aaacc : List (Int × (List UInt8))} {m0aah : Nat} {q0aah : List (Int × Int)} {m0aak : Nat} {q0aak : List (Int × Int)} {c0b : Nat} {A0b : Option Addr} {q0b : List ((Int × (List UInt8) × (List UInt8)) × Bool)} {a1 : Int} {i2 c2 : Nat} {A2 : Option Addr} {l2 : List UInt8} (hS : St B (Cl p0 99 [.pointer (some ⟨p0a, 0, none⟩), .slice A0b q0b.length c0b] :: Cl p0a 89 [.pointer (some ⟨p0aa, 0, none⟩), .int .i64 o0a.1, .int .i64 o0a.2.1, .int .i64 o0a.2.2.1, .int .i64 o0a.2.2.2.1, .int .i64 o0a.2.2.2.2.1, .int .i64 o0a.2.2.2.2.2.1, .int .i64 o0a.2.2.2.2.2.2.1, .int .i64 o0a.2.2.2.2.2.2.2.1, .int .i64 o0a.2.2.2.2.2.2.2.2.1, .int .i64 o0a.2.2.2.2.2.2.2.2.2.1, .int .i64 o0a.2.2.2.2.2.2.2.2.2.2.1, .int .i64 o0a.2.2.2.2.2.2.2.2.2.2.2.1, .int .i64 o0a.2.2.2.2.2.2.2.2.2.2.2.2.1, .int .i64 o0a.2.2.2.2.2.2.2.2.2.2.2.2.2.1, .int .i64 o0a.2.2.2.2.2.2.2.2.2.2.2.2.2.2.1, .int .i64 o0a.2.2.2.2.2.2.2.2.2.2.2.2.2.2.2.1, .int .i64 o0a.2.2.2.2.2.2.2.2.2.2.2.2.2.2.2.2] :: Cl p0aa 115 [.pointer (some ⟨p0aaa, 0, none⟩), .nilIface, .int .i64 o0aa.1, .int .i64 o0aa.2.1, .nilIface, .int .i64 o0aa.2.2.1, .int .i64 o0aa.2.2.2, .map (some m0aah), .slice none 0 0, .slice none 0 0, .map (some m0aak)] :: Cl p0aaa 134 [.int .i64 o0aaa.1, .map (some m0aaab), .pointer (some ⟨p0aaac, 0, none⟩), .int .i64 o0aaa.2.1, .int .u64 o0aaa.2.2.1, .int .i64 o0aaa.2.2.2] :: Mp E64 m0aaab q0aaab :: Cl p0aaac 83 [.int .i64 o0aaac.1, .map (some m0aaacb), .slice A0aaacc q0aaacc.length c0aaacc, .bool o0aaac.2.1, .int .i64 o0aaac.2.2.1, .int .i64 o0aaac.2.2.2.1, .int .u64 o0aaac.2.2.2.2.1, .int .i64 o0aaac.2.2.2.2.2.1, .int .i64 o0aaac.2.2.2.2.2.2] :: Mp (Elt.slice E8) m0aaacb q0aaacb :: Bf (Elt.pair E64 (Elt.slice E8)) 158 A0aaacc c0aaacc q0aaacc :: Mp E64 m0aah q0aah :: Mp E64 m0aak q0aak :: Bf (Elt.pair (Elt.pair E64 (Elt.pair (Elt.slice E8) (Elt.slice E8))) EBool) 102 A0b c0b q0b :: hs) w) (h2 : (Cl p0 99 [.pointer (some ⟨p0a, 0, none⟩), .slice A0b q0b.length c0b] :: Cl p0a 89 [.pointer (some ⟨p0aa, 0, none⟩), .int .i64 o0a.1, .int .i64 o0a.2.1, .int .i64 o0a.2.2.1, .int .i64 o0a.2.2.2.1, .int .i64 o0a.2.2.2.2.1, .int .i64 o0a.2.2.2.2.2.1, .int .i64 o0a.2.2.2.2.2.2.1, .int .i64 o0a.2.2.2.2.2.2.2.1, .int .i64 o0a.2.2.2.2.2.2.2.2.1, .int .i64 o0a.2.2.2.2.2.2.2.2.2.1, .int .i64 o0a.2.2.2.2.2.2.2.2.2.2.1, .int .i64 o0a.2.2.2.2.2.2.2.2.2.2.2.1, .int .i64 o0a.2.2.2.2.2.2.2.2.2.2.2.2.1, .int .i64 o0a.2.2.2.2.2.2.2.2.2.2.2.2.2.1, .int .i64 o0a.2.2.2.2.2.2.2.2.2.2.2.2.2.2.1, .int .i64 o0a.2.2.2.2.2.2.2.2.2.2.2.2.2.2.2.1, .int .i64 o0a.2.2.2.2.2.2.2.2.2.2.2.2.2.2.2.2] :: Cl p0aa 115 [.pointer (some ⟨p0aaa, 0, none⟩), .nilIface, .int .i64 o0aa.1, .int .i64 o0aa.2.1, .nilIface, .int .i64 o0aa.2.2.1, .int .i64 o0aa.2.2.2, .map (some m0aah), .slice none 0 0, .slice none 0 0, .map (some m0aak)] :: Cl p0aaa 134 [.int .i64 o0aaa.1, .map (some m0aaab), .pointer (some ⟨p0aaac, 0, none⟩), .int .i64 o0aaa.2.1, .int .u64 o0aaa.2.2.1, .int .i64 o0aaa.2.2.2] :: Mp E64 m0aaab q0aaab :: Cl p0aaac 83 [.int .i64 o0aaac.1, .map (some m0aaacb), .slice A0aaacc q0aaacc.length c0aaacc, .bool o0aaac.2.1, .int .i64 o0aaac.2.2.1, .int .i64 o0aaac.2.2.2.1, .int .u64 o0aaac.2.2.2.2.1, .int .i64 o0aaac.2.2.2.2.2.1, .int .i64 o0aaac.2.2.2.2.2.2] :: Mp (Elt.slice E8) m0aaacb q0aaacb :: Bf (Elt.pair E64 (Elt.slice E8)) 158 A0aaacc c0aaacc q0aaacc :: Mp E64 m0aah q0aah :: Mp E64 m0aak q0aak :: Bf (Elt.pair (Elt.pair E64 (Elt.pair (Elt.slice E8) (Elt.slice E8))) EBool) 102 A0b c0b q0b :: hs)[i2]? = some (Ro E8 A2 c2 l2)) {r : List UInt8 × Bool × Int} (hr : draft_Draft_Get.impl o0a o0aa o0aaa q0aaab o0aaac q0aaacb q0aaacc q0aah q0aak q0b a1 l2 = some r) :
    Calls Try.prog 31 #[.pointer (some ⟨p0, 0, none⟩), .int .i64 a1, .slice A2 l2.length c2] w fun e w' => ∃ x : (Option Addr × Nat), e = .returned (.tuple #[.slice x.1 r.1.length x.2, .bool r.2.1, .int .i64 r.2.2]) ∧ St B (Bf E8 5 x.1 x.2 r.1 :: Cl p0 99 [.pointer (some ⟨p0a, 0, none⟩), .slice A0b q0b.length c0b] :: Cl p0a 89 [.pointer (some ⟨p0aa, 0, none⟩), .int .i64 o0a.1, .int .i64 o0a.2.1, .int .i64 o0a.2.2.1, .int .i64 o0a.2.2.2.1, .int .i64 o0a.2.2.2.2.1, .int .i64 o0a.2.2.2.2.2.1, .int .i64 o0a.2.2.2.2.2.2.1, .int .i64 o0a.2.2.2.2.2.2.2.1, .int .i64 o0a.2.2.2.2.2.2.2.2.1, .int .i64 o0a.2.2.2.2.2.2.2.2.2.1, .int .i64 o0a.2.2.2.2.2.2.2.2.2.2.1, .int .i64 o0a.2.2.2.2.2.2.2.2.2.2.2.1, .int .i64 o0a.2.2.2.2.2.2.2.2.2.2.2.2.1, .int .i64 o0a.2.2.2.2.2.2.2.2.2.2.2.2.2.1, .int .i64 o0a.2.2.2.2.2.2.2.2.2.2.2.2.2.2.1, .int .i64 o0a.2.2.2.2.2.2.2.2.2.2.2.2.2.2.2.1, .int .i64 o0a.2.2.2.2.2.2.2.2.2.2.2.2.2.2.2.2] :: Cl p0aa 115 [.pointer (some ⟨p0aaa, 0, none⟩), .nilIface, .int .i64 o0aa.1, .int .i64 o0aa.2.1, .nilIface, .int .i64 o0aa.2.2.1, .int .i64 o0aa.2.2.2, .map (some m0aah), .slice none 0 0, .slice none 0 0, .map (some m0aak)] :: Cl p0aaa 134 [.int .i64 o0aaa.1, .map (some m0aaab), .pointer (some ⟨p0aaac, 0, none⟩), .int .i64 o0aaa.2.1, .int .u64 o0aaa.2.2.1, .int .i64 o0aaa.2.2.2] :: Mp E64 m0aaab q0aaab :: Cl p0aaac 83 [.int .i64 o0aaac.1, .map (some m0aaacb), .slice A0aaacc q0aaacc.length c0aaacc, .bool o0aaac.2.1, .int .i64 o0aaac.2.2.1, .int .i64 o0aaac.2.2.2.1, .int .u64 o0aaac.2.2.2.2.1, .int .i64 o0aaac.2.2.2.2.2.1, .int .i64 o0aaac.2.2.2.2.2.2] :: Mp (Elt.slice E8) m0aaacb q0aaacb :: Bf (Elt.pair E64 (Elt.slice E8)) 158 A0aaacc c0aaacc q0aaacc :: Mp E64 m0aah q0aah :: Mp E64 m0aak q0aak :: Bf (Elt.pair (Elt.pair E64 (Elt.pair (Elt.slice E8) (Elt.slice E8))) EBool) 102 A0b c0b q0b :: hs) w' := by
 unfold draft_Draft_Get.impl at hr
 refine calls_T Try.func31 rfl rfl rfl hS ?_
 refine T.front i2 h2 ?_
 refine T.seq ?_
 refine T.region ?_
 refine T.assign .list rfl (wants0 rfl) rfl rfl ?_
 refine T.assign .list rfl (wants0 rfl) rfl rfl ?_
 refine T.assign .list rfl (wants0 rfl) rfl rfl ?_
 refine T.nil ?_
 refine T.then_normal ?_
 refine T.seq ?_
 refine T.region ?_
 refine T.move .list rfl (wants0 rfl) rfl rfl ?_
 refine T.nilCheck .list rfl (wants0 rfl) rfl rfl ?_
 refine T.field .list rfl (wants0 rfl) rfl rfl ?_
 refine T.load .list 1 rfl rfl (wants0 rfl) rfl rfl rfl ?_
 refine T.move .list rfl (wants0 rfl) rfl rfl ?_
 refine T.move .list rfl (wants0 rfl) rfl rfl ?_
 refine T.pick [2, 3, 4, 5, 6, 7, 8, 9, 10, 0, 1, 11] 12 rfl rfl (Nat.le_add_left _ _) (hs' := Cl p0a 89 [.pointer (some ⟨p0aa, 0, none⟩), .int .i64 o0a.1, .int .i64 o0a.2.1, .int .i64 o0a.2.2.1, .int .i64 o0a.2.2.2.1, .int .i64 o0a.2.2.2.2.1, .int .i64 o0a.2.2.2.2.2.1, .int .i64 o0a.2.2.2.2.2.2.1, .int .i64 o0a.2.2.2.2.2.2.2.1, .int .i64 o0a.2.2.2.2.2.2.2.2.1, .int .i64 o0a.2.2.2.2.2.2.2.2.2.1, .int .i64 o0a.2.2.2.2.2.2.2.2.2.2.1, .int .i64 o0a.2.2.2.2.2.2.2.2.2.2.2.1, .int .i64 o0a.2.2.2.2.2.2.2.2.2.2.2.2.1, .int .i64 o0a.2.2.2.2.2.2.2.2.2.2.2.2.2.1, .int .i64 o0a.2.2.2.2.2.2.2.2.2.2.2.2.2.2.1, .int .i64 o0a.2.2.2.2.2.2.2.2.2.2.2.2.2.2.2.1, .int .i64 o0a.2.2.2.2.2.2.2.2.2.2.2.2.2.2.2.2] :: Cl p0aa 115 [.pointer (some ⟨p0aaa, 0, none⟩), .nilIface, .int .i64 o0aa.1, .int .i64 o0aa.2.1, .nilIface, .int .i64 o0aa.2.2.1, .int .i64 o0aa.2.2.2, .map (some m0aah), .slice none 0 0, .slice none 0 0, .map (some m0aak)] :: Cl p0aaa 134 [.int .i64 o0aaa.1, .map (some m0aaab), .pointer (some ⟨p0aaac, 0, none⟩), .int .i64 o0aaa.2.1, .int .u64 o0aaa.2.2.1, .int .i64 o0aaa.2.2.2] :: Mp E64 m0aaab q0aaab :: Cl p0aaac 83 [.int .i64 o0aaac.1, .map (some m0aaacb), .slice A0aaacc q0aaacc.length c0aaacc, .bool o0aaac.2.1, .int .i64 o0aaac.2.2.1, .int .i64 o0aaac.2.2.2.1, .int .u64 o0aaac.2.2.2.2.1, .int .i64 o0aaac.2.2.2.2.2.1, .int .i64 o0aaac.2.2.2.2.2.2] :: Mp (Elt.slice E8) m0aaacb q0aaacb :: Bf (Elt.pair E64 (Elt.slice E8)) 158 A0aaacc c0aaacc q0aaacc :: Mp E64 m0aah q0aah :: Mp E64 m0aak q0aak :: Ro E8 A2 c2 l2 :: Cl p0 99 [.pointer (some ⟨p0a, 0, none⟩), .slice A0b q0b.length c0b] :: Bf (Elt.pair (Elt.pair E64 (Elt.pair (Elt.slice E8) (Elt.slice E8))) EBool) 102 A0b c0b q0b :: hs) rfl ?_
 obtain ⟨r1, hg1, hr⟩ := inv_bind hr
 refine T.call .list (wants0 rfl) rfl (run_callF (vs := [_, _, _]) rfl Try.func41 rfl (by decide) rfl) (fun w hS => local_Store_Get.c hS (i2 := 9) (o0 := (o0a.1, o0a.2.1, o0a.2.2.1, o0a.2.2.2.1, o0a.2.2.2.2.1, o0a.2.2.2.2.2.1, o0a.2.2.2.2.2.2.1, o0a.2.2.2.2.2.2.2.1, o0a.2.2.2.2.2.2.2.2.1, o0a.2.2.2.2.2.2.2.2.2.1, o0a.2.2.2.2.2.2.2.2.2.2.1, o0a.2.2.2.2.2.2.2.2.2.2.2.1, o0a.2.2.2.2.2.2.2.2.2.2.2.2.1, o0a.2.2.2.2.2.2.2.2.2.2.2.2.2.1, o0a.2.2.2.2.2.2.2.2.2.2.2.2.2.2.1, o0a.2.2.2.2.2.2.2.2.2.2.2.2.2.2.2.1, o0a.2.2.2.2.2.2.2.2.2.2.2.2.2.2.2.2)) (o0a := (o0aa.1, o0aa.2.1, o0aa.2.2.1, o0aa.2.2.2)) (o0aa := (o0aaa.1, o0aaa.2.1, o0aaa.2.2.1, o0aaa.2.2.2)) (q0aab := q0aaab) (o0aac := (o0aaac.1, o0aaac.2.1, o0aaac.2.2.1, o0aaac.2.2.2.1, o0aaac.2.2.2.2.1, o0aaac.2.2.2.2.2.1, o0aaac.2.2.2.2.2.2)) (q0aacb := q0aaacb) (q0aacc := q0aaacc) (q0ah := q0aah) (q0ak := q0aak) rfl hg1) (fun x1 => ?_)
 refine T.move .list rfl (wants0 rfl) rfl rfl ?_
 refine T.extract .list rfl (wants0 rfl) rfl rfl rfl ?_
 refine T.extract .list rfl (wants0 rfl) rfl rfl rfl ?_
 refine T.extract .list rfl (wants0 rfl) rfl rfl rfl ?_
 refine T.assign .list rfl (wants0 rfl) rfl rfl ?_
 refine T.assign .list rfl (wants0 rfl) rfl rfl ?_
 refine T.assign .list rfl (wants0 rfl) rfl rfl ?_
 refine T.nil ?_
 refine T.then_normal ?_
 refine T.seq ?_
 refine T.seq ?_
 refine T.region ?_
 refine T.move .list rfl (wants0 rfl) rfl rfl ?_
 refine T.bin .list rfl (wants0 rfl) rfl rfl rfl rfl ?_
 refine T.nil ?_
 refine T.then_normal ?_
 refine T.cond rfl (fun hb1 => ?_) (fun hb1 => ?_)
 ·replace hr := inv_posB hb1 hr
  refine T.seq ?_
  refine T.region ?_
  refine T.move .list rfl (wants0 rfl) rfl rfl ?_
  refine T.assign .list rfl (wants0 rfl) rfl rfl ?_
  refine T.assign .list rfl (wants0 rfl) rfl rfl ?_
  refine T.assign .list rfl (wants0 rfl) rfl rfl ?_
  refine T.nil ?_
  refine T.then_normal ?_
  refine T.ret ?_
  refine T.then_ret ?_
  obtain rfl := inv_some hr
  refine T.nilBf E8 5 ?_
  refine T.pick [0, 11, 1, 2, 3, 4, 5, 6, 7, 8, 9, 12] 13 rfl rfl (Nat.le_add_left _ _) rfl ?_
  refine T.ret3 rfl rfl rfl rfl (fun w hS => ⟨(none, 0), rfl, hS⟩)
 ·replace hr := inv_negB hb1 hr
  refine T.skip ?_
  refine T.then_normal ?_
  refine T.seq ?_
  refine T.seq ?_
  refine T.region ?_
  refine T.move .list rfl (wants0 rfl) rfl rfl ?_
  refine T.move .list rfl (wants0 rfl) rfl rfl ?_
  refine T.move .list rfl (wants0 rfl) rfl rfl ?_
  refine T.pick [10, 0, 1, 2, 3, 4, 5, 6, 7, 8, 11, 9] 12 rfl rfl (Nat.le_add_left _ _) (hs' := Cl p0 99 [.pointer (some ⟨p0a, 0, none⟩), .slice A0b q0b.length c0b] :: Cl p0a 89 [.pointer (some ⟨p0aa, 0, none⟩), .int .i64 o0a.1, .int .i64 o0a.2.1, .int .i64 o0a.2.2.1, .int .i64 o0a.2.2.2.1, .int .i64 o0a.2.2.2.2.1, .int .i64 o0a.2.2.2.2.2.1, .int .i64 o0a.2.2.2.2.2.2.1, .int .i64 o0a.2.2.2.2.2.2.2.1, .int .i64 o0a.2.2.2.2.2.2.2.2.1, .int .i64 o0a.2.2.2.2.2.2.2.2.2.1, .int .i64 o0a.2.2.2.2.2.2.2.2.2.2.1, .int .i64 o0a.2.2.2.2.2.2.2.2.2.2.2.1, .int .i64 o0a.2.2.2.2.2.2.2.2.2.2.2.2.1, .int .i64 o0a.2.2.2.2.2.2.2.2.2.2.2.2.2.1, .int .i64 o0a.2.2.2.2.2.2.2.2.2.2.2.2.2.2.1, .int .i64 o0a.2.2.2.2.2.2.2.2.2.2.2.2.2.2.2.1, .int .i64 o0a.2.2.2.2.2.2.2.2.2.2.2.2.2.2.2.2] :: Cl p0aa 115 [.pointer (some ⟨p0aaa, 0, none⟩), .nilIface, .int .i64 o0aa.1, .int .i64 o0aa.2.1, .nilIface, .int .i64 o0aa.2.2.1, .int .i64 o0aa.2.2.2, .map (some m0aah), .slice none 0 0, .slice none 0 0, .map (some m0aak)] :: Cl p0aaa 134 [.int .i64 o0aaa.1, .map (some m0aaab), .pointer (some ⟨p0aaac, 0, none⟩), .int .i64 o0aaa.2.1, .int .u64 o0aaa.2.2.1, .int .i64 o0aaa.2.2.2] :: Mp E64 m0aaab q0aaab :: Cl p0aaac 83 [.int .i64 o0aaac.1, .map (some m0aaacb), .slice A0aaacc q0aaacc.length c0aaacc, .bool o0aaac.2.1, .int .i64 o0aaac.2.2.1, .int .i64 o0aaac.2.2.2.1, .int .u64 o0aaac.2.2.2.2.1, .int .i64 o0aaac.2.2.2.2.2.1, .int .i64 o0aaac.2.2.2.2.2.2] :: Mp (Elt.slice E8) m0aaacb q0aaacb :: Bf (Elt.pair E64 (Elt.slice E8)) 158 A0aaacc c0aaacc q0aaacc :: Mp E64 m0aah q0aah :: Mp E64 m0aak q0aak :: Bf (Elt.pair (Elt.pair E64 (Elt.pair (Elt.slice E8) (Elt.slice E8))) EBool) 102 A0b c0b q0b :: Ro E8 A2 c2 l2 :: hs) rfl ?_
  obtain ⟨r2, hg2, hr⟩ := inv_bind hr
  refine T.call .list (wants0 rfl) rfl (run_callF (vs := [_, _, _]) rfl Try.func42 rfl (by decide) rfl) (fun w hS => draft_Draft_last.c hS (i2 := 11) (o0a := (o0a.1, o0a.2.1, o0a.2.2.1, o0a.2.2.2.1, o0a.2.2.2.2.1, o0a.2.2.2.2.2.1, o0a.2.2.2.2.2.2.1, o0a.2.2.2.2.2.2.2.1, o0a.2.2.2.2.2.2.2.2.1, o0a.2.2.2.2.2.2.2.2.2.1, o0a.2.2.2.2.2.2.2.2.2.2.1, o0a.2.2.2.2.2.2.2.2.2.2.2.1, o0a.2.2.2.2.2.2.2.2.2.2.2.2.1, o0a.2.2.2.2.2.2.2.2.2.2.2.2.2.1, o0a.2.2.2.2.2.2.2.2.2.2.2.2.2.2.1, o0a.2.2.2.2.2.2.2.2.2.2.2.2.2.2.2.1, o0a.2.2.2.2.2.2.2.2.2.2.2.2.2.2.2.2)) (o0aa := (o0aa.1, o0aa.2.1, o0aa.2.2.1, o0aa.2.2.2)) (o0aaa := (o0aaa.1, o0aaa.2.1, o0aaa.2.2.1, o0aaa.2.2.2)) (q0aaab := q0aaab) (o0aaac := (o0aaac.1, o0aaac.2.1, o0aaac.2.2.1, o0aaac.2.2.2.1, o0aaac.2.2.2.2.1, o0aaac.2.2.2.2.2.1, o0aaac.2.2.2.2.2.2)) (q0aaacb := q0aaacb) (q0aaacc := q0aaacc) (q0aah := q0aah) (q0aak := q0aak) (q0b := q0b) rfl hg2) (fun x2 => ?_)
  refine T.move .list rfl (wants0 rfl) rfl rfl ?_
  refine T.extract .list rfl (wants0 rfl) rfl rfl rfl ?_
  refine T.extract .list rfl (wants0 rfl) rfl rfl rfl ?_
  refine T.allocS .list rfl (wants0 rfl) rfl (cs := [.int .i64 0, .slice none 0 0, .slice none 0 0, .bool false]) rfl (fun b1 => ?_)
  refine T.store .list 0 rfl rfl (wants0 rfl) rfl rfl rfl rfl (Nat.le_of_ble_eq_true rfl) rfl (cs' := [.int .i64 r2.1.1.1, .slice x2.1.1 r2.1.1.2.1.length x2.1.2, .slice x2.2.1 r2.1.1.2.2.length x2.2.2, .bool r2.1.2]) rfl rfl ?_
  refine T.assign .list rfl (wants0 rfl) rfl rfl ?_
  refine T.nil ?_
  refine T.then_normal ?_
  refine T.seq ?_
  refine T.region ?_
  refine T.move .list rfl (wants0 rfl) rfl rfl ?_
  refine T.nil ?_
  refine T.then_normal ?_
  refine T.cond rfl (fun hb2 => ?_) (fun hb2 => ?_)
  ·replace hr := inv_posB hb2 hr
   refine T.seq ?_
   refine T.dStart mixed ?_
   refine T.field (.dPure (i := 0) rfl (by kernel_rfl) (fun d _ _ _ _ h => by cases d <;> exact h)) rfl (wants0 rfl) rfl rfl ?_
   refine T.field (.dPure (i := 1) rfl (by kernel_rfl) (fun d _ _ _ _ h => by cases d <;> exact h)) rfl (wants0 rfl) rfl rfl ?_
   refine T.field (.dPure (i := 4) rfl (by kernel_rfl) (fun d _ _ _ _ h => by cases d <;> exact h)) rfl (wants0 rfl) rfl rfl ?_
   refine T.dAdd 10 (fun w => w.heap[b1]? = some (.cells [.int .i64 r2.1.1.1, .slice x2.1.1 r2.1.1.2.1.length x2.1.2, .slice x2.2.1 r2.1.1.2.2.length x2.2.2, .bool r2.1.2].toArray 102 (0, 0))) (Cl.stays 0 rfl) ?_
   refine T.valS 0 (i := 2) (.slice x2.2.1 r2.1.1.2.2.length x2.2.2) rfl rfl (by kernel_rfl) (by kernel_rfl) (fun d _ _ _ _ h => by cases d <;> exact h) (wants0 rfl) rfl (run_ldCl rfl rfl rfl) ?_
   refine T.valS 0 (i := 5) (.bool r2.1.2) rfl rfl (by kernel_rfl) (by kernel_rfl) (fun d _ _ _ _ h => by cases d <;> exact h) (wants0 rfl) rfl (run_ldCl rfl rfl rfl) ?_
   refine T.not (.dPure (i := 6) rfl (by kernel_rfl) (fun d _ _ _ _ h => by cases d <;> exact h)) rfl (wants0 rfl) rfl rfl ?_
   obtain ⟨r3, hg3, hr⟩ := inv_bind hr
   refine T.dOnly (i := 3) (by kernel_rfl) ?_
   refine T.call (.dOne rfl (by kernel_rfl)) (wants0 rfl) rfl (run_callF (vs := [_]) rfl Try.func30 rfl (by decide) rfl) (fun w hS => slices_Clone.c hS (i0 := 2) rfl hg3) (fun x3 => ?_)
   refine T.dNext (phi_cons (.inr (Cl.stays 1 rfl)) phi_nil) ?_
   refine T.assign (.dPure (i := 7) rfl (by kernel_rfl) (fun d _ _ _ _ h => by cases d <;> exact h)) rfl (wants0 rfl) rfl rfl ?_
   refine T.assign (.dPure (i := 8) rfl (by kernel_rfl) (fun d _ _ _ _ h => by cases d <;> exact h)) rfl (wants0 rfl) rfl rfl ?_
   refine T.assign (.dPure (i := 9) rfl (by kernel_rfl) (fun d _ _ _ _ h => by cases d <;> exact h)) rfl (wants0 rfl) rfl rfl ?_
   refine T.dDone (by kernel_rfl) ?_
   refine T.then_normal ?_
   refine T.ret ?_
   refine T.then_ret ?_
   obtain rfl := inv_some hr
   refine T.pick [0, 4, 5, 6, 7, 8, 9, 10, 11, 12, 13, 14] 16 rfl rfl (Nat.le_add_left _ _) rfl ?_
   refine T.ret3 rfl rfl rfl rfl (fun w hS => ⟨(x3.1, x3.2), rfl, hS⟩)
  ·replace hr := inv_negB hb2 hr
   refine T.skip ?_
   refine T.then_normal ?_
   refine T.seq ?_
   refine T.region ?_
   refine T.move .list rfl (wants0 rfl) rfl rfl ?_
   refine T.move .list rfl (wants0 rfl) rfl rfl ?_
   refine T.assign .list rfl (wants0 rfl) rfl rfl ?_
   refine T.assign .list rfl (wants0 rfl) rfl rfl ?_
   refine T.assign .list rfl (wants0 rfl) rfl rfl ?_
   refine T.nil ?_
   refine T.then_normal ?_
   refine T.ret ?_
   obtain rfl := inv_some hr
   refine T.nilBf E8 5 ?_
   refine T.pick [0, 4, 5, 6, 7, 8, 9, 10, 11, 12, 13, 14] 16 rfl rfl (Nat.le_add_left _ _) rfl ?_
   refine T.ret3 rfl rfl rfl rfl (fun w hS => ⟨(none, 0), rfl, hS⟩)

noncomputable def draft_Draft_Put.impl (o0a : Int × Int × Int × Int × Int × Int × Int × Int × Int × Int × Int × Int × Int × Int × Int × Int × Int) (o0aa : Int × Int × Int × Int) (o0aaa : Int × Int × Int × Int) (q0aaab : List (Int × Int)) (o0aaac : Int × Bool × Int × Int × Int × Int × Int) (q0aaacb : List (Int × (List UInt8))) (q0aaacc : List (Int × (List UInt8))) (q0aah : List (Int × Int)) (q0aak : List (Int × Int)) (q0b : List ((Int × (List UInt8) × (List UInt8)) × Bool)) (a1 : Int) (l2 : List UInt8) (l3 : List UInt8) : Option (Int × (List ((Int × (List UInt8) × (List UInt8)) × Bool))) :=
  (draft_right.impl a1 l2 l3).bind fun r1 => (if ((!(decide (r1 = 0)))) = true then some (r1, q0b) else (slices_Clone.impl l2).bind fun r2 => (slices_Clone.impl l3).bind fun r3 => chk ((q0b.length + (([((a1, r2, r3), false)] : List ((Int × (List UInt8) × (List UInt8)) × Bool))).length) * 64 ≤ 140737488355328) (some (0, (q0b ++ (([((a1, r2, r3), false)] : List ((Int × (List UInt8) × (List UInt8)) × Bool)))))))
set_option maxRecDepth 100000 in
set_option maxHeartbeats 4000000 in
theorem draft_Draft_Put.c {B : World} {hs : List MP} {w : World} {p0 : Nat} {p0a : Nat} {o0a : Int × Int × Int × Int × Int × Int × Int × Int × Int × Int × Int × Int × Int × Int × Int × Int × Int} {p0aa : Nat} {o0aa : Int × Int × Int × Int} {p0aaa : Nat} {o0aaa : Int × Int × Int × Int} {m0aaab : Nat} {q0aaab : List (Int × Int)} {p0aaac : Nat} {o0aaac : Int × Bool × Int × Int × Int × Int × Int} {m0aaacb : Nat} {q0aaacb : List (Int × (List UInt8))} {c0aaacc : Nat} {A0aaacc : Option Addr} {q0aaacc : List (Int × (List UInt8))} {m0aah : Nat} {q0aah : List (Int × Int)} {m0aak : Nat} {q0aak : List (Int × Int)} {c0b : Nat} {A0b : Option Addr} {q0b : List ((Int × (List UInt8) × (List UInt8)) × Bool)} {a1 : Int} {i2 c2 : Nat} {A2 : Option Addr} {l2 : List UInt8} {i3 c3 : Nat} {A3 : Option Addr} {l3 : List UInt8} (hS : St B (Cl p0 99 [.pointer (some ⟨p0a, 0, none⟩), .slice A0b q0b.length c0b] :: Cl p0a 89 [.pointer (some ⟨p0aa, 0, none⟩), .int .i64 o0a.1, .int .i64 o0a.2.1, .int .i64 o0a.2.2.1, .int .i64 o0a.2.2.2.1, .int .i64 o0a.2.2.2.2.1, .int .i64 o0a.2.2.2.2.2.1, .int .i64 o0a.2.2.2.2.2.2.1, .int .i64 o0a.2.2.2.2.2.2.2.1, .int .i64 o0a.2.2.2.2.2.2.2.2.1, .int .i64 o0a.2.2.2.2.2.2.2.2.2.1, .int .i64 o0a.2.2.2.2.2.2.2.2.2.2.1, .int .i64 o0a.2.2.2.2.2.2.2.2.2.2.2.1, .int .i64 o0a.2.2.2.2.2.2.2.2.2.2.2.2.1, .int .i64 o0a.2.2.2.2.2.2.2.2.2.2.2.2.2.1, .int .i64 o0a.2.2.2.2.2.2.2.2.2.2.2.2.2.2.1, .int .i64 o0a.2.2.2.2.2.2.2.2.2.2.2.2.2.2.2.1, .int .i64 o0a.2.2.2.2.2.2.2.2.2.2.2.2.2.2.2.2] :: Cl p0aa 115 [.pointer (some ⟨p0aaa, 0, none⟩), .nilIface, .int .i64 o0aa.1, .int .i64 o0aa.2.1, .nilIface, .int .i64 o0aa.2.2.1, .int .i64 o0aa.2.2.2, .map (some m0aah), .slice none 0 0, .slice none 0 0, .map (some m0aak)] :: Cl p0aaa 134 [.int .i64 o0aaa.1, .map (some m0aaab), .pointer (some ⟨p0aaac, 0, none⟩), .int .i64 o0aaa.2.1, .int .u64 o0aaa.2.2.1, .int .i64 o0aaa.2.2.2] :: Mp E64 m0aaab q0aaab :: Cl p0aaac 83 [.int .i64 o0aaac.1, .map (some m0aaacb), .slice A0aaacc q0aaacc.length c0aaacc, .bool o0aaac.2.1, .int .i64 o0aaac.2.2.1, .int .i64 o0aaac.2.2.2.1, .int .u64 o0aaac.2.2.2.2.1, .int .i64 o0aaac.2.2.2.2.2.1, .int .i64 o0aaac.2.2.2.2.2.2] :: Mp (Elt.slice E8) m0aaacb q0aaacb :: Bf (Elt.pair E64 (Elt.slice E8)) 158 A0aaacc c0aaacc q0aaacc :: Mp E64 m0aah q0aah :: Mp E64 m0aak q0aak :: Bf (Elt.pair (Elt.pair E64 (Elt.pair (Elt.slice E8) (Elt.slice E8))) EBool) 102 A0b c0b q0b :: hs) w) (h2 : (Cl p0 99 [.pointer (some ⟨p0a, 0, none⟩), .slice A0b q0b.length c0b] :: Cl p0a 89 [.pointer (some ⟨p0aa, 0, none⟩), .int .i64 o0a.1, .int .i64 o0a.2.1, .int .i64 o0a.2.2.1, .int .i64 o0a.2.2.2.1, .int .i64 o0a.2.2.2.2.1, .int .i64 o0a.2.2.2.2.2.1, .int .i64 o0a.2.2.2.2.2.2.1, .int .i64 o0a.2.2.2.2.2.2.2.1, .int .i64 o0a.2.2.2.2.2.2.2.2.1, .int .i64 o0a.2.2.2.2.2.2.2.2.2.1, .int .i64 o0a.2.2.2.2.2.2.2.2.2.2.1, .int .i64 o0a.2.2.2.2.2.2.2.2.2.2.2.1, .int .i64 o0a.2.2.2.2.2.2.2.2.2.2.2.2.1, .int .i64 o0a.2.2.2.2.2.2.2.2.2.2.2.2.2.1, .int .i64 o0a.2.2.2.2.2.2.2.2.2.2.2.2.2.2.1, .int .i64 o0a.2.2.2.2.2.2.2.2.2.2.2.2.2.2.2.1, .int .i64 o0a.2.2.2.2.2.2.2.2.2.2.2.2.2.2.2.2] :: Cl p0aa 115 [.pointer (some ⟨p0aaa, 0, none⟩), .nilIface, .int .i64 o0aa.1, .int .i64 o0aa.2.1, .nilIface, .int .i64 o0aa.2.2.1, .int .i64 o0aa.2.2.2, .map (some m0aah), .slice none 0 0, .slice none 0 0, .map (some m0aak)] :: Cl p0aaa 134 [.int .i64 o0aaa.1, .map (some m0aaab), .pointer (some ⟨p0aaac, 0, none⟩), .int .i64 o0aaa.2.1, .int .u64 o0aaa.2.2.1, .int .i64 o0aaa.2.2.2] :: Mp E64 m0aaab q0aaab :: Cl p0aaac 83 [.int .i64 o0aaac.1, .map (some m0aaacb), .slice A0aaacc q0aaacc.length c0aaacc, .bool o0aaac.2.1, .int .i64 o0aaac.2.2.1, .int .i64 o0aaac.2.2.2.1, .int .u64 o0aaac.2.2.2.2.1, .int .i64 o0aaac.2.2.2.2.2.1, .int .i64 o0aaac.2.2.2.2.2.2] :: Mp (Elt.slice E8) m0aaacb q0aaacb :: Bf (Elt.pair E64 (Elt.slice E8)) 158 A0aaacc c0aaacc q0aaacc :: Mp E64 m0aah q0aah :: Mp E64 m0aak q0aak :: Bf (Elt.pair (Elt.pair E64 (Elt.pair (Elt.slice E8) (Elt.slice E8))) EBool) 102 A0b c0b q0b :: hs)[i2]? = some (Ro E8 A2 c2 l2)) (h3 : (Cl p0 99 [.pointer (some ⟨p0a, 0, none⟩), .slice A0b q0b.length c0b] :: Cl p0a 89 [.pointer (some ⟨p0aa, 0, none⟩), .int .i64 o0a.1, .int .i64 o0a.2.1, .int .i64 o0a.2.2.1, .int .i64 o0a.2.2.2.1, .int .i64 o0a.2.2.2.2.1, .int .i64 o0a.2.2.2.2.2.1, .int .i64 o0a.2.2.2.2.2.2.1, .int .i64 o0a.2.2.2.2.2.2.2.1, .int .i64 o0a.2.2.2.2.2.2.2.2.1, .int .i64 o0a.2.2.2.2.2.2.2.2.2.1, .int .i64 o0a.2.2.2.2.2.2.2.2.2.2.1, .int .i64 o0a.2.2.2.2.2.2.2.2.2.2.2.1, .int .i64 o0a.2.2.2.2.2.2.2.2.2.2.2.2.1, .int .i64 o0a.2.2.2.2.2.2.2.2.2.2.2.2.2.1, .int .i64 o0a.2.2.2.2.2.2.2.2.2.2.2.2.2.2.1, .int .i64 o0a.2.2.2.2.2.2.2.2.2.2.2.2.2.2.2.1, .int .i64 o0a.2.2.2.2.2.2.2.2.2.2.2.2.2.2.2.2] :: Cl p0aa 115 [.pointer (some ⟨p0aaa, 0, none⟩), .nilIface, .int .i64 o0aa.1, .int .i64 o0aa.2.1, .nilIface, .int .i64 o0aa.2.2.1, .int .i64 o0aa.2.2.2, .map (some m0aah), .slice none 0 0, .slice none 0 0, .map (some m0aak)] :: Cl p0aaa 134 [.int .i64 o0aaa.1, .map (some m0aaab), .pointer (some ⟨p0aaac, 0, none⟩), .int .i64 o0aaa.2.1, .int .u64 o0aaa.2.2.1, .int .i64 o0aaa.2.2.2] :: Mp E64 m0aaab q0aaab :: Cl p0aaac 83 [.int .i64 o0aaac.1, .map (some m0aaacb), .slice A0aaacc q0aaacc.length c0aaacc, .bool o0aaac.2.1, .int .i64 o0aaac.2.2.1, .int .i64 o0aaac.2.2.2.1, .int .u64 o0aaac.2.2.2.2.1, .int .i64 o0aaac.2.2.2.2.2.1, .int .i64 o0aaac.2.2.2.2.2.2] :: Mp (Elt.slice E8) m0aaacb q0aaacb :: Bf (Elt.pair E64 (Elt.slice E8)) 158 A0aaacc c0aaacc q0aaacc :: Mp E64 m0aah q0aah :: Mp E64 m0aak q0aak :: Bf (Elt.pair (Elt.pair E64 (Elt.pair (Elt.slice E8) (Elt.slice E8))) EBool) 102 A0b c0b q0b :: hs)[i3]? = some (Ro E8 A3 c3 l3)) {r : Int × (List ((Int × (List UInt8) × (List UInt8)) × Bool))} (hr : draft_Draft_Put.impl o0a o0aa o0aaa q0aaab o0aaac q0aaacb q0aaacc q0aah q0aak q0b a1 l2 l3 = some r) :
    Calls Try.prog 22 #[.pointer (some ⟨p0, 0, none⟩), .int .i64 a1, .slice A2 l2.length c2, .slice A3 l3.length c3] w fun e w' => ∃ x : (Option Addr × Nat), e = .returned (.int .i64 r.1) ∧ St B (Cl p0 99 [.pointer (some ⟨p0a, 0, none⟩), .slice x.1 r.2.length x.2] :: Cl p0a 89 [.pointer (some ⟨p0aa, 0, none⟩), .int .i64 o0a.1, .int .i64 o0a.2.1, .int .i64 o0a.2.2.1, .int .i64 o0a.2.2.2.1, .int .i64 o0a.2.2.2.2.1, .int .i64 o0a.2.2.2.2.2.1, .int .i64 o0a.2.2.2.2.2.2.1, .int .i64 o0a.2.2.2.2.2.2.2.1, .int .i64 o0a.2.2.2.2.2.2.2.2.1, .int .i64 o0a.2.2.2.2.2.2.2.2.2.1, .int .i64 o0a.2.2.2.2.2.2.2.2.2.2.1, .int .i64 o0a.2.2.2.2.2.2.2.2.2.2.2.1, .int .i64 o0a.2.2.2.2.2.2.2.2.2.2.2.2.1, .int .i64 o0a.2.2.2.2.2.2.2.2.2.2.2.2.2.1, .int .i64 o0a.2.2.2.2.2.2.2.2.2.2.2.2.2.2.1, .int .i64 o0a.2.2.2.2.2.2.2.2.2.2.2.2.2.2.2.1, .int .i64 o0a.2.2.2.2.2.2.2.2.2.2.2.2.2.2.2.2] :: Cl p0aa 115 [.pointer (some ⟨p0aaa, 0, none⟩), .nilIface, .int .i64 o0aa.1, .int .i64 o0aa.2.1, .nilIface, .int .i64 o0aa.2.2.1, .int .i64 o0aa.2.2.2, .map (some m0aah), .slice none 0 0, .slice none 0 0, .map (some m0aak)] :: Cl p0aaa 134 [.int .i64 o0aaa.1, .map (some m0aaab), .pointer (some ⟨p0aaac, 0, none⟩), .int .i64 o0aaa.2.1, .int .u64 o0aaa.2.2.1, .int .i64 o0aaa.2.2.2] :: Mp E64 m0aaab q0aaab :: Cl p0aaac 83 [.int .i64 o0aaac.1, .map (some m0aaacb), .slice A0aaacc q0aaacc.length c0aaacc, .bool o0aaac.2.1, .int .i64 o0aaac.2.2.1, .int .i64 o0aaac.2.2.2.1, .int .u64 o0aaac.2.2.2.2.1, .int .i64 o0aaac.2.2.2.2.2.1, .int .i64 o0aaac.2.2.2.2.2.2] :: Mp (Elt.slice E8) m0aaacb q0aaacb :: Bf (Elt.pair E64 (Elt.slice E8)) 158 A0aaacc c0aaacc q0aaacc :: Mp E64 m0aah q0aah :: Mp E64 m0aak q0aak :: Bf (Elt.pair (Elt.pair E64 (Elt.pair (Elt.slice E8) (Elt.slice E8))) EBool) 102 x.1 x.2 r.2 :: hs) w' := by
 unfold draft_Draft_Put.impl at hr
 refine calls_T Try.func22 rfl rfl rfl hS ?_
 refine T.front i2 h2 ?_
 refine T.front (i3 + 1) h3 ?_
 refine T.seq ?_
 refine T.region ?_
 refine T.assign .list rfl (wants0 rfl) rfl rfl ?_
 refine T.nil ?_
 refine T.then_normal ?_
 refine T.seq ?_
 refine T.seq ?_
 refine T.region ?_
 refine T.move .list rfl (wants0 rfl) rfl rfl ?_
 refine T.move .list rfl (wants0 rfl) rfl rfl ?_
 refine T.move .list rfl (wants0 rfl) rfl rfl ?_
 obtain ⟨r1, hg1, hr⟩ := inv_bind hr
 refine T.call .list (wants0 rfl) rfl (run_callF (vs := [_, _, _]) rfl Try.func29 rfl (by decide) rfl) (fun w hS => draft_right.c hS (i1 := 1) (i2 := 0) rfl rfl hg1) (fun x1 => ?_)
 refine T.assign .list rfl (wants0 rfl) rfl rfl ?_
 refine T.nil ?_
 refine T.then_normal ?_
 refine T.seq ?_
 refine T.region ?_
 refine T.move .list rfl (wants0 rfl) rfl rfl ?_
 refine T.bin .list rfl (wants0 rfl) rfl rfl rfl rfl ?_
 refine T.nil ?_
 refine T.then_normal ?_
 refine T.cond rfl (fun hb1 => ?_) (fun hb1 => ?_)
 ·replace hr := inv_posB hb1 hr
  refine T.seq ?_
  refine T.region ?_
  refine T.move .list rfl (wants0 rfl) rfl rfl ?_
  refine T.assign .list rfl (wants0 rfl) rfl rfl ?_
  refine T.nil ?_
  refine T.then_normal ?_
  refine T.ret ?_
  refine T.then_ret ?_
  obtain rfl := inv_some hr
  refine T.pick [2, 3, 4, 5, 6, 7, 8, 9, 10, 11, 12] 13 rfl rfl (Nat.le_add_left _ _) rfl ?_
  refine T.ret1 rfl rfl (fun w hS => ⟨(A0b, c0b), rfl, hS⟩)
 ·replace hr := inv_negB hb1 hr
  refine T.skip ?_
  refine T.then_normal ?_
  refine T.seq ?_
  refine T.dStart mixed ?_
  refine T.move (.dPure (i := 0) rfl (by kernel_rfl) (fun d _ _ _ _ h => by cases d <;> exact h)) rfl (wants0 rfl) rfl rfl ?_
  refine T.move (.dPure (i := 1) rfl (by kernel_rfl) (fun d _ _ _ _ h => by cases d <;> exact h)) rfl (wants0 rfl) rfl rfl ?_
  refine T.nilCheck (.dPure (i := 2) rfl (by kernel_rfl) (fun d _ _ _ _ h => by cases d <;> exact h)) rfl (wants0 rfl) rfl rfl ?_
  refine T.field (.dPure (i := 3) rfl (by kernel_rfl) (fun d _ _ _ _ h => by cases d <;> exact h)) rfl (wants0 rfl) rfl rfl ?_
  refine T.move (.dPure (i := 5) rfl (by kernel_rfl) (fun d _ _ _ _ h => by cases d <;> exact h)) rfl (wants0 rfl) rfl rfl ?_
  refine T.move (.dPure (i := 6) rfl (by kernel_rfl) (fun d _ _ _ _ h => by cases d <;> exact h)) rfl (wants0 rfl) rfl rfl ?_
  refine T.move (.dPure (i := 8) rfl (by kernel_rfl) (fun d _ _ _ _ h => by cases d <;> exact h)) rfl (wants0 rfl) rfl rfl ?_
  refine T.dAdd 16 (fun w => w.heap[p0]? = some (.cells [.pointer (some ⟨p0a, 0, none⟩), .slice A0b q0b.length c0b].toArray 99 (0, 0))) (Cl.stays 2 rfl) ?_
  refine T.valS 0 (i := 4) (.slice A0b q0b.length c0b) rfl rfl (by kernel_rfl) (by kernel_rfl) (fun d _ _ _ _ h => by cases d <;> exact h) (wants0 rfl) rfl (run_ldCl rfl rfl rfl) ?_
  obtain ⟨r2, hg2, hr⟩ := inv_bind hr
  refine T.dOnly (i := 7) (by kernel_rfl) ?_
  refine T.call (.dOne rfl (by kernel_rfl)) (wants0 rfl) rfl (run_callF (vs := [_]) rfl Try.func30 rfl (by decide) rfl) (fun w hS => slices_Clone.c hS (i0 := 1) rfl hg2) (fun x2 => ?_)
  refine T.dNext (phi_cons (.inr (Cl.stays 3 rfl)) phi_nil) ?_
  obtain ⟨r3, hg3, hr⟩ := inv_bind hr
  refine T.dOnly (i := 9) (by kernel_rfl) ?_
  refine T.call (.dOne rfl (by kernel_rfl)) (wants0 rfl) rfl (run_callF (vs := [_]) rfl Try.func30 rfl (by decide) rfl) (fun w hS => slices_Clone.c hS (i0 := 1) rfl hg3) (fun x3 => ?_)
  refine T.dNext (phi_cons (.inr (Cl.stays 4 rfl)) phi_nil) ?_
  refine T.build (.dPure (i := 10) rfl (by kernel_rfl) (fun d _ _ _ _ h => by cases d <;> exact h)) (vals := [(0, .int .i64 a1), (1, .slice x2.1 r2.length x2.2), (2, .slice x3.1 r3.length x3.2)]) (cells := #[.int .i64 a1, .slice x2.1 r2.length x2.2, .slice x3.1 r3.length x3.2]) rfl (wants0 rfl) rfl rfl (run_buildStruct (sizes := [1, 1, 1]) (by kernel_rfl) (by kernel_rfl)) ?_
  refine T.build (.dPure (i := 11) rfl (by kernel_rfl) (fun d _ _ _ _ h => by cases d <;> exact h)) (vals := [(0, .agg #[.int .i64 a1, .slice x2.1 r2.length x2.2, .slice x3.1 r3.length x3.2])]) (cells := #[.int .i64 a1, .slice x2.1 r2.length x2.2, .slice x3.1 r3.length x3.2, .bool false]) rfl (wants0 rfl) rfl rfl (run_buildStruct (sizes := [3, 1]) (by kernel_rfl) (by kernel_rfl)) ?_
  refine T.freeze 1 rfl rfl rfl ?_
  refine T.freeze 0 rfl rfl rfl ?_
  refine T.dOnly (i := 12) (by kernel_rfl) ?_
  refine T.lit (E := Elt.pair (Elt.pair E64 (Elt.pair (Elt.slice E8) (Elt.slice E8))) EBool) (.dOne rfl (by kernel_rfl)) (vals := [(0, .agg #[.int .i64 a1, .slice x2.1 r2.length x2.2, .slice x3.1 r3.length x3.2, .bool false])]) (cells := #[.int .i64 a1, .slice x2.1 r2.length x2.2, .slice x3.1 r3.length x3.2, .bool false]) rfl (wants0 rfl) rfl rfl rfl rfl rfl (by kernel_rfl) ([((a1, r2, r3), false)] : List ((Int × (List UInt8) × (List UInt8)) × Bool)) rfl (fun _ _ _ _ ho => (Has.encs ho (Has.pair (Has.pair (Has.sc rfl) (Has.pair (Has.slice 1 rfl rfl) (Has.slice 0 rfl rfl) rfl) rfl) (Has.sc rfl) rfl) rfl rfl)) (fun b1 => ?_)
  refine T.dNext (phi_cons (.inr (Cl.stays 5 rfl)) phi_nil) ?_
  obtain ⟨hc1, hr⟩ := inv_chk hr
  refine T.dOnly (i := 13) (by kernel_rfl) ?_
  refine T.appBf (.dOne rfl (by kernel_rfl)) 15 0 rfl rfl rfl rfl rfl (wants0 rfl) rfl rfl rfl rfl rfl rfl hc1 (fun _ _ => rfl) (fun A5 c5 => ?_)
  refine T.dNext (phi_cons (.inr (Cl.stays 5 rfl)) phi_nil) ?_
  refine T.nilCheck (.dPure (i := 14) rfl (by kernel_rfl) (fun d _ _ _ _ h => by cases d <;> exact h)) rfl (wants0 rfl) rfl rfl ?_
  refine T.field (.dPure (i := 15) rfl (by kernel_rfl) (fun d _ _ _ _ h => by cases d <;> exact h)) rfl (wants0 rfl) rfl rfl ?_
  refine T.dOnly (i := 16) (by kernel_rfl) ?_
  refine T.store (.dOne rfl (by kernel_rfl)) 5 rfl rfl (wants0 rfl) rfl rfl rfl rfl (Nat.le_of_ble_eq_true rfl) rfl (cs' := [.pointer (some ⟨p0a, 0, none⟩), .slice A5 (((q0b ++ (([((a1, r2, r3), false)] : List ((Int × (List UInt8) × (List UInt8)) × Bool))))).length) c5]) rfl rfl ?_
  refine T.dNext (phi_cons (.inl (by kernel_rfl)) phi_nil) ?_
  refine T.dDone (by kernel_rfl) ?_
  refine T.then_normal ?_
  refine T.seq ?_
  refine T.region ?_
  refine T.assign .list rfl (wants0 rfl) rfl rfl ?_
  refine T.nil ?_
  refine T.then_normal ?_
  refine T.ret ?_
  obtain rfl := inv_some hr
  refine T.pick [5, 6, 7, 8, 9, 10, 11, 12, 13, 14, 15] 16 rfl rfl (Nat.le_add_left _ _) rfl ?_
  refine T.ret1 rfl rfl (fun w hS => ⟨(A5, c5), rfl, hS⟩)

noncomputable def wire_Uint.k2 (s2 : List UInt8) : Option (List UInt8) :=
  some s2
noncomputable def wire_Uint.st1 (s1 : Int) (a0 : Int) (s3 : List UInt8 × Int) : Option ((List UInt8 × Int) ⊕ (List UInt8)) :=
  (if ((decide (s3.2 < s1))) = true then chk (0 ≤ IntKind.i64.wrap (7 * (IntKind.i64.wrap ((IntKind.i64.wrap (s1 - 1)) - s3.2)))) (chk (0 ≤ s3.2 ∧ s3.2 < (s3.1.length : Int)) ((if ((decide (s3.2 < (IntKind.i64.wrap (s1 - 1))))) = true then chk (0 ≤ s3.2 ∧ s3.2 < ((((s3.1).set (s3.2 : Int).toNat (u8 (IntKind.u8.wrap (bitsOf .and .i64 (shrI .i64 a0 (IntKind.i64.wrap (7 * (IntKind.i64.wrap ((IntKind.i64.wrap (s1 - 1)) - s3.2))))) 127))))).length : Int)) (chk (0 ≤ s3.2 ∧ s3.2 < ((((s3.1).set (s3.2 : Int).toNat (u8 (IntKind.u8.wrap (bitsOf .and .i64 (shrI .i64 a0 (IntKind.i64.wrap (7 * (IntKind.i64.wrap ((IntKind.i64.wrap (s1 - 1)) - s3.2))))) 127))))).length : Int)) (some (.inl (((((s3.1).set (s3.2 : Int).toNat (u8 (IntKind.u8.wrap (bitsOf .and .i64 (shrI .i64 a0 (IntKind.i64.wrap (7 * (IntKind.i64.wrap ((IntKind.i64.wrap (s1 - 1)) - s3.2))))) 127))))).set (s3.2 : Int).toNat (u8 (bitsOf .or .u8 ((((((s3.1).set (s3.2 : Int).toNat (u8 (IntKind.u8.wrap (bitsOf .and .i64 (shrI .i64 a0 (IntKind.i64.wrap (7 * (IntKind.i64.wrap ((IntKind.i64.wrap (s1 - 1)) - s3.2))))) 127))))).getD (s3.2 : Int).toNat default).toNat : Int)) 128))), IntKind.i64.wrap (s3.2 + 1))))) else some (.inl (((s3.1).set (s3.2 : Int).toNat (u8 (IntKind.u8.wrap (bitsOf .and .i64 (shrI .i64 a0 (IntKind.i64.wrap (7 * (IntKind.i64.wrap ((IntKind.i64.wrap (s1 - 1)) - s3.2))))) 127)))), IntKind.i64.wrap (s3.2 + 1)))))) else some (.inr s3.1))
noncomputable def wire_Uint.k1 (a0 : Int) (s1 : Int) : Option (List UInt8) :=
  chk (0 ≤ s1 ∧ s1 * 1 ≤ 140737488355328) ((loop (wire_Uint.st1 s1 a0) (List.replicate (s1 : Int).toNat (0 : UInt8), 0)).bind (fun e1 => wire_Uint.k2 e1))
noncomputable def wire_Uint.st2 (s4 : Int × Int) : Option ((Int × Int) ⊕ Int) :=
  (if ((decide ((0 : Int) < s4.2))) = true then some (.inl (IntKind.i64.wrap (s4.1 + 1), shrI .i64 s4.2 7)) else some (.inr s4.1))
noncomputable def wire_Uint.impl (a0 : Int) : Option (List UInt8) :=
  (if ((decide (a0 < 0))) = true then some ([] : List UInt8) else (loop (wire_Uint.st2) (1, shrI .i64 a0 7)).bind (fun e2 => wire_Uint.k1 a0 e2))
set_option maxRecDepth 100000 in
set_option maxHeartbeats 4000000 in
theorem wire_Uint.c {B : World} {hs : List MP} {w : World} {a0 : Int} (hS : St B (hs) w) {r : List UInt8} (hr : wire_Uint.impl a0 = some r) :
    Calls Try.prog 23 #[.int .i64 a0] w fun e w' => ∃ x : (Option Addr × Nat), e = .returned (.slice x.1 r.length x.2) ∧ St B (Bf E8 5 x.1 x.2 r :: hs) w' := by
 unfold wire_Uint.impl at hr
 refine calls_T Try.func23 rfl rfl rfl hS ?_
 refine T.seq ?_
 refine T.region ?_
 refine T.assign .list rfl (wants0 rfl) rfl rfl ?_
 refine T.nil ?_
 refine T.then_normal ?_
 refine T.seq ?_
 refine T.seq ?_
 refine T.region ?_
 refine T.move .list rfl (wants0 rfl) rfl rfl ?_
 refine T.bin .list rfl (wants0 rfl) rfl rfl rfl rfl ?_
 refine T.nil ?_
 refine T.then_normal ?_
 refine T.cond rfl (fun hb1 => ?_) (fun hb1 => ?_)
 ·replace hr := inv_posB hb1 hr
  refine T.seq ?_
  refine T.region ?_
  refine T.assign .list rfl (wants0 rfl) rfl rfl ?_
  refine T.nil ?_
  refine T.then_normal ?_
  refine T.ret ?_
  refine T.then_ret ?_
  obtain rfl := inv_some hr
  refine T.nilBf E8 5 ?_
  refine T.pick [0] 1 rfl rfl (Nat.le_add_left _ _) rfl ?_
  refine T.ret1 rfl rfl (fun w hS => ⟨(none, 0), rfl, hS⟩)
 ·replace hr := inv_negB hb1 hr
  refine T.skip ?_
  refine T.then_normal ?_
  refine T.seq ?_
  refine T.region ?_
  refine T.assign .list rfl (wants0 rfl) rfl rfl ?_
  refine T.nil ?_
  refine T.then_normal ?_
  refine T.seqJ (fun (s1 : Int) (x1 : Unit) => [(0, .int .i64 a0), (3, .int .i64 s1)]) (fun s1 x1 => hs) (fun s1 => wire_Uint.k1 a0 s1 = some r) (fun s1 x1 hk1 => ?_) (fun J1 => ?_)
  ·unfold wire_Uint.k1 at hk1
   refine T.seq ?_
   refine T.region ?_
   refine T.move .list rfl (wants0 rfl) rfl rfl ?_
   obtain ⟨hc1, hk1⟩ := inv_chk hk1
   refine T.make .list (enc := b8) (h1' := fun _ => rfl) (z0 := (0 : UInt8)) (by rfl) rfl (wants0 rfl) rfl rfl rfl rfl hc1 (fun b1 => ?_)
   refine T.assign .list rfl (wants0 rfl) rfl rfl ?_
   refine T.nil ?_
   refine T.then_normal ?_
   refine T.seqJ (fun (s2 : List UInt8) (x2 : (Option Addr × Nat)) => [(5, .slice x2.1 s2.length x2.2)]) (fun s2 x2 => Bf E8 5 x2.1 x2.2 s2 :: hs) (fun s2 => wire_Uint.k2 s2 = some r) (fun s2 x2 hk2 => ?_) (fun J2 => ?_)
   ·unfold wire_Uint.k2 at hk2
    refine T.seq ?_
    refine T.region ?_
    refine T.move .list rfl (wants0 rfl) rfl rfl ?_
    refine T.assign .list rfl (wants0 rfl) rfl rfl ?_
    refine T.nil ?_
    refine T.then_normal ?_
    refine T.ret ?_
    obtain rfl := inv_some hk2
    refine T.pick [0] 1 rfl rfl (Nat.le_add_left _ _) rfl ?_
    refine T.ret1 rfl rfl (fun w hS => ⟨(x2.1, x2.2), rfl, hS⟩)
   ·refine T.seq ?_
    refine T.region ?_
    refine T.move .list rfl (wants0 rfl) rfl rfl ?_
    refine T.move .list rfl (wants0 rfl) rfl rfl ?_
    refine T.nil ?_
    refine T.then_normal ?_
    refine T.block ?_
    obtain ⟨e1, hl1, hk1⟩ := inv_bind hk1
    refine T.le (EnvLe.cons rfl (EnvLe.cons rfl (EnvLe.cons rfl (EnvLe.cons rfl (EnvLe.cons rfl EnvLe.nil))))) (T.pick [0] 1 rfl rfl (Nat.le_add_left _ _) rfl (T.loop (s0 := (List.replicate (s1 : Int).toNat (0 : UInt8), 0)) (env := fun s3 x3 => [(0, .int .i64 a0), (3, .int .i64 s1), (5, .slice x3.1 s3.1.length x3.2), (19, .int .i64 s1), (20, .int .i64 s3.2)]) (hs := fun (s3 : List UInt8 × Int) (x3 : (Option Addr × Nat)) => Bf E8 5 x3.1 x3.2 s3.1 :: hs) hl1 (some ⟨b1, 0, none⟩, (s1 : Int).toNat) (fun K1 s3 x3 o1 he1 hm1 hx1 => ?_)))
    unfold wire_Uint.st1 at he1
    refine T.seq ?_
    refine T.region ?_
    refine T.bin .list rfl (wants0 rfl) rfl rfl rfl rfl ?_
    refine T.nil ?_
    refine T.then_normal ?_
    refine T.seq ?_
    refine T.cond rfl (fun hb2 => ?_) (fun hb2 => ?_)
    ·replace he1 := inv_posB hb2 he1
     refine T.skip ?_
     refine T.then_normal ?_
     refine T.seq ?_
     refine T.block ?_
     refine T.seq ?_
     refine T.region ?_
     refine T.move .list rfl (wants0 rfl) rfl rfl ?_
     refine T.assign .list rfl (wants0 rfl) rfl rfl ?_
     refine T.nil ?_
     refine T.then_normal ?_
     refine T.seq ?_
     refine T.region ?_
     refine T.move .list rfl (wants0 rfl) rfl rfl ?_
     refine T.move .list rfl (wants0 rfl) rfl rfl ?_
     refine T.move .list rfl (wants0 rfl) rfl rfl ?_
     refine T.move .list rfl (wants0 rfl) rfl rfl ?_
     refine T.bin .list rfl (wants0 rfl) rfl rfl rfl rfl ?_
     refine T.move .list rfl (wants0 rfl) rfl rfl ?_
     refine T.bin .list rfl (wants0 rfl) rfl rfl rfl rfl ?_
     refine T.bin .list rfl (wants0 rfl) rfl rfl rfl rfl ?_
     obtain ⟨hc2, he1⟩ := inv_chk he1
     refine T.shr .list rfl (wants0 rfl) rfl rfl rfl hc2 ?_
     refine T.bin .list rfl (wants0 rfl) rfl rfl rfl rfl ?_
     refine T.conv .list rfl (wants0 rfl) rfl rfl rfl ?_
     obtain ⟨hc3, he1⟩ := inv_chk he1
     refine T.idxBf .list 0 rfl rfl (wants0 rfl) rfl rfl rfl hc3.1 hc3.2 (Nat.le_refl _) ?_
     refine T.stBf .list 0 rfl rfl (wants0 rfl) rfl rfl rfl (b8_wrap _) hc3.1 hc3.2 rfl ?_
     refine T.nil ?_
     refine T.then_normal ?_
     refine T.seq ?_
     refine T.region ?_
     refine T.move .list rfl (wants0 rfl) rfl rfl ?_
     refine T.move .list rfl (wants0 rfl) rfl rfl ?_
     refine T.bin .list rfl (wants0 rfl) rfl rfl rfl rfl ?_
     refine T.bin .list rfl (wants0 rfl) rfl rfl rfl rfl ?_
     refine T.nil ?_
     refine T.then_normal ?_
     refine T.cond rfl (fun hb3 => ?_) (fun hb3 => ?_)
     ·replace he1 := inv_posB hb3 he1
      refine T.region ?_
      refine T.move .list rfl (wants0 rfl) rfl rfl ?_
      refine T.move .list rfl (wants0 rfl) rfl rfl ?_
      refine T.env1 39 rfl (slc (n' := (((s3.1).set (s3.2 : Int).toNat (u8 (IntKind.u8.wrap (bitsOf .and .i64 (shrI .i64 a0 (IntKind.i64.wrap (7 * (IntKind.i64.wrap ((IntKind.i64.wrap (s1 - 1)) - s3.2))))) 127))))).length) (by simp only [List.length_set])) ?_
      obtain ⟨hc4, he1⟩ := inv_chk he1
      refine T.idxBf .list 0 rfl rfl (wants0 rfl) rfl rfl rfl hc4.1 hc4.2 (Nat.le_refl _) ?_
      refine T.ldBf1 .list 0 rfl rfl (wants0 rfl) rfl rfl hc4.1 hc4.2 ?_
      refine T.bin .list rfl (wants0 rfl) rfl rfl rfl rfl ?_
      obtain ⟨hc5, he1⟩ := inv_chk he1
      refine T.idxBf .list 0 rfl rfl (wants0 rfl) rfl rfl rfl hc5.1 hc5.2 (Nat.le_refl _) ?_
      refine T.stBf .list 0 rfl rfl (wants0 rfl) rfl rfl rfl (b8_bits _ _ _) hc5.1 hc5.2 rfl ?_
      refine T.nil ?_
      refine T.in_normal ?_
      refine T.then_normal ?_
      refine T.region ?_
      refine T.bin .list rfl (wants0 rfl) rfl rfl rfl rfl ?_
      refine T.move .list rfl (wants0 rfl) rfl rfl ?_
      refine T.nil ?_
      refine T.then_normal ?_
      obtain rfl := inv_some he1
      refine T.env1 5 rfl (slc (n' := (((((s3.1).set (s3.2 : Int).toNat (u8 (IntKind.u8.wrap (bitsOf .and .i64 (shrI .i64 a0 (IntKind.i64.wrap (7 * (IntKind.i64.wrap ((IntKind.i64.wrap (s1 - 1)) - s3.2))))) 127))))).set (s3.2 : Int).toNat (u8 (bitsOf .or .u8 ((((((s3.1).set (s3.2 : Int).toNat (u8 (IntKind.u8.wrap (bitsOf .and .i64 (shrI .i64 a0 (IntKind.i64.wrap (7 * (IntKind.i64.wrap ((IntKind.i64.wrap (s1 - 1)) - s3.2))))) 127))))).getD (s3.2 : Int).toNat default).toNat : Int)) 128)))).length) (by simp only [List.length_set])) ?_
      exact T.le (EnvLe.cons rfl (EnvLe.cons rfl (EnvLe.cons rfl (EnvLe.cons rfl (EnvLe.cons rfl EnvLe.nil))))) (T.pick [0] 1 rfl rfl (Nat.le_add_left _ _) rfl (hm1 (((((s3.1).set (s3.2 : Int).toNat (u8 (IntKind.u8.wrap (bitsOf .and .i64 (shrI .i64 a0 (IntKind.i64.wrap (7 * (IntKind.i64.wrap ((IntKind.i64.wrap (s1 - 1)) - s3.2))))) 127))))).set (s3.2 : Int).toNat (u8 (bitsOf .or .u8 ((((((s3.1).set (s3.2 : Int).toNat (u8 (IntKind.u8.wrap (bitsOf .and .i64 (shrI .i64 a0 (IntKind.i64.wrap (7 * (IntKind.i64.wrap ((IntKind.i64.wrap (s1 - 1)) - s3.2))))) 127))))).getD (s3.2 : Int).toNat default).toNat : Int)) 128))), IntKind.i64.wrap (s3.2 + 1)) rfl (x3.1, x3.2)))
     ·replace he1 := inv_negB hb3 he1
      refine T.skip ?_
      refine T.in_normal ?_
      refine T.then_normal ?_
      refine T.region ?_
      refine T.bin .list rfl (wants0 rfl) rfl rfl rfl rfl ?_
      refine T.move .list rfl (wants0 rfl) rfl rfl ?_
      refine T.nil ?_
      refine T.then_normal ?_
      obtain rfl := inv_some he1
      refine T.env1 5 rfl (slc (n' := (((s3.1).set (s3.2 : Int).toNat (u8 (IntKind.u8.wrap (bitsOf .and .i64 (shrI .i64 a0 (IntKind.i64.wrap (7 * (IntKind.i64.wrap ((IntKind.i64.wrap (s1 - 1)) - s3.2))))) 127))))).length) (by simp only [List.length_set])) ?_
      exact T.le (EnvLe.cons rfl (EnvLe.cons rfl (EnvLe.cons rfl (EnvLe.cons rfl (EnvLe.cons rfl EnvLe.nil))))) (T.pick [0] 1 rfl rfl (Nat.le_add_left _ _) rfl (hm1 (((s3.1).set (s3.2 : Int).toNat (u8 (IntKind.u8.wrap (bitsOf .and .i64 (shrI .i64 a0 (IntKind.i64.wrap (7 * (IntKind.i64.wrap ((IntKind.i64.wrap (s1 - 1)) - s3.2))))) 127)))), IntKind.i64.wrap (s3.2 + 1)) rfl (x3.1, x3.2)))
    ·replace he1 := inv_negB hb2 he1
     refine T.exit ?_
     refine T.then_exit ?_
     refine T.then_exit ?_
     obtain rfl := inv_some he1
     obtain rfl := hx1 _ rfl
     refine T.in_hit ?_
     refine T.then_normal ?_
     exact T.le (EnvLe.cons rfl EnvLe.nil) (T.pick [0] 1 rfl rfl (Nat.le_add_left _ _) rfl (J2 s3.1 (x3.1, x3.2) hk1))
  ·refine T.seq ?_
   refine T.region ?_
   refine T.move .list rfl (wants0 rfl) rfl rfl ?_
   refine T.shr .list rfl (wants0 rfl) rfl rfl rfl (by decide) ?_
   refine T.assign .list rfl (wants0 rfl) rfl rfl ?_
   refine T.nil ?_
   refine T.then_normal ?_
   refine T.block ?_
   obtain ⟨e2, hl2, hr⟩ := inv_bind hr
   refine T.le (EnvLe.cons rfl (EnvLe.cons rfl (EnvLe.cons rfl EnvLe.nil))) (T.pick [] 0 rfl rfl (Nat.le_add_left _ _) rfl (T.loop (s0 := (1, shrI .i64 a0 7)) (env := fun s4 x4 => [(0, .int .i64 a0), (3, .int .i64 s4.1), (4, .int .i64 s4.2)]) (hs := fun (s4 : Int × Int) (x4 : Unit) => hs) hl2 () (fun K2 s4 x4 o2 he2 hm2 hx2 => ?_)))
   unfold wire_Uint.st2 at he2
   refine T.seq ?_
   refine T.seq ?_
   refine T.region ?_
   refine T.move .list rfl (wants0 rfl) rfl rfl ?_
   refine T.bin .list rfl (wants0 rfl) rfl rfl rfl rfl ?_
   refine T.nil ?_
   refine T.then_normal ?_
   refine T.cond rfl (fun hb4 => ?_) (fun hb4 => ?_)
   ·replace he2 := inv_posB hb4 he2
    refine T.skip ?_
    refine T.then_normal ?_
    refine T.seq ?_
    refine T.block ?_
    refine T.region ?_
    refine T.move .list rfl (wants0 rfl) rfl rfl ?_
    refine T.bin .list rfl (wants0 rfl) rfl rfl rfl rfl ?_
    refine T.assign .list rfl (wants0 rfl) rfl rfl ?_
    refine T.nil ?_
    refine T.in_normal ?_
    refine T.then_normal ?_
    refine T.region ?_
    refine T.move .list rfl (wants0 rfl) rfl rfl ?_
    refine T.shr .list rfl (wants0 rfl) rfl rfl rfl (by decide) ?_
    refine T.assign .list rfl (wants0 rfl) rfl rfl ?_
    refine T.nil ?_
    refine T.then_normal ?_
    obtain rfl := inv_some he2
    exact T.le (EnvLe.cons rfl (EnvLe.cons rfl (EnvLe.cons rfl EnvLe.nil))) (T.pick [] 0 rfl rfl (Nat.le_add_left _ _) rfl (hm2 (IntKind.i64.wrap (s4.1 + 1), shrI .i64 s4.2 7) rfl ()))
   ·replace he2 := inv_negB hb4 he2
    refine T.exit ?_
    refine T.then_exit ?_
    refine T.then_exit ?_
    obtain rfl := inv_some he2
    obtain rfl := hx2 _ rfl
    refine T.in_hit ?_
    refine T.then_normal ?_
    exact T.le (EnvLe.cons rfl (EnvLe.cons rfl EnvLe.nil)) (T.pick [] 0 rfl rfl (Nat.le_add_left _ _) rfl (J1 s4.1 () hr))

noncomputable def wire_ReadUint.k2 (s2 : Unit) : Option (Int × Int × Int) :=
  some (0, 0, 11)
noncomputable def wire_ReadUint.k3 (l0 : List UInt8) (a1 : Int) (s3 : Int × Int) (s4 : Bool) : Option ((Int × Int) ⊕ ((Int × Int × Int) ⊕ Unit)) :=
  (if s4 = true then some (.inr (.inl (0, 0, 11))) else (if ((decide ((((((l0).getD (IntKind.i64.wrap (a1 + s3.2) : Int).toNat default).toNat : Int))) < 128))) = true then some (.inr (.inl (bitsOf .or .i64 (shlI .i64 s3.1 7) (IntKind.i64.wrap (bitsOf .and .u8 ((((l0).getD (IntKind.i64.wrap (a1 + s3.2) : Int).toNat default).toNat : Int)) 127)), IntKind.i64.wrap ((IntKind.i64.wrap (a1 + s3.2)) + 1), 0))) else some (.inl (bitsOf .or .i64 (shlI .i64 s3.1 7) (IntKind.i64.wrap (bitsOf .and .u8 ((((l0).getD (IntKind.i64.wrap (a1 + s3.2) : Int).toNat default).toNat : Int)) 127)), IntKind.i64.wrap (s3.2 + 1)))))
noncomputable def wire_ReadUint.st1 (l0 : List UInt8) (a1 : Int) (s3 : Int × Int) : Option ((Int × Int) ⊕ ((Int × Int × Int) ⊕ Unit)) :=
  (if ((decide (s3.2 < 9))) = true then (if ((decide ((((l0.length : Int))) ≤ (IntKind.i64.wrap (a1 + s3.2))))) = true then some (.inr (.inl (0, 0, 10))) else chk (0 ≤ (IntKind.i64.wrap (a1 + s3.2)) ∧ (IntKind.i64.wrap (a1 + s3.2)) < (l0.length : Int)) ((if ((decide (s3.2 = 0))) = true then wire_ReadUint.k3 l0 a1 s3 (decide ((((((l0).getD (IntKind.i64.wrap (a1 + s3.2) : Int).toNat default).toNat : Int))) = 128)) else wire_ReadUint.k3 l0 a1 s3 false))) else some (.inr (.inr ())))
noncomputable def wire_ReadUint.k1 (l0 : List UInt8) (a1 : Int) (s1 : Bool) : Option (Int × Int × Int) :=
  (if s1 = true then some (0, 0, 1) else (loop (wire_ReadUint.st1 l0 a1) (0, 0)).bind (fun e1 => match e1 with | .inl v => some v | .inr v => wire_ReadUint.k2 v))
noncomputable def wire_ReadUint.impl (l0 : List UInt8) (a1 : Int) : Option (Int × Int × Int) :=
  (if ((decide (a1 < 0))) = true then wire_ReadUint.k1 l0 a1 true else wire_ReadUint.k1 l0 a1 (decide ((((l0.length : Int))) < a1)))
set_option maxRecDepth 100000 in
set_option maxHeartbeats 4000000 in
theorem wire_ReadUint.c {B : World} {hs : List MP} {w : World} {i0 c0 : Nat} {A0 : Option Addr} {l0 : List UInt8} {a1 : Int} (hS : St B (hs) w) (h0 : (hs)[i0]? = some (Ro E8 A0 c0 l0)) {r : Int × Int × Int} (hr : wire_ReadUint.impl l0 a1 = some r) :
    Calls Try.prog 27 #[.slice A0 l0.length c0, .int .i64 a1] w fun e w' => ∃ x : Unit, e = .returned (.tuple #[.int .i64 r.1, .int .i64 r.2.1, .int .i64 r.2.2]) ∧ St B (hs) w' := by
 unfold wire_ReadUint.impl at hr
 refine calls_T Try.func27 rfl rfl rfl hS ?_
 refine T.front i0 h0 ?_
 refine T.seq ?_
 refine T.region ?_
 refine T.assign .list rfl (wants0 rfl) rfl rfl ?_
 refine T.assign .list rfl (wants0 rfl) rfl rfl ?_
 refine T.assign .list rfl (wants0 rfl) rfl rfl ?_
 refine T.nil ?_
 refine T.then_normal ?_
 refine T.seq ?_
 refine T.seqJ (fun (s1 : Bool) (x1 : Unit) => [(0, .slice A0 l0.length c0), (1, .int .i64 a1), (4, .int .i64 0), (16, .bool s1)]) (fun s1 x1 => Ro E8 A0 c0 l0 :: hs) (fun s1 => wire_ReadUint.k1 l0 a1 s1 = some r) (fun s1 x1 hk1 => ?_) (fun J1 => ?_)
 ·unfold wire_ReadUint.k1 at hk1
  refine T.cond rfl (fun hb1 => ?_) (fun hb1 => ?_)
  ·replace hk1 := inv_posB hb1 hk1
   refine T.seq ?_
   refine T.region ?_
   refine T.assign .list rfl (wants0 rfl) rfl rfl ?_
   refine T.assign .list rfl (wants0 rfl) rfl rfl ?_
   refine T.assign .list rfl (wants0 rfl) rfl rfl ?_
   refine T.nil ?_
   refine T.then_normal ?_
   refine T.ret ?_
   refine T.then_ret ?_
   obtain rfl := inv_some hk1
   refine T.pick [] 1 rfl rfl (Nat.le_add_left _ _) rfl ?_
   refine T.ret3 rfl rfl rfl rfl (fun w hS => ⟨(), rfl, hS⟩)
  ·replace hk1 := inv_negB hb1 hk1
   refine T.skip ?_
   refine T.then_normal ?_
   refine T.seqJ (fun (s2 : Unit) (x2 : Unit) => []) (fun s2 x2 => hs) (fun s2 => wire_ReadUint.k2 s2 = some r) (fun s2 x2 hk2 => ?_) (fun J2 => ?_)
   ·unfold wire_ReadUint.k2 at hk2
    refine T.seq ?_
    refine T.region ?_
    refine T.assign .list rfl (wants0 rfl) rfl rfl ?_
    refine T.assign .list rfl (wants0 rfl) rfl rfl ?_
    refine T.assign .list rfl (wants0 rfl) rfl rfl ?_
    refine T.nil ?_
    refine T.then_normal ?_
    refine T.ret ?_
    obtain rfl := inv_some hk2
    refine T.pick [] 0 rfl rfl (Nat.le_add_left _ _) rfl ?_
    refine T.ret3 rfl rfl rfl rfl (fun w hS => ⟨(), rfl, hS⟩)
   ·refine T.seq ?_
    refine T.region ?_
    refine T.move .list rfl (wants0 rfl) rfl rfl ?_
    refine T.nil ?_
    refine T.then_normal ?_
    refine T.block ?_
    obtain ⟨e1, hl1, hk1⟩ := inv_bind hk1
    refine T.le (EnvLe.cons rfl (EnvLe.cons rfl (EnvLe.cons rfl (EnvLe.cons rfl EnvLe.nil)))) (T.pick [0] 1 rfl rfl (Nat.le_add_left _ _) rfl (T.loop (s0 := (0, 0)) (env := fun s3 x3 => [(0, .slice A0 l0.length c0), (1, .int .i64 a1), (4, .int .i64 s3.1), (17, .int .i64 s3.2)]) (hs := fun (s3 : Int × Int) (x3 : Unit) => Ro E8 A0 c0 l0 :: hs) hl1 () (fun K1 s3 x3 o1 he1 hm1 hx1 => ?_)))
    unfold wire_ReadUint.st1 at he1
    refine T.seq ?_
    refine T.region ?_
    refine T.bin .list rfl (wants0 rfl) rfl rfl rfl rfl ?_
    refine T.nil ?_
    refine T.then_normal ?_
    refine T.seq ?_
    refine T.cond rfl (fun hb2 => ?_) (fun hb2 => ?_)
    ·replace he1 := inv_posB hb2 he1
     refine T.skip ?_
     refine T.then_normal ?_
     refine T.seq ?_
     refine T.block ?_
     refine T.seq ?_
     refine T.region ?_
     refine T.move .list rfl (wants0 rfl) rfl rfl ?_
     refine T.assign .list rfl (wants0 rfl) rfl rfl ?_
     refine T.nil ?_
     refine T.then_normal ?_
     refine T.seq ?_
     refine T.seq ?_
     refine T.region ?_
     refine T.move .list rfl (wants0 rfl) rfl rfl ?_
     refine T.move .list rfl (wants0 rfl) rfl rfl ?_
     refine T.bin .list rfl (wants0 rfl) rfl rfl rfl rfl ?_
     refine T.move .list rfl (wants0 rfl) rfl rfl ?_
     refine T.lenSlice .list rfl (wants0 rfl) rfl rfl ?_
     refine T.bin .list rfl (wants0 rfl) rfl rfl rfl rfl ?_
     refine T.nil ?_
     refine T.then_normal ?_
     refine T.cond rfl (fun hb3 => ?_) (fun hb3 => ?_)
     ·replace he1 := inv_posB hb3 he1
      refine T.seq ?_
      refine T.region ?_
      refine T.assign .list rfl (wants0 rfl) rfl rfl ?_
      refine T.assign .list rfl (wants0 rfl) rfl rfl ?_
      refine T.assign .list rfl (wants0 rfl) rfl rfl ?_
      refine T.nil ?_
      refine T.then_normal ?_
      refine T.ret ?_
      refine T.then_ret ?_
      refine T.in_ret ?_
      refine T.then_ret ?_
      refine T.then_ret ?_
      obtain rfl := inv_some he1
      obtain rfl := hx1 _ rfl
      refine T.in_ret ?_
      refine T.then_ret ?_
      obtain rfl := inv_some hk1
      refine T.pick [] 1 rfl rfl (Nat.le_add_left _ _) rfl ?_
      refine T.ret3 rfl rfl rfl rfl (fun w hS => ⟨(), rfl, hS⟩)
     ·replace he1 := inv_negB hb3 he1
      refine T.skip ?_
      refine T.then_normal ?_
      refine T.seq ?_
      refine T.region ?_
      refine T.move .list rfl (wants0 rfl) rfl rfl ?_
      refine T.move .list rfl (wants0 rfl) rfl rfl ?_
      refine T.move .list rfl (wants0 rfl) rfl rfl ?_
      refine T.bin .list rfl (wants0 rfl) rfl rfl rfl rfl ?_
      obtain ⟨hc1, he1⟩ := inv_chk he1
      refine T.idxRo .list 0 rfl rfl (wants0 rfl) rfl rfl rfl hc1.1 hc1.2 (Nat.le_refl _) ?_
      refine T.ldRo1 .list 0 rfl rfl (wants0 rfl) rfl rfl hc1.1 hc1.2 ?_
      refine T.assign .list rfl (wants0 rfl) rfl rfl ?_
      refine T.nil ?_
      refine T.then_normal ?_
      refine T.seq ?_
      refine T.seqJ (fun (s4 : Bool) (x4 : Unit) => [(0, .slice A0 l0.length c0), (1, .int .i64 a1), (4, .int .i64 s3.1), (7, .int .i64 s3.2), (8, .int .u8 ((((l0).getD (IntKind.i64.wrap (a1 + s3.2) : Int).toNat default).toNat : Int))), (17, .int .i64 s3.2), (37, .bool s4)]) (fun s4 x4 => Ro E8 A0 c0 l0 :: hs) (fun s4 => wire_ReadUint.k3 l0 a1 s3 s4 = some o1) (fun s4 x4 hk3 => ?_) (fun J3 => ?_)
      ·unfold wire_ReadUint.k3 at hk3
       refine T.cond rfl (fun hb4 => ?_) (fun hb4 => ?_)
       ·replace hk3 := inv_posB hb4 hk3
        refine T.seq ?_
        refine T.region ?_
        refine T.assign .list rfl (wants0 rfl) rfl rfl ?_
        refine T.assign .list rfl (wants0 rfl) rfl rfl ?_
        refine T.assign .list rfl (wants0 rfl) rfl rfl ?_
        refine T.nil ?_
        refine T.then_normal ?_
        refine T.ret ?_
        refine T.then_ret ?_
        refine T.in_ret ?_
        refine T.then_ret ?_
        refine T.then_ret ?_
        obtain rfl := inv_some hk3
        obtain rfl := hx1 _ rfl
        refine T.in_ret ?_
        refine T.then_ret ?_
        obtain rfl := inv_some hk1
        refine T.pick [] 1 rfl rfl (Nat.le_add_left _ _) rfl ?_
        refine T.ret3 rfl rfl rfl rfl (fun w hS => ⟨(), rfl, hS⟩)
       ·replace hk3 := inv_negB hb4 hk3
        refine T.skip ?_
        refine T.then_normal ?_
        refine T.seq ?_
        refine T.region ?_
        refine T.move .list rfl (wants0 rfl) rfl rfl ?_
        refine T.shl .list rfl (wants0 rfl) rfl rfl rfl (by decide) ?_
        refine T.move .list rfl (wants0 rfl) rfl rfl ?_
        refine T.bin .list rfl (wants0 rfl) rfl rfl rfl rfl ?_
        refine T.conv .list rfl (wants0 rfl) rfl rfl rfl ?_
        refine T.bin .list rfl (wants0 rfl) rfl rfl rfl rfl ?_
        refine T.assign .list rfl (wants0 rfl) rfl rfl ?_
        refine T.nil ?_
        refine T.then_normal ?_
        refine T.seq ?_
        refine T.region ?_
        refine T.move .list rfl (wants0 rfl) rfl rfl ?_
        refine T.bin .list rfl (wants0 rfl) rfl rfl rfl rfl ?_
        refine T.nil ?_
        refine T.then_normal ?_
        refine T.cond rfl (fun hb5 => ?_) (fun hb5 => ?_)
        ·replace hk3 := inv_posB hb5 hk3
         refine T.seq ?_
         refine T.region ?_
         refine T.move .list rfl (wants0 rfl) rfl rfl ?_
         refine T.move .list rfl (wants0 rfl) rfl rfl ?_
         refine T.move .list rfl (wants0 rfl) rfl rfl ?_
         refine T.bin .list rfl (wants0 rfl) rfl rfl rfl rfl ?_
         refine T.bin .list rfl (wants0 rfl) rfl rfl rfl rfl ?_
         refine T.assign .list rfl (wants0 rfl) rfl rfl ?_
         refine T.assign .list rfl (wants0 rfl) rfl rfl ?_
         refine T.assign .list rfl (wants0 rfl) rfl rfl ?_
         refine T.nil ?_
         refine T.then_normal ?_
         refine T.ret ?_
         refine T.in_ret ?_
         refine T.then_ret ?_
         refine T.then_ret ?_
         obtain rfl := inv_some hk3
         obtain rfl := hx1 _ rfl
         refine T.in_ret ?_
         refine T.then_ret ?_
         obtain rfl := inv_some hk1
         refine T.pick [] 1 rfl rfl (Nat.le_add_left _ _) rfl ?_
         refine T.ret3 rfl rfl rfl rfl (fun w hS => ⟨(), rfl, hS⟩)
        ·replace hk3 := inv_negB hb5 hk3
         refine T.skip ?_
         refine T.in_normal ?_
         refine T.then_normal ?_
         refine T.region ?_
         refine T.bin .list rfl (wants0 rfl) rfl rfl rfl rfl ?_
         refine T.move .list rfl (wants0 rfl) rfl rfl ?_
         refine T.nil ?_
         refine T.then_normal ?_
         obtain rfl := inv_some hk3
         exact T.le (EnvLe.cons rfl (EnvLe.cons rfl (EnvLe.cons rfl (EnvLe.cons rfl EnvLe.nil)))) (T.pick [0] 1 rfl rfl (Nat.le_add_left _ _) rfl (hm1 (bitsOf .or .i64 (shlI .i64 s3.1 7) (IntKind.i64.wrap (bitsOf .and .u8 ((((l0).getD (IntKind.i64.wrap (a1 + s3.2) : Int).toNat default).toNat : Int)) 127)), IntKind.i64.wrap (s3.2 + 1)) rfl ()))
      ·refine T.region ?_
       refine T.move .list rfl (wants0 rfl) rfl rfl ?_
       refine T.bin .list rfl (wants0 rfl) rfl rfl rfl rfl ?_
       refine T.move .list rfl (wants0 rfl) rfl rfl ?_
       refine T.bool (b := (decide (s3.2 = 0))) (fun hb6 => ?_) (fun hb6 => ?_)
       ·replace he1 := inv_posB hb6 he1
        refine T.move .list rfl (wants1 rfl rfl rfl hb6) rfl rfl ?_
        refine T.bin .list rfl (wants1 rfl rfl rfl hb6) rfl rfl rfl rfl ?_
        refine T.pickT .list rfl (wants0 rfl) rfl rfl hb6 rfl ?_
        refine T.nil ?_
        refine T.then_normal ?_
        exact T.le (EnvLe.cons rfl (EnvLe.cons rfl (EnvLe.cons rfl (EnvLe.cons rfl (EnvLe.cons rfl (EnvLe.cons rfl (EnvLe.cons rfl EnvLe.nil))))))) (T.pick [0] 1 rfl rfl (Nat.le_add_left _ _) rfl (J3 (decide ((((((l0).getD (IntKind.i64.wrap (a1 + s3.2) : Int).toNat default).toNat : Int))) = 128)) () he1))
       ·replace he1 := inv_negB hb6 he1
        refine T.leave .list (wantsNot rfl rfl rfl hb6) rfl ?_
        refine T.leave .list (wantsNot rfl rfl rfl hb6) rfl ?_
        refine T.pickF .list rfl (wants0 rfl) rfl rfl hb6 rfl ?_
        refine T.nil ?_
        refine T.then_normal ?_
        exact T.le (EnvLe.cons rfl (EnvLe.cons rfl (EnvLe.cons rfl (EnvLe.cons rfl (EnvLe.cons rfl (EnvLe.cons rfl (EnvLe.cons rfl EnvLe.nil))))))) (T.pick [0] 1 rfl rfl (Nat.le_add_left _ _) rfl (J3 false () he1))
    ·replace he1 := inv_negB hb2 he1
     refine T.exit ?_
     refine T.then_exit ?_
     refine T.then_exit ?_
     obtain rfl := inv_some he1
     obtain rfl := hx1 _ rfl
     refine T.in_hit ?_
     refine T.then_normal ?_
     exact T.le EnvLe.nil (T.pick [] 1 rfl rfl (Nat.le_add_left _ _) rfl (J2 () () hk1))
 ·refine T.region ?_
  refine T.move .list rfl (wants0 rfl) rfl rfl ?_
  refine T.bin .list rfl (wants0 rfl) rfl rfl rfl rfl ?_
  refine T.move .list rfl (wants0 rfl) rfl rfl ?_
  refine T.bool (b := (decide (a1 < 0))) (fun hb7 => ?_) (fun hb7 => ?_)
  ·replace hr := inv_posB hb7 hr
   refine T.leave .list (wantsNot rfl rfl rfl hb7) rfl ?_
   refine T.leave .list (wantsNot rfl rfl rfl hb7) rfl ?_
   refine T.leave .list (wantsNot rfl rfl rfl hb7) rfl ?_
   refine T.leave .list (wantsNot rfl rfl rfl hb7) rfl ?_
   refine T.pickT .list rfl (wants0 rfl) rfl rfl hb7 rfl ?_
   refine T.nil ?_
   refine T.then_normal ?_
   exact T.le (EnvLe.cons rfl (EnvLe.cons rfl (EnvLe.cons rfl (EnvLe.cons rfl EnvLe.nil)))) (T.pick [0] 1 rfl rfl (Nat.le_add_left _ _) rfl (J1 true () hr))
  ·replace hr := inv_negB hb7 hr
   refine T.move .list rfl (wants1 rfl rfl rfl hb7) rfl rfl ?_
   refine T.move .list rfl (wants1 rfl rfl rfl hb7) rfl rfl ?_
   refine T.lenSlice .list rfl (wants1 rfl rfl rfl hb7) rfl rfl ?_
   refine T.bin .list rfl (wants1 rfl rfl rfl hb7) rfl rfl rfl rfl ?_
   refine T.pickF .list rfl (wants0 rfl) rfl rfl hb7 rfl ?_
   refine T.nil ?_
   refine T.then_normal ?_
   exact T.le (EnvLe.cons rfl (EnvLe.cons rfl (EnvLe.cons rfl (EnvLe.cons rfl EnvLe.nil)))) (T.pick [0] 1 rfl rfl (Nat.le_add_left _ _) rfl (J1 (decide ((((l0.length : Int))) < a1)) () hr))
end Go.Proofs.Ythacklkmngfniaa
