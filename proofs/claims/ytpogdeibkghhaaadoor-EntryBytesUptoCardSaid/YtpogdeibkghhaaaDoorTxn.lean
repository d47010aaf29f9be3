/- Txn: what the functions compute, and that the program computes it; printed by a program of ours. -/
import Derived.Test.YtpogdeibkghhaaaDoorRefS
import Derived.Test.YtpogdeibkghhaaaDoorNam
set_option linter.unusedVariables false
set_option linter.unusedSimpArgs false
namespace Go.Proofs.YtpogdeibkghhaaaDoor
open Go.RowKit
set_option maxRecDepth 100000
set_option maxHeartbeats 4000000
variable {B : World} {hs : List MP} {w : World}
noncomputable def txn_value.impl (a0 : ty4) : Option Bool :=
  (keys_Right.impl a0).bind fun r1 => (if ((decide (r1 = 0))) = true then (keys_Runes.impl a0.2.2).bind fun r2 => some (decide (r2 ≤ 8)) else some false)
theorem txn_value.c {a0 : ty4} (hB : Base B) (hS : St B (hs) w) {r : Bool} (hr : txn_value.impl a0 = some r) :
    Calls Tryd.prog 93 #[.agg #[.int .i64 a0.1, .int .i64 a0.2.1, str a0.2.2]] w fun e w' => ∃ x : Unit, e = .returned (.bool r) ∧ St B (hs) w' := by
 unfold txn_value.impl at hr
 refine calls_T Tryd.func93 rfl rfl rfl hS ?_
 refine sq ?_
 refine A.bx rfl rfl (fun b1 => ?_)
 refine sq ?_
 obtain ⟨r1, hg1, hr⟩ := inv_bind hr
 refine A.c1 rfl rfl Tryd.func61 rfl (fun w hS => keys_Right.c hB hS (a0 := a0)  hg1) (fun x1 => ?_)
 refine st ?_
 refine br hr (fun hb1 hr => ?_) (fun hb1 hr => ?_)
 ·refine st ?_
  obtain ⟨r2, hg2, hr⟩ := inv_bind hr
  refine A.c1g rfl rfl hb1 rfl rfl Tryd.func42 rfl (fun w hS => keys_Runes.c hB hS  hg2) (fun x2 => ?_)
  refine st ?_
  obtain rfl := inv_some hr
  refine pk [] 1 ?_
  refine T.ret1 rfl rfl (fun w hS => ⟨(), rfl, hS⟩)
 ·refine st ?_
  obtain rfl := inv_some hr
  refine pk [] 1 ?_
  refine T.ret1 rfl rfl (fun w hS => ⟨(), rfl, hS⟩)

noncomputable def txn_bare.k1 (a0 : ty7) (s1 : List UInt8 × List UInt8 × (List ty5) × (List ty0) × (List ty4) × Int × Int × List UInt8 × Int × Int × Int × List UInt8 × Int × Int × ty1) : Option (ty7 × Bool) :=
  some ((a0.1, s1.1, (s1.2.1, s1.2.2.1, s1.2.2.2.1), s1.2.2.2.2.1, (s1.2.2.2.2.2.1, s1.2.2.2.2.2.2.1, s1.2.2.2.2.2.2.2.1), s1.2.2.2.2.2.2.2.2.1, (s1.2.2.2.2.2.2.2.2.2.1, s1.2.2.2.2.2.2.2.2.2.2.1, s1.2.2.2.2.2.2.2.2.2.2.2.1), (s1.2.2.2.2.2.2.2.2.2.2.2.2.1, s1.2.2.2.2.2.2.2.2.2.2.2.2.2.1, s1.2.2.2.2.2.2.2.2.2.2.2.2.2.2.1), s1.2.2.2.2.2.2.2.2.2.2.2.2.2.2.2), true)
noncomputable def txn_bare.k3 (a0 : ty7) (s3 : Bool) : Option (ty7 × Bool) :=
  (if s3 = true then txn_bare.k1 a0 (a0.2.1, ([] : List UInt8), ([] : List ty5), ([] : List ty0), ([] : List ty4), a0.2.2.2.2.1.1, a0.2.2.2.2.1.2.1, a0.2.2.2.2.1.2.2, 0, 0, 0, ([] : List UInt8), 0, 0, ([] : List UInt8), 0) else (if ((decide (a0.1 = 6))) = true then txn_bare.k1 a0 (a0.2.1, ([] : List UInt8), ([] : List ty5), ([] : List ty0), ([] : List ty4), 0, 0, ([] : List UInt8), a0.2.2.2.2.2.1, a0.2.2.2.2.2.2.1.1, a0.2.2.2.2.2.2.1.2.1, a0.2.2.2.2.2.2.1.2.2, a0.2.2.2.2.2.2.2.1.1, a0.2.2.2.2.2.2.2.1.2.1, a0.2.2.2.2.2.2.2.1.2.2, a0.2.2.2.2.2.2.2.2) else some ((0, ([] : List UInt8), (([] : List UInt8), ([] : List ty5), ([] : List ty0)), ([] : List ty4), (0, 0, ([] : List UInt8)), 0, (0, 0, ([] : List UInt8)), (0, 0, ([] : List UInt8)), 0), false)))
noncomputable def txn_bare.k2 (a0 : ty7) (s2 : Bool) : Option (ty7 × Bool) :=
  (if s2 = true then txn_bare.k1 a0 (a0.2.1, ([] : List UInt8), ([] : List ty5), ([] : List ty0), a0.2.2.2.1, 0, 0, ([] : List UInt8), 0, 0, 0, ([] : List UInt8), 0, 0, ([] : List UInt8), 0) else (if ((decide (a0.1 = 4))) = true then txn_bare.k3 a0 (decide (a0.1 = 4)) else txn_bare.k3 a0 (decide (a0.1 = 5))))
noncomputable def txn_bare.impl (a0 : ty7) : Option (ty7 × Bool) :=
  (if ((decide (a0.1 = 1))) = true then txn_bare.k1 a0 (([] : List UInt8), a0.2.2.1.1, a0.2.2.1.2.1, a0.2.2.1.2.2, ([] : List ty4), 0, 0, ([] : List UInt8), 0, 0, 0, ([] : List UInt8), 0, 0, ([] : List UInt8), 0) else (if ((decide (a0.1 = 2))) = true then txn_bare.k2 a0 (decide (a0.1 = 2)) else txn_bare.k2 a0 (decide (a0.1 = 3))))
theorem txn_bare.c {a0 : ty7} {i0a c0a : Nat} {A0a : Option Addr} {i0b c0b : Nat} {A0b : Option Addr} {i0c c0c : Nat} {A0c : Option Addr} (hB : Base B) (hS : St B (hs) w) (h0a : (hs)[i0a]? = some (Ro el9 A0a c0a a0.2.2.1.2.1)) (h0b : (hs)[i0b]? = some (Ro el11 A0b c0b a0.2.2.1.2.2)) (h0c : (hs)[i0c]? = some (Ro el2 A0c c0c a0.2.2.2.1)) {r : ty7 × Bool} (hr : txn_bare.impl a0 = some r) :
    Calls Tryd.prog 91 #[.agg #[.int .i64 a0.1, str a0.2.1, str a0.2.2.1.1, .slice A0a a0.2.2.1.2.1.length c0a, .slice A0b a0.2.2.1.2.2.length c0b, .slice A0c a0.2.2.2.1.length c0c, .int .i64 a0.2.2.2.2.1.1, .int .i64 a0.2.2.2.2.1.2.1, str a0.2.2.2.2.1.2.2, .int .i64 a0.2.2.2.2.2.1, .int .i64 a0.2.2.2.2.2.2.1.1, .int .i64 a0.2.2.2.2.2.2.1.2.1, str a0.2.2.2.2.2.2.1.2.2, .int .i64 a0.2.2.2.2.2.2.2.1.1, .int .i64 a0.2.2.2.2.2.2.2.1.2.1, str a0.2.2.2.2.2.2.2.1.2.2, .int .i64 a0.2.2.2.2.2.2.2.2]] w fun e w' => ∃ x : ty3 × ty3 × ty3, e = .returned (.tuple #[.agg #[.int .i64 r.1.1, str r.1.2.1, str r.1.2.2.1.1, .slice x.1.1 r.1.2.2.1.2.1.length x.1.2, .slice x.2.1.1 r.1.2.2.1.2.2.length x.2.1.2, .slice x.2.2.1 r.1.2.2.2.1.length x.2.2.2, .int .i64 r.1.2.2.2.2.1.1, .int .i64 r.1.2.2.2.2.1.2.1, str r.1.2.2.2.2.1.2.2, .int .i64 r.1.2.2.2.2.2.1, .int .i64 r.1.2.2.2.2.2.2.1.1, .int .i64 r.1.2.2.2.2.2.2.1.2.1, str r.1.2.2.2.2.2.2.1.2.2, .int .i64 r.1.2.2.2.2.2.2.2.1.1, .int .i64 r.1.2.2.2.2.2.2.2.1.2.1, str r.1.2.2.2.2.2.2.2.1.2.2, .int .i64 r.1.2.2.2.2.2.2.2.2], .bool r.2]) ∧ St B (Ro el9 x.1.1 x.1.2 r.1.2.2.1.2.1 :: Ro el11 x.2.1.1 x.2.1.2 r.1.2.2.1.2.2 :: Ro el2 x.2.2.1 x.2.2.2 r.1.2.2.2.1 :: hs) w' := by
 unfold txn_bare.impl at hr
 refine calls_T Tryd.func91 rfl rfl rfl hS ?_
 refine T.front i0a h0a ?_
 refine T.front (i0b + 1) h0b ?_
 refine T.front (i0c + 2) h0c ?_
 refine sq ?_
 refine A.bx rfl rfl (fun b1 => ?_)
 refine A.al rfl (fun b2 => ?_)
 refine sq ?_
 refine T.build .list (vals := [(0, .int .i64 a0.1), (1, str a0.2.1)]) (cells := #[.int .i64 a0.1, str a0.2.1, str (([] : List UInt8)), .slice none 0 0, .slice none 0 0, .slice none 0 0, .int .i64 0, .int .i64 0, str (([] : List UInt8)), .int .i64 0, .int .i64 0, .int .i64 0, str (([] : List UInt8)), .int .i64 0, .int .i64 0, str (([] : List UInt8)), .int .i64 0]) rfl (wants0 rfl) rfl rfl (run_buildStruct (sizes := [1, 1, 3, 1, 3, 1, 3, 3, 1]) (by kernel_rfl) (by kernel_rfl)) ?_
 refine A.al rfl (fun b3 => ?_)
 refine st ?_
 refine T.seqJ (fun (s1 : List UInt8 × List UInt8 × (List ty5) × (List ty0) × (List ty4) × Int × Int × List UInt8 × Int × Int × Int × List UInt8 × Int × Int × ty1) (x1 : ty3 × ty3 × ty3) => [(2, .pointer (some ⟨b2, 0, none⟩)), (4, .pointer (some ⟨b3, 0, none⟩))]) (fun s1 x1 => Cl b2 66 [.int .i64 0, str (([] : List UInt8)), str (([] : List UInt8)), .slice none 0 0, .slice none 0 0, .slice none 0 0, .int .i64 0, .int .i64 0, str (([] : List UInt8)), .int .i64 0, .int .i64 0, .int .i64 0, str (([] : List UInt8)), .int .i64 0, .int .i64 0, str (([] : List UInt8)), .int .i64 0] :: Cl b3 66 [.int .i64 a0.1, str s1.1, str s1.2.1, .slice x1.1.1 s1.2.2.1.length x1.1.2, .slice x1.2.1.1 s1.2.2.2.1.length x1.2.1.2, .slice x1.2.2.1 s1.2.2.2.2.1.length x1.2.2.2, .int .i64 s1.2.2.2.2.2.1, .int .i64 s1.2.2.2.2.2.2.1, str s1.2.2.2.2.2.2.2.1, .int .i64 s1.2.2.2.2.2.2.2.2.1, .int .i64 s1.2.2.2.2.2.2.2.2.2.1, .int .i64 s1.2.2.2.2.2.2.2.2.2.2.1, str s1.2.2.2.2.2.2.2.2.2.2.2.1, .int .i64 s1.2.2.2.2.2.2.2.2.2.2.2.2.1, .int .i64 s1.2.2.2.2.2.2.2.2.2.2.2.2.2.1, str s1.2.2.2.2.2.2.2.2.2.2.2.2.2.2.1, .int .i64 s1.2.2.2.2.2.2.2.2.2.2.2.2.2.2.2] :: Ro el9 x1.1.1 x1.1.2 s1.2.2.1 :: Ro el11 x1.2.1.1 x1.2.1.2 s1.2.2.2.1 :: Ro el2 x1.2.2.1 x1.2.2.2 s1.2.2.2.2.1 :: hs) (fun s1 => txn_bare.k1 a0 s1 = some r) (fun s1 x1 hk1 => ?_) (fun J1 => ?_)
 ·unfold txn_bare.k1 at hk1
  refine sq ?_
  obtain rfl := inv_some hk1
  refine T.out2 rfl (OutRun.cellN 0 rfl rfl (vs := [.int .i64 a0.1, str s1.1, str s1.2.1, .slice x1.1.1 s1.2.2.1.length x1.1.2, .slice x1.2.1.1 s1.2.2.2.1.length x1.2.1.2, .slice x1.2.2.1 s1.2.2.2.2.1.length x1.2.2.2, .int .i64 s1.2.2.2.2.2.1, .int .i64 s1.2.2.2.2.2.2.1, str s1.2.2.2.2.2.2.2.1, .int .i64 s1.2.2.2.2.2.2.2.2.1, .int .i64 s1.2.2.2.2.2.2.2.2.2.1, .int .i64 s1.2.2.2.2.2.2.2.2.2.2.1, str s1.2.2.2.2.2.2.2.2.2.2.2.1, .int .i64 s1.2.2.2.2.2.2.2.2.2.2.2.2.1, .int .i64 s1.2.2.2.2.2.2.2.2.2.2.2.2.2.1, str s1.2.2.2.2.2.2.2.2.2.2.2.2.2.2.1, .int .i64 s1.2.2.2.2.2.2.2.2.2.2.2.2.2.2.2]) rfl rfl) (OutRun.tmp rfl) (fun w hS => ⟨((x1.1.1, x1.1.2), (x1.2.1.1, x1.2.1.2), (x1.2.2.1, x1.2.2.2)), rfl, hS.pick [2, 3, 4] 5 rfl rfl nla rfl⟩)
 ·refine sq ?_
  refine A.cd hr rfl (fun hb1 hr => ?_) (fun hb1 hr => ?_)
  ·refine T.dStart mixed ?_
   refine D.fi 0 ?_
   refine D.fi 2 ?_
   refine T.dAdd 6 (fun w => w.heap[b1]? = some (.cells [.int .i64 a0.1, str a0.2.1, str a0.2.2.1.1, .slice A0a a0.2.2.1.2.1.length c0a, .slice A0b a0.2.2.1.2.2.length c0b, .slice A0c a0.2.2.2.1.length c0c, .int .i64 a0.2.2.2.2.1.1, .int .i64 a0.2.2.2.2.1.2.1, str a0.2.2.2.2.1.2.2, .int .i64 a0.2.2.2.2.2.1, .int .i64 a0.2.2.2.2.2.2.1.1, .int .i64 a0.2.2.2.2.2.2.1.2.1, str a0.2.2.2.2.2.2.1.2.2, .int .i64 a0.2.2.2.2.2.2.2.1.1, .int .i64 a0.2.2.2.2.2.2.2.1.2.1, str a0.2.2.2.2.2.2.2.1.2.2, .int .i64 a0.2.2.2.2.2.2.2.2].toArray 66 (0, 0))) (Cl.stays 2 rfl) ?_
   refine T.valS 0 (i := 1) (.agg #[str a0.2.2.1.1, .slice A0a a0.2.2.1.2.1.length c0a, .slice A0b a0.2.2.1.2.2.length c0b]) rfl rfl (by kernel_rfl) (by kernel_rfl) (fun d _ _ _ _ h => by cases d <;> exact h) (wants0 rfl) rfl (run_ldClN rfl rfl (vs := [str a0.2.2.1.1, .slice A0a a0.2.2.1.2.1.length c0a, .slice A0b a0.2.2.1.2.2.length c0b]) rfl rfl) ?_
   refine D.on 3 ?_
   refine T.store (.dOne rfl (by kernel_rfl)) 0 rfl rfl (wants0 rfl) rfl rfl rfl rfl (Nat.le_of_ble_eq_true rfl) rfl (cs' := [.int .i64 a0.1, str (([] : List UInt8)), str (([] : List UInt8)), .slice none 0 0, .slice none 0 0, .slice none 0 0, .int .i64 0, .int .i64 0, str (([] : List UInt8)), .int .i64 0, .int .i64 0, .int .i64 0, str (([] : List UInt8)), .int .i64 0, .int .i64 0, str (([] : List UInt8)), .int .i64 0]) rfl rfl ?_
   refine T.dNext (phi_cons (.inr (Cl.stays 2 rfl)) phi_nil) ?_
   refine D.fi 4 ?_
   refine D.on 5 ?_
   refine T.store (.dOne rfl (by kernel_rfl)) 0 rfl rfl (wants0 rfl) rfl rfl rfl rfl (Nat.le_of_ble_eq_true rfl) rfl (cs' := [.int .i64 a0.1, str (([] : List UInt8)), str a0.2.2.1.1, .slice A0a a0.2.2.1.2.1.length c0a, .slice A0b a0.2.2.1.2.2.length c0b, .slice none 0 0, .int .i64 0, .int .i64 0, str (([] : List UInt8)), .int .i64 0, .int .i64 0, .int .i64 0, str (([] : List UInt8)), .int .i64 0, .int .i64 0, str (([] : List UInt8)), .int .i64 0]) rfl rfl ?_
   refine T.dNext (phi_cons (.inr (Cl.stays 2 rfl)) phi_nil) ?_
   refine T.dDone (by kernel_rfl) ?_
   refine sx ?_
   refine T.nilRo el2 none 0 ?_
   exact jn [2, 1, 6, 5, 0] 7 (J1 (([] : List UInt8), a0.2.2.1.1, a0.2.2.1.2.1, a0.2.2.1.2.2, ([] : List ty4), 0, 0, ([] : List UInt8), 0, 0, 0, ([] : List UInt8), 0, 0, ([] : List UInt8), 0) ((A0a, c0a), (A0b, c0b), (none, 0)) hr)
  ·refine T.seqJ (fun (s2 : Bool) (x2 : Unit) => [(1, .pointer (some ⟨b1, 0, none⟩)), (2, .pointer (some ⟨b2, 0, none⟩)), (4, .pointer (some ⟨b3, 0, none⟩)), (11, .int .i64 a0.1), (19, .bool s2)]) (fun s2 x2 => Cl b1 66 [.int .i64 a0.1, str a0.2.1, str a0.2.2.1.1, .slice A0a a0.2.2.1.2.1.length c0a, .slice A0b a0.2.2.1.2.2.length c0b, .slice A0c a0.2.2.2.1.length c0c, .int .i64 a0.2.2.2.2.1.1, .int .i64 a0.2.2.2.2.1.2.1, str a0.2.2.2.2.1.2.2, .int .i64 a0.2.2.2.2.2.1, .int .i64 a0.2.2.2.2.2.2.1.1, .int .i64 a0.2.2.2.2.2.2.1.2.1, str a0.2.2.2.2.2.2.1.2.2, .int .i64 a0.2.2.2.2.2.2.2.1.1, .int .i64 a0.2.2.2.2.2.2.2.1.2.1, str a0.2.2.2.2.2.2.2.1.2.2, .int .i64 a0.2.2.2.2.2.2.2.2] :: Ro el9 A0a c0a a0.2.2.1.2.1 :: Ro el11 A0b c0b a0.2.2.1.2.2 :: Ro el2 A0c c0c a0.2.2.2.1 :: Cl b2 66 [.int .i64 0, str (([] : List UInt8)), str (([] : List UInt8)), .slice none 0 0, .slice none 0 0, .slice none 0 0, .int .i64 0, .int .i64 0, str (([] : List UInt8)), .int .i64 0, .int .i64 0, .int .i64 0, str (([] : List UInt8)), .int .i64 0, .int .i64 0, str (([] : List UInt8)), .int .i64 0] :: Cl b3 66 [.int .i64 a0.1, str a0.2.1, str (([] : List UInt8)), .slice none 0 0, .slice none 0 0, .slice none 0 0, .int .i64 0, .int .i64 0, str (([] : List UInt8)), .int .i64 0, .int .i64 0, .int .i64 0, str (([] : List UInt8)), .int .i64 0, .int .i64 0, str (([] : List UInt8)), .int .i64 0] :: hs) (fun s2 => txn_bare.k2 a0 s2 = some r) (fun s2 x2 hk2 => ?_) (fun J2 => ?_)
   ·unfold txn_bare.k2 at hk2
    refine A.cd hk2 rfl (fun hb2 hk2 => ?_) (fun hb2 hk2 => ?_)
    ·refine T.region ?_
     refine sx ?_
     refine T.nilRo el9 none 0 ?_
     refine T.nilRo el11 none 0 ?_
     exact jn [6, 7, 1, 0, 5] 8 (J1 (a0.2.1, ([] : List UInt8), ([] : List ty5), ([] : List ty0), a0.2.2.2.1, 0, 0, ([] : List UInt8), 0, 0, 0, ([] : List UInt8), 0, 0, ([] : List UInt8), 0) ((none, 0), (none, 0), (A0c, c0c)) hk2)
    ·refine T.seqJ (fun (s3 : Bool) (x3 : Unit) => [(1, .pointer (some ⟨b1, 0, none⟩)), (2, .pointer (some ⟨b2, 0, none⟩)), (4, .pointer (some ⟨b3, 0, none⟩)), (11, .int .i64 a0.1), (25, .bool s3)]) (fun s3 x3 => Cl b1 66 [.int .i64 a0.1, str a0.2.1, str a0.2.2.1.1, .slice A0a a0.2.2.1.2.1.length c0a, .slice A0b a0.2.2.1.2.2.length c0b, .slice A0c a0.2.2.2.1.length c0c, .int .i64 a0.2.2.2.2.1.1, .int .i64 a0.2.2.2.2.1.2.1, str a0.2.2.2.2.1.2.2, .int .i64 a0.2.2.2.2.2.1, .int .i64 a0.2.2.2.2.2.2.1.1, .int .i64 a0.2.2.2.2.2.2.1.2.1, str a0.2.2.2.2.2.2.1.2.2, .int .i64 a0.2.2.2.2.2.2.2.1.1, .int .i64 a0.2.2.2.2.2.2.2.1.2.1, str a0.2.2.2.2.2.2.2.1.2.2, .int .i64 a0.2.2.2.2.2.2.2.2] :: Ro el9 A0a c0a a0.2.2.1.2.1 :: Ro el11 A0b c0b a0.2.2.1.2.2 :: Ro el2 A0c c0c a0.2.2.2.1 :: Cl b2 66 [.int .i64 0, str (([] : List UInt8)), str (([] : List UInt8)), .slice none 0 0, .slice none 0 0, .slice none 0 0, .int .i64 0, .int .i64 0, str (([] : List UInt8)), .int .i64 0, .int .i64 0, .int .i64 0, str (([] : List UInt8)), .int .i64 0, .int .i64 0, str (([] : List UInt8)), .int .i64 0] :: Cl b3 66 [.int .i64 a0.1, str a0.2.1, str (([] : List UInt8)), .slice none 0 0, .slice none 0 0, .slice none 0 0, .int .i64 0, .int .i64 0, str (([] : List UInt8)), .int .i64 0, .int .i64 0, .int .i64 0, str (([] : List UInt8)), .int .i64 0, .int .i64 0, str (([] : List UInt8)), .int .i64 0] :: hs) (fun s3 => txn_bare.k3 a0 s3 = some r) (fun s3 x3 hk3 => ?_) (fun J3 => ?_)
     ·unfold txn_bare.k3 at hk3
      refine A.cd hk3 rfl (fun hb3 hk3 => ?_) (fun hb3 hk3 => ?_)
      ·refine T.region ?_
       refine sx ?_
       refine T.nilRo el9 none 0 ?_
       refine T.nilRo el11 none 0 ?_
       refine T.nilRo el2 none 0 ?_
       exact jn [7, 8, 2, 1, 0] 9 (J1 (a0.2.1, ([] : List UInt8), ([] : List ty5), ([] : List ty0), ([] : List ty4), a0.2.2.2.2.1.1, a0.2.2.2.2.1.2.1, a0.2.2.2.2.1.2.2, 0, 0, 0, ([] : List UInt8), 0, 0, ([] : List UInt8), 0) ((none, 0), (none, 0), (none, 0)) hk3)
      ·refine sq ?_
       refine A.cd hk3 rfl (fun hb4 hk3 => ?_) (fun hb4 hk3 => ?_)
       ·refine T.dStart mixed ?_
        refine D.fi 0 ?_
        refine D.fi 2 ?_
        refine D.fi 4 ?_
        refine D.fi 6 ?_
        refine T.dAdd 16 (fun w => w.heap[b1]? = some (.cells [.int .i64 a0.1, str a0.2.1, str a0.2.2.1.1, .slice A0a a0.2.2.1.2.1.length c0a, .slice A0b a0.2.2.1.2.2.length c0b, .slice A0c a0.2.2.2.1.length c0c, .int .i64 a0.2.2.2.2.1.1, .int .i64 a0.2.2.2.2.1.2.1, str a0.2.2.2.2.1.2.2, .int .i64 a0.2.2.2.2.2.1, .int .i64 a0.2.2.2.2.2.2.1.1, .int .i64 a0.2.2.2.2.2.2.1.2.1, str a0.2.2.2.2.2.2.1.2.2, .int .i64 a0.2.2.2.2.2.2.2.1.1, .int .i64 a0.2.2.2.2.2.2.2.1.2.1, str a0.2.2.2.2.2.2.2.1.2.2, .int .i64 a0.2.2.2.2.2.2.2.2].toArray 66 (0, 0))) (Cl.stays 0 rfl) ?_
        refine D.ld 0 1 (.int .i64 a0.2.2.2.2.2.1) ?_
        refine D.fi 8 ?_
        refine T.valS 0 (i := 3) (.agg #[.int .i64 a0.2.2.2.2.2.2.1.1, .int .i64 a0.2.2.2.2.2.2.1.2.1, str a0.2.2.2.2.2.2.1.2.2]) rfl rfl (by kernel_rfl) (by kernel_rfl) (fun d _ _ _ _ h => by cases d <;> exact h) (wants0 rfl) rfl (run_ldClN rfl rfl (vs := [.int .i64 a0.2.2.2.2.2.2.1.1, .int .i64 a0.2.2.2.2.2.2.1.2.1, str a0.2.2.2.2.2.2.1.2.2]) rfl rfl) ?_
        refine T.valS 0 (i := 5) (.agg #[.int .i64 a0.2.2.2.2.2.2.2.1.1, .int .i64 a0.2.2.2.2.2.2.2.1.2.1, str a0.2.2.2.2.2.2.2.1.2.2]) rfl rfl (by kernel_rfl) (by kernel_rfl) (fun d _ _ _ _ h => by cases d <;> exact h) (wants0 rfl) rfl (run_ldClN rfl rfl (vs := [.int .i64 a0.2.2.2.2.2.2.2.1.1, .int .i64 a0.2.2.2.2.2.2.2.1.2.1, str a0.2.2.2.2.2.2.2.1.2.2]) rfl rfl) ?_
        refine D.ld 0 7 (.int .i64 a0.2.2.2.2.2.2.2.2) ?_
        refine D.on 9 ?_
        refine T.store (.dOne rfl (by kernel_rfl)) 5 rfl rfl (wants0 rfl) rfl rfl rfl rfl (Nat.le_of_ble_eq_true rfl) rfl (cs' := [.int .i64 a0.1, str a0.2.1, str (([] : List UInt8)), .slice none 0 0, .slice none 0 0, .slice none 0 0, .int .i64 0, .int .i64 0, str (([] : List UInt8)), .int .i64 a0.2.2.2.2.2.1, .int .i64 0, .int .i64 0, str (([] : List UInt8)), .int .i64 0, .int .i64 0, str (([] : List UInt8)), .int .i64 0]) rfl rfl ?_
        refine T.dNext (phi_cons (.inr (Cl.stays 0 rfl)) phi_nil) ?_
        refine D.fi 10 ?_
        refine D.on 11 ?_
        refine T.store (.dOne rfl (by kernel_rfl)) 5 rfl rfl (wants0 rfl) rfl rfl rfl rfl (Nat.le_of_ble_eq_true rfl) rfl (cs' := [.int .i64 a0.1, str a0.2.1, str (([] : List UInt8)), .slice none 0 0, .slice none 0 0, .slice none 0 0, .int .i64 0, .int .i64 0, str (([] : List UInt8)), .int .i64 a0.2.2.2.2.2.1, .int .i64 a0.2.2.2.2.2.2.1.1, .int .i64 a0.2.2.2.2.2.2.1.2.1, str a0.2.2.2.2.2.2.1.2.2, .int .i64 0, .int .i64 0, str (([] : List UInt8)), .int .i64 0]) rfl rfl ?_
        refine T.dNext (phi_cons (.inr (Cl.stays 0 rfl)) phi_nil) ?_
        refine D.fi 12 ?_
        refine D.on 13 ?_
        refine T.store (.dOne rfl (by kernel_rfl)) 5 rfl rfl (wants0 rfl) rfl rfl rfl rfl (Nat.le_of_ble_eq_true rfl) rfl (cs' := [.int .i64 a0.1, str a0.2.1, str (([] : List UInt8)), .slice none 0 0, .slice none 0 0, .slice none 0 0, .int .i64 0, .int .i64 0, str (([] : List UInt8)), .int .i64 a0.2.2.2.2.2.1, .int .i64 a0.2.2.2.2.2.2.1.1, .int .i64 a0.2.2.2.2.2.2.1.2.1, str a0.2.2.2.2.2.2.1.2.2, .int .i64 a0.2.2.2.2.2.2.2.1.1, .int .i64 a0.2.2.2.2.2.2.2.1.2.1, str a0.2.2.2.2.2.2.2.1.2.2, .int .i64 0]) rfl rfl ?_
        refine T.dNext (phi_cons (.inr (Cl.stays 0 rfl)) phi_nil) ?_
        refine D.fi 14 ?_
        refine D.on 15 ?_
        refine T.store (.dOne rfl (by kernel_rfl)) 5 rfl rfl (wants0 rfl) rfl rfl rfl rfl (Nat.le_of_ble_eq_true rfl) rfl (cs' := [.int .i64 a0.1, str a0.2.1, str (([] : List UInt8)), .slice none 0 0, .slice none 0 0, .slice none 0 0, .int .i64 0, .int .i64 0, str (([] : List UInt8)), .int .i64 a0.2.2.2.2.2.1, .int .i64 a0.2.2.2.2.2.2.1.1, .int .i64 a0.2.2.2.2.2.2.1.2.1, str a0.2.2.2.2.2.2.1.2.2, .int .i64 a0.2.2.2.2.2.2.2.1.1, .int .i64 a0.2.2.2.2.2.2.2.1.2.1, str a0.2.2.2.2.2.2.2.1.2.2, .int .i64 a0.2.2.2.2.2.2.2.2]) rfl rfl ?_
        refine T.dNext (phi_cons (.inr (Cl.stays 0 rfl)) phi_nil) ?_
        refine T.dDone (by kernel_rfl) ?_
        refine sx ?_
        refine T.nilRo el9 none 0 ?_
        refine T.nilRo el11 none 0 ?_
        refine T.nilRo el2 none 0 ?_
        exact jn [7, 8, 2, 1, 0] 9 (J1 (a0.2.1, ([] : List UInt8), ([] : List ty5), ([] : List ty0), ([] : List ty4), 0, 0, ([] : List UInt8), a0.2.2.2.2.2.1, a0.2.2.2.2.2.2.1.1, a0.2.2.2.2.2.2.1.2.1, a0.2.2.2.2.2.2.1.2.2, a0.2.2.2.2.2.2.2.1.1, a0.2.2.2.2.2.2.2.1.2.1, a0.2.2.2.2.2.2.2.1.2.2, a0.2.2.2.2.2.2.2.2) ((none, 0), (none, 0), (none, 0)) hk3)
       ·refine sq ?_
        refine T.build .list (vals := []) (cells := #[.int .i64 0, str (([] : List UInt8)), str (([] : List UInt8)), .slice none 0 0, .slice none 0 0, .slice none 0 0, .int .i64 0, .int .i64 0, str (([] : List UInt8)), .int .i64 0, .int .i64 0, .int .i64 0, str (([] : List UInt8)), .int .i64 0, .int .i64 0, str (([] : List UInt8)), .int .i64 0]) rfl (wants0 rfl) rfl rfl (run_buildStruct (sizes := [1, 1, 3, 1, 3, 1, 3, 3, 1]) (by kernel_rfl) (by kernel_rfl)) ?_
        refine st ?_
        obtain rfl := inv_some hk3
        refine T.nilRo el9 none 0 ?_
        refine T.nilRo el11 none 0 ?_
        refine T.nilRo el2 none 0 ?_
        refine T.out2 rfl (OutRun.cellN 7 rfl rfl (vs := [.int .i64 0, str (([] : List UInt8)), str (([] : List UInt8)), .slice none 0 0, .slice none 0 0, .slice none 0 0, .int .i64 0, .int .i64 0, str (([] : List UInt8)), .int .i64 0, .int .i64 0, .int .i64 0, str (([] : List UInt8)), .int .i64 0, .int .i64 0, str (([] : List UInt8)), .int .i64 0]) rfl rfl) (OutRun.tmp rfl) (fun w hS => ⟨((none, 0), (none, 0), (none, 0)), rfl, hS.pick [2, 1, 0] 9 rfl rfl nla rfl⟩)
     ·refine sq ?_
      refine A.cd hk2 rfl (fun hb5 hk2 => ?_) (fun hb5 hk2 => ?_)
      ·refine T.skip ?_
       refine sx ?_
       exact jn [0, 1, 2, 3, 4, 5] 6 (J3 (decide (a0.1 = 4)) () hk2)
      ·refine T.region ?_
       refine sx ?_
       exact jn [0, 1, 2, 3, 4, 5] 6 (J3 (decide (a0.1 = 5)) () hk2)
   ·refine sq ?_
    refine A.cd hr rfl (fun hb6 hr => ?_) (fun hb6 hr => ?_)
    ·refine T.skip ?_
     refine sx ?_
     exact jn [2, 5, 4, 3, 1, 0] 6 (J2 (decide (a0.1 = 2)) () hr)
    ·refine T.region ?_
     refine sx ?_
     exact jn [2, 5, 4, 3, 1, 0] 6 (J2 (decide (a0.1 = 3)) () hr)

noncomputable def txn_same.impl (a0 : ty7) (a1 : ty7) : Option Bool :=
  (if ((decide (a0.1 = a1.1))) = true then (if ((decide (a0.2.1 = a1.2.1))) = true then (schema_Same.impl a0.2.2.1 a1.2.2.1).bind fun r1 => (if r1 = true then (schema_SameRow.impl a0.2.2.2.1 a1.2.2.2.1).bind fun r2 => (if r2 = true then (if ((decide (a0.2.2.2.2.1 = a1.2.2.2.2.1))) = true then (if ((decide (a0.2.2.2.2.2.1 = a1.2.2.2.2.2.1))) = true then (if ((decide (a0.2.2.2.2.2.2.1 = a1.2.2.2.2.2.2.1))) = true then (if ((decide (a0.2.2.2.2.2.2.2.1 = a1.2.2.2.2.2.2.2.1))) = true then some (decide (a0.2.2.2.2.2.2.2.2 = a1.2.2.2.2.2.2.2.2)) else some false) else some false) else some false) else some false) else some false) else some false) else some false) else some false)
theorem txn_same.c {a0 : ty7} {i0a c0a : Nat} {A0a : Option Addr} {i0b c0b : Nat} {A0b : Option Addr} {i0c c0c : Nat} {A0c : Option Addr} {a1 : ty7} {i1a c1a : Nat} {A1a : Option Addr} {i1b c1b : Nat} {A1b : Option Addr} {i1c c1c : Nat} {A1c : Option Addr} (hB : Base B) (hS : St B (hs) w) (h0a : (hs)[i0a]? = some (Ro el9 A0a c0a a0.2.2.1.2.1)) (h0b : (hs)[i0b]? = some (Ro el11 A0b c0b a0.2.2.1.2.2)) (h0c : (hs)[i0c]? = some (Ro el2 A0c c0c a0.2.2.2.1)) (h1a : (hs)[i1a]? = some (Ro el9 A1a c1a a1.2.2.1.2.1)) (h1b : (hs)[i1b]? = some (Ro el11 A1b c1b a1.2.2.1.2.2)) (h1c : (hs)[i1c]? = some (Ro el2 A1c c1c a1.2.2.2.1)) {r : Bool} (hr : txn_same.impl a0 a1 = some r) :
    Calls Tryd.prog 92 #[.agg #[.int .i64 a0.1, str a0.2.1, str a0.2.2.1.1, .slice A0a a0.2.2.1.2.1.length c0a, .slice A0b a0.2.2.1.2.2.length c0b, .slice A0c a0.2.2.2.1.length c0c, .int .i64 a0.2.2.2.2.1.1, .int .i64 a0.2.2.2.2.1.2.1, str a0.2.2.2.2.1.2.2, .int .i64 a0.2.2.2.2.2.1, .int .i64 a0.2.2.2.2.2.2.1.1, .int .i64 a0.2.2.2.2.2.2.1.2.1, str a0.2.2.2.2.2.2.1.2.2, .int .i64 a0.2.2.2.2.2.2.2.1.1, .int .i64 a0.2.2.2.2.2.2.2.1.2.1, str a0.2.2.2.2.2.2.2.1.2.2, .int .i64 a0.2.2.2.2.2.2.2.2], .agg #[.int .i64 a1.1, str a1.2.1, str a1.2.2.1.1, .slice A1a a1.2.2.1.2.1.length c1a, .slice A1b a1.2.2.1.2.2.length c1b, .slice A1c a1.2.2.2.1.length c1c, .int .i64 a1.2.2.2.2.1.1, .int .i64 a1.2.2.2.2.1.2.1, str a1.2.2.2.2.1.2.2, .int .i64 a1.2.2.2.2.2.1, .int .i64 a1.2.2.2.2.2.2.1.1, .int .i64 a1.2.2.2.2.2.2.1.2.1, str a1.2.2.2.2.2.2.1.2.2, .int .i64 a1.2.2.2.2.2.2.2.1.1, .int .i64 a1.2.2.2.2.2.2.2.1.2.1, str a1.2.2.2.2.2.2.2.1.2.2, .int .i64 a1.2.2.2.2.2.2.2.2]] w fun e w' => ∃ x : Unit, e = .returned (.bool r) ∧ St B (hs) w' := by
 unfold txn_same.impl at hr
 refine calls_T Tryd.func92 rfl rfl rfl hS ?_
 refine T.front i0a h0a ?_
 refine T.front (i0b + 1) h0b ?_
 refine T.front (i0c + 2) h0c ?_
 refine T.front (i1a + 3) h1a ?_
 refine T.front (i1b + 4) h1b ?_
 refine T.front (i1c + 5) h1c ?_
 refine sq ?_
 refine A.bx rfl rfl (fun b1 => ?_)
 refine A.bx rfl rfl (fun b2 => ?_)
 refine sq ?_
 refine br hr (fun hb1 hr => ?_) (fun hb1 hr => ?_)
 ·refine st ?_
  refine T.strEq .list rfl (wants1 rfl rfl rfl hb1) rfl (l := a0.2.1) (l' := a1.2.1) rfl rfl ?_
  refine st ?_
  refine br hr (fun hb2 hr => ?_) (fun hb2 hr => ?_)
  ·refine st ?_
   obtain ⟨r1, hg1, hr⟩ := inv_bind hr
   refine A.c2g rfl rfl hb2 rfl rfl rfl Tryd.func57 rfl (fun w hS => schema_Same.c hB hS (i0a := 7) (i0b := 6) (i1a := 4) (i1b := 3) (a0 := a0.2.2.1) (a1 := a1.2.2.1) rfl rfl rfl rfl hg1) (fun x1 => ?_)
   refine st ?_
   refine br hr (fun hb3 hr => ?_) (fun hb3 hr => ?_)
   ·refine st ?_
    obtain ⟨r2, hg2, hr⟩ := inv_bind hr
    refine A.c2g rfl rfl hb3 rfl rfl rfl Tryd.func58 rfl (fun w hS => schema_SameRow.c hB hS (i0 := 5) (i1 := 2) rfl rfl hg2) (fun x2 => ?_)
    refine st ?_
    refine br hr (fun hb4 hr => ?_) (fun hb4 hr => ?_)
    ·refine st ?_
     refine T.eqS .list rfl (wants1 rfl rfl rfl hb4) rfl rfl rfl (by kernel_rfl) (by kernel_rfl) (by kernel_rfl) (l := [(3, 0), (3, 1), (9, 2)]) (by kernel_rfl) (.int rfl rfl (.int rfl rfl (.str rfl rfl .nil))) (b' := (decide (a0.2.2.2.2.1 = a1.2.2.2.2.1))) (by rw [Bool.eq_iff_iff]; simp [Prod.ext_iff]) ?_
     refine st ?_
     refine br hr (fun hb5 hr => ?_) (fun hb5 hr => ?_)
     ·refine st ?_
      refine br hr (fun hb6 hr => ?_) (fun hb6 hr => ?_)
      ·refine st ?_
       refine T.eqS .list rfl (wants1 rfl rfl rfl hb6) rfl rfl rfl (by kernel_rfl) (by kernel_rfl) (by kernel_rfl) (l := [(3, 0), (3, 1), (9, 2)]) (by kernel_rfl) (.int rfl rfl (.int rfl rfl (.str rfl rfl .nil))) (b' := (decide (a0.2.2.2.2.2.2.1 = a1.2.2.2.2.2.2.1))) (by rw [Bool.eq_iff_iff]; simp [Prod.ext_iff]) ?_
       refine st ?_
       refine br hr (fun hb7 hr => ?_) (fun hb7 hr => ?_)
       ·refine st ?_
        refine T.eqS .list rfl (wants1 rfl rfl rfl hb7) rfl rfl rfl (by kernel_rfl) (by kernel_rfl) (by kernel_rfl) (l := [(3, 0), (3, 1), (9, 2)]) (by kernel_rfl) (.int rfl rfl (.int rfl rfl (.str rfl rfl .nil))) (b' := (decide (a0.2.2.2.2.2.2.2.1 = a1.2.2.2.2.2.2.2.1))) (by rw [Bool.eq_iff_iff]; simp [Prod.ext_iff]) ?_
        refine st ?_
        refine br hr (fun hb8 hr => ?_) (fun hb8 hr => ?_)
        ·refine st ?_
         obtain rfl := inv_some hr
         refine pk [] 8 ?_
         refine T.ret1 rfl rfl (fun w hS => ⟨(), rfl, hS⟩)
        ·refine st ?_
         obtain rfl := inv_some hr
         refine pk [] 8 ?_
         refine T.ret1 rfl rfl (fun w hS => ⟨(), rfl, hS⟩)
       ·refine st ?_
        obtain rfl := inv_some hr
        refine pk [] 8 ?_
        refine T.ret1 rfl rfl (fun w hS => ⟨(), rfl, hS⟩)
      ·refine st ?_
       obtain rfl := inv_some hr
       refine pk [] 8 ?_
       refine T.ret1 rfl rfl (fun w hS => ⟨(), rfl, hS⟩)
     ·refine st ?_
      obtain rfl := inv_some hr
      refine pk [] 8 ?_
      refine T.ret1 rfl rfl (fun w hS => ⟨(), rfl, hS⟩)
    ·refine st ?_
     obtain rfl := inv_some hr
     refine pk [] 8 ?_
     refine T.ret1 rfl rfl (fun w hS => ⟨(), rfl, hS⟩)
   ·refine st ?_
    obtain rfl := inv_some hr
    refine pk [] 8 ?_
    refine T.ret1 rfl rfl (fun w hS => ⟨(), rfl, hS⟩)
  ·refine st ?_
   obtain rfl := inv_some hr
   refine pk [] 8 ?_
   refine T.ret1 rfl rfl (fun w hS => ⟨(), rfl, hS⟩)
 ·refine st ?_
  obtain rfl := inv_some hr
  refine pk [] 8 ?_
  refine T.ret1 rfl rfl (fun w hS => ⟨(), rfl, hS⟩)

noncomputable def txn_right_1.impl (a0 : ty4) : Option Bool :=
  (txn_value.impl a0).bind fun r1 => some (!r1)
theorem txn_right_1.c {a0 : ty4} (hB : Base B) (hS : St B (hs) w) {r : Bool} (hr : txn_right_1.impl a0 = some r) :
    Calls Tryd.prog 95 #[.agg #[.int .i64 a0.1, .int .i64 a0.2.1, str a0.2.2]] w fun e w' => ∃ x : Unit, e = .returned (.bool r) ∧ St B (hs) w' := by
 unfold txn_right_1.impl at hr
 refine calls_T Tryd.func95 rfl rfl rfl hS ?_
 refine sq ?_
 refine A.bx rfl rfl (fun b1 => ?_)
 refine sq ?_
 obtain ⟨r1, hg1, hr⟩ := inv_bind hr
 refine A.c1 rfl rfl Tryd.func93 rfl (fun w hS => txn_value.c hB hS (a0 := a0)  hg1) (fun x1 => ?_)
 refine T.not .list rfl (wants0 rfl) rfl rfl ?_
 refine st ?_
 obtain rfl := inv_some hr
 refine pk [] 1 ?_
 refine T.ret1 rfl rfl (fun w hS => ⟨(), rfl, hS⟩)

noncomputable def slices_IndexFunc_api_Value_api_Value__txn_right_1.k1 (s1 : Unit) : Option Int :=
  some (-1)
noncomputable def slices_IndexFunc_api_Value_api_Value__txn_right_1.st1 (l0 : List ty4) (s2 : Int) : Option (Int ⊕ (Int ⊕ Unit)) :=
  (if ((decide (s2 < ((l0.length : Int))))) = true then chk (0 ≤ s2 ∧ s2 < (l0.length : Int)) ((txn_right_1.impl ((l0.getD (s2 : Int).toNat default))).bind fun r1 => (if r1 = true then some (.inr (.inl s2)) else some (.inl (IntKind.i64.wrap (s2 + 1))))) else some (.inr (.inr ())))
noncomputable def slices_IndexFunc_api_Value_api_Value__txn_right_1.impl (l0 : List ty4) : Option Int :=
  (loop (slices_IndexFunc_api_Value_api_Value__txn_right_1.st1 l0) 0).bind (fun e1 => match e1 with | .inl v => some v | .inr v => slices_IndexFunc_api_Value_api_Value__txn_right_1.k1 v)
theorem slices_IndexFunc_api_Value_api_Value__txn_right_1.c {i0 c0 : Nat} {A0 : Option Addr} {l0 : List ty4} (hB : Base B) (hS : St B (hs) w) (h0 : (hs)[i0]? = some (Ro el2 A0 c0 l0)) {r : Int} (hr : slices_IndexFunc_api_Value_api_Value__txn_right_1.impl l0 = some r) :
    Calls Tryd.prog 99 #[.slice A0 l0.length c0, .func (.func 95) #[] #[]] w fun e w' => ∃ x : Unit, e = .returned (.int .i64 r) ∧ St B (hs) w' := by
 unfold slices_IndexFunc_api_Value_api_Value__txn_right_1.impl at hr
 refine calls_T Tryd.func99 rfl rfl rfl hS ?_
 refine T.front i0 h0 ?_
 refine T.seq ?_
 refine st ?_
 refine T.seqJ (fun (s1 : Unit) (x1 : Unit) => []) (fun s1 x1 => hs) (fun s1 => slices_IndexFunc_api_Value_api_Value__txn_right_1.k1 s1 = some r) (fun s1 x1 hk1 => ?_) (fun J1 => ?_)
 ·unfold slices_IndexFunc_api_Value_api_Value__txn_right_1.k1 at hk1
  refine sq ?_
  obtain rfl := inv_some hk1
  refine pk [] 0 ?_
  refine T.ret1 rfl rfl (fun w hS => ⟨(), rfl, hS⟩)
 ·refine sq ?_
  obtain ⟨e1, hl1, hr⟩ := inv_bind hr
  refine jn [0] 1 (T.loop (s0 := 0) (env := fun s2 x2 => [(0, .slice A0 l0.length c0), (1, .func (.func 95) #[] #[]), (7, .int .i64 ((l0.length : Int))), (8, .int .i64 s2)]) (hs := fun (s2 : Int) (x2 : Unit) => Ro el2 A0 c0 l0 :: hs) hl1 () (fun K1 s2 x2 o1 he1 hm1 hx1 => ?_))
  unfold slices_IndexFunc_api_Value_api_Value__txn_right_1.st1 at he1
  refine sq ?_
  refine A.cd he1 rfl (fun hb1 he1 => ?_) (fun hb1 he1 => ?_)
  ·refine sq ?_
   obtain ⟨hc1, he1⟩ := inv_chk he1
   refine T.idxRo .list 0 rfl rfl (wants0 rfl) rfl rfl rfl hc1.1 hc1.2 (Nat.le_refl _) ?_
   refine T.ldFRo 0 .list Fd.self (Sh.pair Sh.sc (Sh.pair Sh.sc Sh.sc)) rfl (.inl rfl) rfl rfl hc1.1 hc1.2 rfl (wants0 rfl) rfl rfl rfl (v := fun x3 => .agg #[.int .i64 ((((l0.getD (s2 : Int).toNat default)).1)), .int .i64 ((((l0.getD (s2 : Int).toNat default)).2.1)), str ((((l0.getD (s2 : Int).toNat default)).2.2))]) (hs' := fun x3 => Ro el2 A0 c0 l0 :: hs) (fun _ => rfl) (fun _ => rfl) (fun x3 => ?_)
   obtain ⟨r1, hg1, he1⟩ := inv_bind he1
   refine T.call .list (wants0 rfl) rfl (run_callV (vs := [_]) (caps := []) (args := [_]) rfl rfl Tryd.func95 rfl (by decide) rfl rfl) (fun w hS => txn_right_1.c hB hS (a0 := (l0.getD (s2 : Int).toNat default))  hg1) (fun x4 => ?_)
   refine st ?_
   refine A.cd he1 rfl (fun hb2 he1 => ?_) (fun hb2 he1 => ?_)
   ·refine sq ?_
    obtain rfl := inv_some he1
    obtain rfl := hx1 _ rfl
    refine st ?_
    obtain rfl := inv_some hr
    refine pk [] 1 ?_
    refine T.ret1 rfl rfl (fun w hS => ⟨(), rfl, hS⟩)
   ·refine T.skip ?_
    refine sx ?_
    refine T.region ?_
    refine sx ?_
    obtain rfl := inv_some he1
    exact jn [0] 1 (hm1 (IntKind.i64.wrap (s2 + 1)) rfl ())
  ·refine T.exit ?_
   refine sx ?_
   obtain rfl := inv_some he1
   obtain rfl := hx1 _ rfl
   refine sx ?_
   exact T.le EnvLe.nil (T.pick [] 1 rfl rfl nla rfl (J1 () () hr))

noncomputable def slices_ContainsFunc_api_Value_api_Value__txn_right_1.impl (l0 : List ty4) : Option Bool :=
  (slices_IndexFunc_api_Value_api_Value__txn_right_1.impl l0).bind fun r1 => some (decide ((0 : Int) ≤ r1))
theorem slices_ContainsFunc_api_Value_api_Value__txn_right_1.c {i0 c0 : Nat} {A0 : Option Addr} {l0 : List ty4} (hB : Base B) (hS : St B (hs) w) (h0 : (hs)[i0]? = some (Ro el2 A0 c0 l0)) {r : Bool} (hr : slices_ContainsFunc_api_Value_api_Value__txn_right_1.impl l0 = some r) :
    Calls Tryd.prog 94 #[.slice A0 l0.length c0, .func (.func 95) #[] #[]] w fun e w' => ∃ x : Unit, e = .returned (.bool r) ∧ St B (hs) w' := by
 unfold slices_ContainsFunc_api_Value_api_Value__txn_right_1.impl at hr
 refine calls_T Tryd.func94 rfl rfl rfl hS ?_
 refine T.front i0 h0 ?_
 refine sq ?_
 obtain ⟨r1, hg1, hr⟩ := inv_bind hr
 refine A.c2 rfl rfl rfl Tryd.func99 rfl (fun w hS => slices_IndexFunc_api_Value_api_Value__txn_right_1.c hB hS (i0 := 0) rfl hg1) (fun x1 => ?_)
 refine st ?_
 obtain rfl := inv_some hr
 refine pk [] 1 ?_
 refine T.ret1 rfl rfl (fun w hS => ⟨(), rfl, hS⟩)

noncomputable def txn_right.k3 (a0 : ty7) (s3 : Bool) : Option Bool :=
  (if s3 = true then (slices_ContainsFunc_api_Value_api_Value__txn_right_1.impl a0.2.2.2.1).bind fun r3 => some (!r3) else some false)
noncomputable def txn_right.k2 (a0 : ty7) (s2 : Bool) : Option Bool :=
  (if ((decide (a0.1 = 6))) = true then (if s2 = true then (if ((decide ((0 : Int) ≤ a0.2.2.2.2.2.1))) = true then (if ((decide (a0.2.2.2.2.2.1 < 3))) = true then (if ((decide ((1 : Int) ≤ a0.2.2.2.2.2.2.2.2))) = true then txn_right.k3 a0 (decide (a0.2.2.2.2.2.2.2.2 ≤ 4)) else txn_right.k3 a0 false) else txn_right.k3 a0 false) else txn_right.k3 a0 false) else txn_right.k3 a0 false) else txn_right.k3 a0 s2)
noncomputable def txn_right.k1 (a0 : ty7) (s1 : Bool) : Option Bool :=
  (if s1 = true then some false else (if ((decide (a0.1 = 1))) = true then (schema_Right.impl a0.2.2.1).bind fun r2 => some (decide (r2 = 0)) else (schema_Name.impl a0.2.1).bind fun r4 => (if r4 = true then (if ((decide ((((a0.2.2.2.1.length : Int))) ≤ 3))) = true then (txn_value.impl a0.2.2.2.2.1).bind fun r5 => (if r5 = true then (txn_value.impl a0.2.2.2.2.2.2.1).bind fun r6 => (if r6 = true then (txn_value.impl a0.2.2.2.2.2.2.2.1).bind fun r7 => txn_right.k2 a0 r7 else txn_right.k2 a0 false) else txn_right.k2 a0 false) else txn_right.k2 a0 false) else txn_right.k2 a0 false)))
noncomputable def txn_right.impl (a0 : ty7) : Option Bool :=
  (txn_bare.impl a0).bind fun r1 => (if r1.2 = true then (txn_same.impl a0 r1.1).bind fun r8 => txn_right.k1 a0 (!r8) else txn_right.k1 a0 true)
theorem txn_right.c {a0 : ty7} {i0a c0a : Nat} {A0a : Option Addr} {i0b c0b : Nat} {A0b : Option Addr} {i0c c0c : Nat} {A0c : Option Addr} (hB : Base B) (hS : St B (hs) w) (h0a : (hs)[i0a]? = some (Ro el9 A0a c0a a0.2.2.1.2.1)) (h0b : (hs)[i0b]? = some (Ro el11 A0b c0b a0.2.2.1.2.2)) (h0c : (hs)[i0c]? = some (Ro el2 A0c c0c a0.2.2.2.1)) {r : Bool} (hr : txn_right.impl a0 = some r) :
    Calls Tryd.prog 74 #[.agg #[.int .i64 a0.1, str a0.2.1, str a0.2.2.1.1, .slice A0a a0.2.2.1.2.1.length c0a, .slice A0b a0.2.2.1.2.2.length c0b, .slice A0c a0.2.2.2.1.length c0c, .int .i64 a0.2.2.2.2.1.1, .int .i64 a0.2.2.2.2.1.2.1, str a0.2.2.2.2.1.2.2, .int .i64 a0.2.2.2.2.2.1, .int .i64 a0.2.2.2.2.2.2.1.1, .int .i64 a0.2.2.2.2.2.2.1.2.1, str a0.2.2.2.2.2.2.1.2.2, .int .i64 a0.2.2.2.2.2.2.2.1.1, .int .i64 a0.2.2.2.2.2.2.2.1.2.1, str a0.2.2.2.2.2.2.2.1.2.2, .int .i64 a0.2.2.2.2.2.2.2.2]] w fun e w' => ∃ x : Unit, e = .returned (.bool r) ∧ St B (hs) w' := by
 unfold txn_right.impl at hr
 refine calls_T Tryd.func74 rfl rfl rfl hS ?_
 refine T.front i0a h0a ?_
 refine T.front (i0b + 1) h0b ?_
 refine T.front (i0c + 2) h0c ?_
 refine sq ?_
 refine A.bx rfl rfl (fun b1 => ?_)
 refine sq ?_
 obtain ⟨r1, hg1, hr⟩ := inv_bind hr
 refine A.c1 rfl rfl Tryd.func91 rfl (fun w hS => txn_bare.c hB hS (i0a := 3) (i0b := 2) (i0c := 1) (a0 := a0) rfl rfl rfl hg1) (fun x1 => ?_)
 refine st ?_
 refine A.al rfl (fun b2 => ?_)
 refine st ?_
 refine T.seq ?_
 refine T.seqJ (fun (s1 : Bool) (x2 : Unit) => [(1, .pointer (some ⟨b1, 0, none⟩)), (18, .bool s1)]) (fun s1 x2 => Cl b1 66 [.int .i64 a0.1, str a0.2.1, str a0.2.2.1.1, .slice A0a a0.2.2.1.2.1.length c0a, .slice A0b a0.2.2.1.2.2.length c0b, .slice A0c a0.2.2.2.1.length c0c, .int .i64 a0.2.2.2.2.1.1, .int .i64 a0.2.2.2.2.1.2.1, str a0.2.2.2.2.1.2.2, .int .i64 a0.2.2.2.2.2.1, .int .i64 a0.2.2.2.2.2.2.1.1, .int .i64 a0.2.2.2.2.2.2.1.2.1, str a0.2.2.2.2.2.2.1.2.2, .int .i64 a0.2.2.2.2.2.2.2.1.1, .int .i64 a0.2.2.2.2.2.2.2.1.2.1, str a0.2.2.2.2.2.2.2.1.2.2, .int .i64 a0.2.2.2.2.2.2.2.2] :: Ro el9 A0a c0a a0.2.2.1.2.1 :: Ro el11 A0b c0b a0.2.2.1.2.2 :: Ro el2 A0c c0c a0.2.2.2.1 :: hs) (fun s1 => txn_right.k1 a0 s1 = some r) (fun s1 x2 hk1 => ?_) (fun J1 => ?_)
 ·unfold txn_right.k1 at hk1
  refine A.cd hk1 rfl (fun hb1 hk1 => ?_) (fun hb1 hk1 => ?_)
  ·refine sq ?_
   obtain rfl := inv_some hk1
   refine pk [] 4 ?_
   refine T.ret1 rfl rfl (fun w hS => ⟨(), rfl, hS⟩)
  ·refine sq ?_
   refine A.cd hk1 rfl (fun hb2 hk1 => ?_) (fun hb2 hk1 => ?_)
   ·refine sq ?_
    obtain ⟨r2, hg2, hk1⟩ := inv_bind hk1
    refine A.c1 rfl rfl Tryd.func71 rfl (fun w hS => schema_Right.c hB hS (i0a := 1) (i0b := 2) (a0 := a0.2.2.1) rfl rfl hg2) (fun x3 => ?_)
    refine st ?_
    obtain rfl := inv_some hk1
    refine pk [] 4 ?_
    refine T.ret1 rfl rfl (fun w hS => ⟨(), rfl, hS⟩)
   ·refine st ?_
    refine T.seqJ (fun (s2 : Bool) (x4 : Unit) => [(1, .pointer (some ⟨b1, 0, none⟩)), (5, .bool s2)]) (fun s2 x4 => Cl b1 66 [.int .i64 a0.1, str a0.2.1, str a0.2.2.1.1, .slice A0a a0.2.2.1.2.1.length c0a, .slice A0b a0.2.2.1.2.2.length c0b, .slice A0c a0.2.2.2.1.length c0c, .int .i64 a0.2.2.2.2.1.1, .int .i64 a0.2.2.2.2.1.2.1, str a0.2.2.2.2.1.2.2, .int .i64 a0.2.2.2.2.2.1, .int .i64 a0.2.2.2.2.2.2.1.1, .int .i64 a0.2.2.2.2.2.2.1.2.1, str a0.2.2.2.2.2.2.1.2.2, .int .i64 a0.2.2.2.2.2.2.2.1.1, .int .i64 a0.2.2.2.2.2.2.2.1.2.1, str a0.2.2.2.2.2.2.2.1.2.2, .int .i64 a0.2.2.2.2.2.2.2.2] :: Ro el9 A0a c0a a0.2.2.1.2.1 :: Ro el11 A0b c0b a0.2.2.1.2.2 :: Ro el2 A0c c0c a0.2.2.2.1 :: hs) (fun s2 => txn_right.k2 a0 s2 = some r) (fun s2 x4 hk2 => ?_) (fun J2 => ?_)
    ·unfold txn_right.k2 at hk2
     refine T.seqJ (fun (s3 : Bool) (x5 : Unit) => [(1, .pointer (some ⟨b1, 0, none⟩)), (5, .bool s3)]) (fun s3 x5 => Cl b1 66 [.int .i64 a0.1, str a0.2.1, str a0.2.2.1.1, .slice A0a a0.2.2.1.2.1.length c0a, .slice A0b a0.2.2.1.2.2.length c0b, .slice A0c a0.2.2.2.1.length c0c, .int .i64 a0.2.2.2.2.1.1, .int .i64 a0.2.2.2.2.1.2.1, str a0.2.2.2.2.1.2.2, .int .i64 a0.2.2.2.2.2.1, .int .i64 a0.2.2.2.2.2.2.1.1, .int .i64 a0.2.2.2.2.2.2.1.2.1, str a0.2.2.2.2.2.2.1.2.2, .int .i64 a0.2.2.2.2.2.2.2.1.1, .int .i64 a0.2.2.2.2.2.2.2.1.2.1, str a0.2.2.2.2.2.2.2.1.2.2, .int .i64 a0.2.2.2.2.2.2.2.2] :: Ro el9 A0a c0a a0.2.2.1.2.1 :: Ro el11 A0b c0b a0.2.2.1.2.2 :: Ro el2 A0c c0c a0.2.2.2.1 :: hs) (fun s3 => txn_right.k3 a0 s3 = some r) (fun s3 x5 hk3 => ?_) (fun J3 => ?_)
     ·unfold txn_right.k3 at hk3
      refine sq ?_
      refine br hk3 (fun hb3 hk3 => ?_) (fun hb3 hk3 => ?_)
      ·refine st ?_
       obtain ⟨r3, hg3, hk3⟩ := inv_bind hk3
       refine A.c2g rfl rfl hb3 rfl rfl rfl Tryd.func94 rfl (fun w hS => slices_ContainsFunc_api_Value_api_Value__txn_right_1.c hB hS (i0 := 3) rfl hg3) (fun x6 => ?_)
       refine T.not .list rfl (wants1 rfl rfl rfl hb3) rfl rfl ?_
       refine st ?_
       obtain rfl := inv_some hk3
       refine pk [] 4 ?_
       refine T.ret1 rfl rfl (fun w hS => ⟨(), rfl, hS⟩)
      ·refine st ?_
       obtain rfl := inv_some hk3
       refine pk [] 4 ?_
       refine T.ret1 rfl rfl (fun w hS => ⟨(), rfl, hS⟩)
     ·refine sq ?_
      refine A.cd hk2 rfl (fun hb4 hk2 => ?_) (fun hb4 hk2 => ?_)
      ·refine st ?_
       refine br hk2 (fun hb5 hk2 => ?_) (fun hb5 hk2 => ?_)
       ·refine st ?_
        refine br hk2 (fun hb6 hk2 => ?_) (fun hb6 hk2 => ?_)
        ·refine st ?_
         refine br hk2 (fun hb7 hk2 => ?_) (fun hb7 hk2 => ?_)
         ·refine st ?_
          refine br hk2 (fun hb8 hk2 => ?_) (fun hb8 hk2 => ?_)
          ·refine sx ?_
           exact jn [0, 1, 2, 3] 4 (J3 (decide (a0.2.2.2.2.2.2.2.2 ≤ 4)) () hk2)
          ·refine sx ?_
           exact jn [0, 1, 2, 3] 4 (J3 false () hk2)
         ·refine sx ?_
          exact jn [0, 1, 2, 3] 4 (J3 false () hk2)
        ·refine sx ?_
         exact jn [0, 1, 2, 3] 4 (J3 false () hk2)
       ·refine sx ?_
        exact jn [0, 1, 2, 3] 4 (J3 false () hk2)
      ·refine T.skip ?_
       refine sx ?_
       exact jn [0, 1, 2, 3] 4 (J3 s2 () hk2)
    ·refine st ?_
     obtain ⟨r4, hg4, hk1⟩ := inv_bind hk1
     refine A.c1 rfl rfl Tryd.func84 rfl (fun w hS => schema_Name.c hB hS  hg4) (fun x7 => ?_)
     refine st ?_
     refine br hk1 (fun hb9 hk1 => ?_) (fun hb9 hk1 => ?_)
     ·refine st ?_
      refine br hk1 (fun hb10 hk1 => ?_) (fun hb10 hk1 => ?_)
      ·refine st ?_
       obtain ⟨r5, hg5, hk1⟩ := inv_bind hk1
       refine A.c1g rfl rfl hb10 rfl rfl Tryd.func93 rfl (fun w hS => txn_value.c hB hS (a0 := a0.2.2.2.2.1)  hg5) (fun x8 => ?_)
       refine st ?_
       refine br hk1 (fun hb11 hk1 => ?_) (fun hb11 hk1 => ?_)
       ·refine st ?_
        obtain ⟨r6, hg6, hk1⟩ := inv_bind hk1
        refine A.c1g rfl rfl hb11 rfl rfl Tryd.func93 rfl (fun w hS => txn_value.c hB hS (a0 := a0.2.2.2.2.2.2.1)  hg6) (fun x9 => ?_)
        refine st ?_
        refine br hk1 (fun hb12 hk1 => ?_) (fun hb12 hk1 => ?_)
        ·refine st ?_
         obtain ⟨r7, hg7, hk1⟩ := inv_bind hk1
         refine A.c1g rfl rfl hb12 rfl rfl Tryd.func93 rfl (fun w hS => txn_value.c hB hS (a0 := a0.2.2.2.2.2.2.2.1)  hg7) (fun x10 => ?_)
         refine sx ?_
         exact jn [0, 1, 2, 3] 4 (J2 r7 () hk1)
        ·refine sx ?_
         exact jn [0, 1, 2, 3] 4 (J2 false () hk1)
       ·refine sx ?_
        exact jn [0, 1, 2, 3] 4 (J2 false () hk1)
      ·refine sx ?_
       exact jn [0, 1, 2, 3] 4 (J2 false () hk1)
     ·refine sx ?_
      exact jn [0, 1, 2, 3] 4 (J2 false () hk1)
 ·refine st ?_
  refine T.not .list rfl (wants0 rfl) rfl rfl ?_
  refine st ?_
  refine br hr (fun hb13 hr => ?_) (fun hb13 hr => ?_)
  ·refine st ?_
   obtain ⟨r8, hg8, hr⟩ := inv_bind hr
   refine A.c2g rfl rfl (not_t hb13) rfl rfl rfl Tryd.func92 rfl (fun w hS => txn_same.c hB hS (i0a := 7) (i0b := 6) (i0c := 5) (i1a := 1) (i1b := 2) (i1c := 3) (a0 := a0) (a1 := r1.1) rfl rfl rfl rfl rfl rfl hg8) (fun x11 => ?_)
   refine T.not .list rfl (wants1 rfl rfl rfl (not_t hb13)) rfl rfl ?_
   refine sx ?_
   exact jn [4, 7, 6, 5] 8 (J1 (!r8) () hr)
  ·refine sx ?_
   exact jn [4, 7, 6, 5] 8 (J1 true () hr)

noncomputable def txn_Right_1.impl (a0 : ty7) : Option Bool :=
  (txn_right.impl a0).bind fun r1 => some (!r1)
theorem txn_Right_1.c {a0 : ty7} {i0a c0a : Nat} {A0a : Option Addr} {i0b c0b : Nat} {A0b : Option Addr} {i0c c0c : Nat} {A0c : Option Addr} (hB : Base B) (hS : St B (hs) w) (h0a : (hs)[i0a]? = some (Ro el9 A0a c0a a0.2.2.1.2.1)) (h0b : (hs)[i0b]? = some (Ro el11 A0b c0b a0.2.2.1.2.2)) (h0c : (hs)[i0c]? = some (Ro el2 A0c c0c a0.2.2.2.1)) {r : Bool} (hr : txn_Right_1.impl a0 = some r) :
    Calls Tryd.prog 73 #[.agg #[.int .i64 a0.1, str a0.2.1, str a0.2.2.1.1, .slice A0a a0.2.2.1.2.1.length c0a, .slice A0b a0.2.2.1.2.2.length c0b, .slice A0c a0.2.2.2.1.length c0c, .int .i64 a0.2.2.2.2.1.1, .int .i64 a0.2.2.2.2.1.2.1, str a0.2.2.2.2.1.2.2, .int .i64 a0.2.2.2.2.2.1, .int .i64 a0.2.2.2.2.2.2.1.1, .int .i64 a0.2.2.2.2.2.2.1.2.1, str a0.2.2.2.2.2.2.1.2.2, .int .i64 a0.2.2.2.2.2.2.2.1.1, .int .i64 a0.2.2.2.2.2.2.2.1.2.1, str a0.2.2.2.2.2.2.2.1.2.2, .int .i64 a0.2.2.2.2.2.2.2.2]] w fun e w' => ∃ x : Unit, e = .returned (.bool r) ∧ St B (hs) w' := by
 unfold txn_Right_1.impl at hr
 refine calls_T Tryd.func73 rfl rfl rfl hS ?_
 refine T.front i0a h0a ?_
 refine T.front (i0b + 1) h0b ?_
 refine T.front (i0c + 2) h0c ?_
 refine sq ?_
 refine A.bx rfl rfl (fun b1 => ?_)
 refine sq ?_
 obtain ⟨r1, hg1, hr⟩ := inv_bind hr
 refine A.c1 rfl rfl Tryd.func74 rfl (fun w hS => txn_right.c hB hS (i0a := 3) (i0b := 2) (i0c := 1) (a0 := a0) rfl rfl rfl hg1) (fun x1 => ?_)
 refine T.not .list rfl (wants0 rfl) rfl rfl ?_
 refine st ?_
 obtain rfl := inv_some hr
 refine pk [] 4 ?_
 refine T.ret1 rfl rfl (fun w hS => ⟨(), rfl, hS⟩)

noncomputable def slices_IndexFunc_api_Op_api_Op__txn_Right_1.k1 (s1 : Unit) : Option Int :=
  some (-1)
noncomputable def slices_IndexFunc_api_Op_api_Op__txn_Right_1.st1 (l0 : List ty7) (s2 : Int) : Option (Int ⊕ (Int ⊕ Unit)) :=
  (if ((decide (s2 < ((l0.length : Int))))) = true then chk (0 ≤ s2 ∧ s2 < (l0.length : Int)) ((txn_Right_1.impl ((l0.getD (s2 : Int).toNat default))).bind fun r1 => (if r1 = true then some (.inr (.inl s2)) else some (.inl (IntKind.i64.wrap (s2 + 1))))) else some (.inr (.inr ())))
noncomputable def slices_IndexFunc_api_Op_api_Op__txn_Right_1.impl (l0 : List ty7) : Option Int :=
  (loop (slices_IndexFunc_api_Op_api_Op__txn_Right_1.st1 l0) 0).bind (fun e1 => match e1 with | .inl v => some v | .inr v => slices_IndexFunc_api_Op_api_Op__txn_Right_1.k1 v)
theorem slices_IndexFunc_api_Op_api_Op__txn_Right_1.c {i0 c0 : Nat} {A0 : Option Addr} {l0 : List ty7} (hB : Base B) (hS : St B (hs) w) (h0 : (hs)[i0]? = some (Ro el17 A0 c0 l0)) {r : Int} (hr : slices_IndexFunc_api_Op_api_Op__txn_Right_1.impl l0 = some r) :
    Calls Tryd.prog 90 #[.slice A0 l0.length c0, .func (.func 73) #[] #[]] w fun e w' => ∃ x : Unit, e = .returned (.int .i64 r) ∧ St B (hs) w' := by
 unfold slices_IndexFunc_api_Op_api_Op__txn_Right_1.impl at hr
 refine calls_T Tryd.func90 rfl rfl rfl hS ?_
 refine T.front i0 h0 ?_
 refine T.seq ?_
 refine st ?_
 refine T.seqJ (fun (s1 : Unit) (x1 : Unit) => []) (fun s1 x1 => hs) (fun s1 => slices_IndexFunc_api_Op_api_Op__txn_Right_1.k1 s1 = some r) (fun s1 x1 hk1 => ?_) (fun J1 => ?_)
 ·unfold slices_IndexFunc_api_Op_api_Op__txn_Right_1.k1 at hk1
  refine sq ?_
  obtain rfl := inv_some hk1
  refine pk [] 0 ?_
  refine T.ret1 rfl rfl (fun w hS => ⟨(), rfl, hS⟩)
 ·refine sq ?_
  obtain ⟨e1, hl1, hr⟩ := inv_bind hr
  refine jn [0] 1 (T.loop (s0 := 0) (env := fun s2 x2 => [(0, .slice A0 l0.length c0), (1, .func (.func 73) #[] #[]), (7, .int .i64 ((l0.length : Int))), (8, .int .i64 s2)]) (hs := fun (s2 : Int) (x2 : Unit) => Ro el17 A0 c0 l0 :: hs) hl1 () (fun K1 s2 x2 o1 he1 hm1 hx1 => ?_))
  unfold slices_IndexFunc_api_Op_api_Op__txn_Right_1.st1 at he1
  refine sq ?_
  refine A.cd he1 rfl (fun hb1 he1 => ?_) (fun hb1 he1 => ?_)
  ·refine sq ?_
   obtain ⟨hc1, he1⟩ := inv_chk he1
   refine T.idxRo .list 0 rfl rfl (wants0 rfl) rfl rfl rfl hc1.1 hc1.2 (Nat.le_refl _) ?_
   refine T.ldFRo 0 .list Fd.self (Sh.pair Sh.sc (Sh.pair Sh.sc (Sh.pair (Sh.pair Sh.sc (Sh.pair Sh.slice Sh.slice)) (Sh.pair Sh.slice (Sh.pair (Sh.pair Sh.sc (Sh.pair Sh.sc Sh.sc)) (Sh.pair Sh.sc (Sh.pair (Sh.pair Sh.sc (Sh.pair Sh.sc Sh.sc)) (Sh.pair (Sh.pair Sh.sc (Sh.pair Sh.sc Sh.sc)) Sh.sc)))))))) rfl (.inl rfl) rfl rfl hc1.1 hc1.2 rfl (wants0 rfl) rfl rfl rfl (v := fun x3 => .agg #[.int .i64 ((((l0.getD (s2 : Int).toNat default)).1)), str ((((l0.getD (s2 : Int).toNat default)).2.1)), str (((((l0.getD (s2 : Int).toNat default)).2.2.1).1)), .slice x3.2.2.1.2.1.1 ((((((l0.getD (s2 : Int).toNat default)).2.2.1).2.1)).length) x3.2.2.1.2.1.2, .slice x3.2.2.1.2.2.1 ((((((l0.getD (s2 : Int).toNat default)).2.2.1).2.2)).length) x3.2.2.1.2.2.2, .slice x3.2.2.2.1.1 (((((l0.getD (s2 : Int).toNat default)).2.2.2.1)).length) x3.2.2.2.1.2, .int .i64 (((((l0.getD (s2 : Int).toNat default)).2.2.2.2.1).1)), .int .i64 (((((l0.getD (s2 : Int).toNat default)).2.2.2.2.1).2.1)), str (((((l0.getD (s2 : Int).toNat default)).2.2.2.2.1).2.2)), .int .i64 ((((l0.getD (s2 : Int).toNat default)).2.2.2.2.2.1)), .int .i64 (((((l0.getD (s2 : Int).toNat default)).2.2.2.2.2.2.1).1)), .int .i64 (((((l0.getD (s2 : Int).toNat default)).2.2.2.2.2.2.1).2.1)), str (((((l0.getD (s2 : Int).toNat default)).2.2.2.2.2.2.1).2.2)), .int .i64 (((((l0.getD (s2 : Int).toNat default)).2.2.2.2.2.2.2.1).1)), .int .i64 (((((l0.getD (s2 : Int).toNat default)).2.2.2.2.2.2.2.1).2.1)), str (((((l0.getD (s2 : Int).toNat default)).2.2.2.2.2.2.2.1).2.2)), .int .i64 ((((l0.getD (s2 : Int).toNat default)).2.2.2.2.2.2.2.2))]) (hs' := fun x3 => Ro el9 x3.2.2.1.2.1.1 x3.2.2.1.2.1.2 (((((l0.getD (s2 : Int).toNat default)).2.2.1).2.1)) :: Ro el11 x3.2.2.1.2.2.1 x3.2.2.1.2.2.2 (((((l0.getD (s2 : Int).toNat default)).2.2.1).2.2)) :: Ro el2 x3.2.2.2.1.1 x3.2.2.2.1.2 ((((l0.getD (s2 : Int).toNat default)).2.2.2.1)) :: Ro el17 A0 c0 l0 :: hs) (fun _ => rfl) (fun _ => rfl) (fun x3 => ?_)
   obtain ⟨r1, hg1, he1⟩ := inv_bind he1
   refine T.call .list (wants0 rfl) rfl (run_callV (vs := [_]) (caps := []) (args := [_]) rfl rfl Tryd.func73 rfl (by decide) rfl rfl) (fun w hS => txn_Right_1.c hB hS (i0a := 0) (i0b := 1) (i0c := 2) (a0 := (l0.getD (s2 : Int).toNat default)) rfl rfl rfl hg1) (fun x4 => ?_)
   refine st ?_
   refine A.cd he1 rfl (fun hb2 he1 => ?_) (fun hb2 he1 => ?_)
   ·refine sq ?_
    obtain rfl := inv_some he1
    obtain rfl := hx1 _ rfl
    refine st ?_
    obtain rfl := inv_some hr
    refine pk [] 4 ?_
    refine T.ret1 rfl rfl (fun w hS => ⟨(), rfl, hS⟩)
   ·refine T.skip ?_
    refine sx ?_
    refine T.region ?_
    refine sx ?_
    obtain rfl := inv_some he1
    exact jn [3] 4 (hm1 (IntKind.i64.wrap (s2 + 1)) rfl ())
  ·refine T.exit ?_
   refine sx ?_
   obtain rfl := inv_some he1
   obtain rfl := hx1 _ rfl
   refine sx ?_
   exact T.le EnvLe.nil (T.pick [] 1 rfl rfl nla rfl (J1 () () hr))

noncomputable def slices_ContainsFunc_api_Op_api_Op__txn_Right_1.impl (l0 : List ty7) : Option Bool :=
  (slices_IndexFunc_api_Op_api_Op__txn_Right_1.impl l0).bind fun r1 => some (decide ((0 : Int) ≤ r1))
theorem slices_ContainsFunc_api_Op_api_Op__txn_Right_1.c {i0 c0 : Nat} {A0 : Option Addr} {l0 : List ty7} (hB : Base B) (hS : St B (hs) w) (h0 : (hs)[i0]? = some (Ro el17 A0 c0 l0)) {r : Bool} (hr : slices_ContainsFunc_api_Op_api_Op__txn_Right_1.impl l0 = some r) :
    Calls Tryd.prog 72 #[.slice A0 l0.length c0, .func (.func 73) #[] #[]] w fun e w' => ∃ x : Unit, e = .returned (.bool r) ∧ St B (hs) w' := by
 unfold slices_ContainsFunc_api_Op_api_Op__txn_Right_1.impl at hr
 refine calls_T Tryd.func72 rfl rfl rfl hS ?_
 refine T.front i0 h0 ?_
 refine sq ?_
 obtain ⟨r1, hg1, hr⟩ := inv_bind hr
 refine A.c2 rfl rfl rfl Tryd.func90 rfl (fun w hS => slices_IndexFunc_api_Op_api_Op__txn_Right_1.c hB hS (i0 := 0) rfl hg1) (fun x1 => ?_)
 refine st ?_
 obtain rfl := inv_some hr
 refine pk [] 1 ?_
 refine T.ret1 rfl rfl (fun w hS => ⟨(), rfl, hS⟩)

noncomputable def txn_Right.impl (l0 : List ty7) : Option Bool :=
  (if ((decide ((((l0.length : Int))) ≤ 3))) = true then (slices_ContainsFunc_api_Op_api_Op__txn_Right_1.impl l0).bind fun r1 => some (!r1) else some false)
theorem txn_Right.c {i0 c0 : Nat} {A0 : Option Addr} {l0 : List ty7} (hB : Base B) (hS : St B (hs) w) (h0 : (hs)[i0]? = some (Ro el17 A0 c0 l0)) {r : Bool} (hr : txn_Right.impl l0 = some r) :
    Calls Tryd.prog 55 #[.slice A0 l0.length c0] w fun e w' => ∃ x : Unit, e = .returned (.bool r) ∧ St B (hs) w' := by
 unfold txn_Right.impl at hr
 refine calls_T Tryd.func55 rfl rfl rfl hS ?_
 refine T.front i0 h0 ?_
 refine sq ?_
 refine br hr (fun hb1 hr => ?_) (fun hb1 hr => ?_)
 ·refine st ?_
  obtain ⟨r1, hg1, hr⟩ := inv_bind hr
  refine A.c2g rfl rfl hb1 rfl rfl rfl Tryd.func72 rfl (fun w hS => slices_ContainsFunc_api_Op_api_Op__txn_Right_1.c hB hS (i0 := 0) rfl hg1) (fun x1 => ?_)
  refine T.not .list rfl (wants1 rfl rfl rfl hb1) rfl rfl ?_
  refine st ?_
  obtain rfl := inv_some hr
  refine pk [] 1 ?_
  refine T.ret1 rfl rfl (fun w hS => ⟨(), rfl, hS⟩)
 ·refine st ?_
  obtain rfl := inv_some hr
  refine pk [] 1 ?_
  refine T.ret1 rfl rfl (fun w hS => ⟨(), rfl, hS⟩)
end Go.Proofs.YtpogdeibkghhaaaDoor
