/- EntryD: what the functions compute, and that the program computes it; printed by a program of ours. -/
import Derived.Test.YtpogdeibkghhaaaDoorEntryE
import Derived.Test.YtpogdeibkghhaaaDoorNam
set_option linter.unusedVariables false
set_option linter.unusedSimpArgs false
namespace Go.Proofs.YtpogdeibkghhaaaDoor
open Go.RowKit
set_option maxRecDepth 100000
set_option maxHeartbeats 4000000
variable {B : World} {hs : List MP} {w : World}
noncomputable def entry_reader_value.impl (o0 : ty2) : Option (ty4 × ty2) :=
  (entry_reader_row.impl ((o0.1, o0.2.1, o0.2.2))).bind fun r1 => (if ((!(decide ((((r1.1.length : Int))) = 1)))) = true then some ((0, 0, ([] : List UInt8)), (o0.1, r1.2.2.1, true)) else chk (0 ≤ (0 : Int) ∧ (0 : Int) < (r1.1.length : Int)) (some (((((r1.1.getD (0 : Int).toNat default)).1), (((r1.1.getD (0 : Int).toNat default)).2.1), (((r1.1.getD (0 : Int).toNat default)).2.2)), (o0.1, r1.2.2.1, r1.2.2.2))))
theorem entry_reader_value.c {p0 : Nat} {o0 : ty2} {i0a c0a : Nat} {A0a : Option Addr} (hB : Base B) (hS : St B (Cl p0 51 [.slice A0a o0.1.length c0a, .int .i64 o0.2.1, .bool o0.2.2] :: hs) w) (h0a : (Cl p0 51 [.slice A0a o0.1.length c0a, .int .i64 o0.2.1, .bool o0.2.2] :: hs)[i0a]? = some (Ro E8 A0a c0a o0.1)) {r : ty4 × ty2} (hr : entry_reader_value.impl o0 = some r) :
    Calls Tryd.prog 50 #[.pointer (some ⟨p0, 0, none⟩)] w fun e w' => ∃ x : Unit, e = .returned (.agg #[.int .i64 r.1.1, .int .i64 r.1.2.1, str r.1.2.2]) ∧ St B (Cl p0 51 [.slice A0a o0.1.length c0a, .int .i64 r.2.2.1, .bool r.2.2.2] :: hs) w' := by
 unfold entry_reader_value.impl at hr
 refine calls_T Tryd.func50 rfl rfl rfl hS ?_
 refine T.front i0a h0a ?_
 refine sq ?_
 refine A.al rfl (fun b1 => ?_)
 refine sq ?_
 refine T.pick [2, 0, 1] 3 rfl rfl nla (hs' := Cl p0 51 [.slice A0a o0.1.length c0a, .int .i64 o0.2.1, .bool o0.2.2] :: Cl b1 64 [.int .i64 0, .int .i64 0, str (([] : List UInt8))] :: Ro E8 A0a c0a o0.1 :: hs) rfl ?_
 obtain ⟨r1, hg1, hr⟩ := inv_bind hr
 refine A.c1 rfl rfl Tryd.func24 rfl (fun w hS => entry_reader_row.c hB hS (i0a := 2) (o0 := (o0.1, o0.2.1, o0.2.2)) rfl hg1) (fun x1 => ?_)
 refine sq ?_
 refine A.cd hr rfl (fun hb1 hr => ?_) (fun hb1 hr => ?_)
 ·refine sq ?_
  refine T.build .list (vals := []) (cells := #[.int .i64 0, .int .i64 0, str (([] : List UInt8))]) rfl (wants0 rfl) rfl rfl (run_buildStruct (sizes := [1, 1, 1]) (by kernel_rfl) (by kernel_rfl)) ?_
  refine st ?_
  obtain rfl := inv_some hr
  refine T.out1 rfl (OutRun.cellN 2 rfl rfl (vs := [.int .i64 0, .int .i64 0, str (([] : List UInt8))]) rfl rfl) (fun w hS => ⟨(), rfl, hS.pick [1] 4 rfl rfl nla rfl⟩)
 ·refine sq ?_
  obtain ⟨hc1, hr⟩ := inv_chk hr
  refine T.idxBf .list 0 rfl rfl (wants0 rfl) rfl rfl rfl hc1.1 hc1.2 (Nat.le_refl _) ?_
  refine T.ldFBf 0 .list Fd.self (Sh.pair Sh.sc (Sh.pair Sh.sc Sh.sc)) rfl (.inl rfl) rfl rfl hc1.1 hc1.2 rfl (wants0 rfl) rfl rfl rfl (v := fun x2 => .agg #[.int .i64 ((((r1.1.getD (0 : Int).toNat default)).1)), .int .i64 ((((r1.1.getD (0 : Int).toNat default)).2.1)), str ((((r1.1.getD (0 : Int).toNat default)).2.2))]) (hs' := fun x2 => Bf el2 64 x1.1 x1.2 r1.1 :: Cl p0 51 [.slice A0a o0.1.length c0a, .int .i64 r1.2.2.1, .bool r1.2.2.2] :: Cl b1 64 [.int .i64 0, .int .i64 0, str (([] : List UInt8))] :: Ro E8 A0a c0a o0.1 :: hs) (fun _ => rfl) (fun _ => rfl) (fun x2 => ?_)
  refine st ?_
  obtain rfl := inv_some hr
  refine T.out1 rfl (OutRun.cellN 2 rfl rfl (vs := [.int .i64 ((((r1.1.getD (0 : Int).toNat default)).1)), .int .i64 ((((r1.1.getD (0 : Int).toNat default)).2.1)), str ((((r1.1.getD (0 : Int).toNat default)).2.2))]) rfl rfl) (fun w hS => ⟨(), rfl, hS.pick [1] 4 rfl rfl nla rfl⟩)

noncomputable def entry_reader_op.k1 (r1 : Int × ty2) (r2 : List UInt8 × ty2) (r4 : ty6 × Int) (o0 : ty2) (r3 : List UInt8 × ty2) (s1 : Bool) : Option (ty7 × ty2) :=
  some ((r1.1, r2.1, r4.1, ([] : List ty4), (0, 0, ([] : List UInt8)), 0, (0, 0, ([] : List UInt8)), (0, 0, ([] : List UInt8)), 0), (o0.1, r3.2.2.1, s1))
noncomputable def entry_reader_op.k3 (o0 : ty2) (r2 : List UInt8 × ty2) (r1 : Int × ty2) (s3 : Bool) : Option (ty7 × ty2) :=
  (if s3 = true then (entry_reader_value.impl ((o0.1, r2.2.2.1, r2.2.2.2))).bind fun r6 => some ((r1.1, r2.1, (([] : List UInt8), ([] : List ty5), ([] : List ty0)), ([] : List ty4), r6.1, 0, (0, 0, ([] : List UInt8)), (0, 0, ([] : List UInt8)), 0), (o0.1, r6.2.2.1, r6.2.2.2)) else (entry_reader_value.impl ((o0.1, r2.2.2.1, r2.2.2.2))).bind fun r7 => (entry_reader_value.impl ((o0.1, r7.2.2.1, r7.2.2.2))).bind fun r8 => (entry_reader_byte.impl ((o0.1, r8.2.2.1, r8.2.2.2))).bind fun r9 => (entry_reader_byte.impl ((o0.1, r9.2.2.1, r9.2.2.2))).bind fun r10 => some ((r1.1, r2.1, (([] : List UInt8), ([] : List ty5), ([] : List ty0)), ([] : List ty4), (0, 0, ([] : List UInt8)), r9.1, r7.1, r8.1, r10.1), (o0.1, r10.2.2.1, r10.2.2.2)))
noncomputable def entry_reader_op.k2 (o0 : ty2) (r2 : List UInt8 × ty2) (r1 : Int × ty2) (s2 : Bool) : Option (ty7 × ty2) :=
  (if s2 = true then (entry_reader_row.impl ((o0.1, r2.2.2.1, r2.2.2.2))).bind fun r5 => some ((r1.1, r2.1, (([] : List UInt8), ([] : List ty5), ([] : List ty0)), r5.1, (0, 0, ([] : List UInt8)), 0, (0, 0, ([] : List UInt8)), (0, 0, ([] : List UInt8)), 0), (o0.1, r5.2.2.1, r5.2.2.2)) else (if ((decide (r1.1 = 4))) = true then entry_reader_op.k3 o0 r2 r1 (decide (r1.1 = 4)) else entry_reader_op.k3 o0 r2 r1 (decide (r1.1 = 5))))
noncomputable def entry_reader_op.impl (o0 : ty2) : Option (ty7 × ty2) :=
  (entry_reader_byte.impl ((o0.1, o0.2.1, o0.2.2))).bind fun r1 => (entry_reader_text.impl ((o0.1, r1.2.2.1, r1.2.2.2))).bind fun r2 => (if ((decide (r1.1 = 1))) = true then (entry_reader_text.impl ((o0.1, r2.2.2.1, r2.2.2.2))).bind fun r3 => (schema_Decode.impl r3.1).bind fun r4 => (if r3.2.2.2 = true then entry_reader_op.k1 r1 r2 r4 o0 r3 true else entry_reader_op.k1 r1 r2 r4 o0 r3 (!(decide (r4.2 = 0)))) else (if ((decide (r1.1 = 2))) = true then entry_reader_op.k2 o0 r2 r1 (decide (r1.1 = 2)) else entry_reader_op.k2 o0 r2 r1 (decide (r1.1 = 3))))
theorem entry_reader_op.c {p0 : Nat} {o0 : ty2} {i0a c0a : Nat} {A0a : Option Addr} (hB : Base B) (hS : St B (Cl p0 51 [.slice A0a o0.1.length c0a, .int .i64 o0.2.1, .bool o0.2.2] :: hs) w) (h0a : (Cl p0 51 [.slice A0a o0.1.length c0a, .int .i64 o0.2.1, .bool o0.2.2] :: hs)[i0a]? = some (Ro E8 A0a c0a o0.1)) {r : ty7 × ty2} (hr : entry_reader_op.impl o0 = some r) :
    Calls Tryd.prog 27 #[.pointer (some ⟨p0, 0, none⟩)] w fun e w' => ∃ x : ty3 × ty3 × ty3, e = .returned (.agg #[.int .i64 r.1.1, str r.1.2.1, str r.1.2.2.1.1, .slice x.1.1 r.1.2.2.1.2.1.length x.1.2, .slice x.2.1.1 r.1.2.2.1.2.2.length x.2.1.2, .slice x.2.2.1 r.1.2.2.2.1.length x.2.2.2, .int .i64 r.1.2.2.2.2.1.1, .int .i64 r.1.2.2.2.2.1.2.1, str r.1.2.2.2.2.1.2.2, .int .i64 r.1.2.2.2.2.2.1, .int .i64 r.1.2.2.2.2.2.2.1.1, .int .i64 r.1.2.2.2.2.2.2.1.2.1, str r.1.2.2.2.2.2.2.1.2.2, .int .i64 r.1.2.2.2.2.2.2.2.1.1, .int .i64 r.1.2.2.2.2.2.2.2.1.2.1, str r.1.2.2.2.2.2.2.2.1.2.2, .int .i64 r.1.2.2.2.2.2.2.2.2]) ∧ St B (Ro el9 x.1.1 x.1.2 r.1.2.2.1.2.1 :: Ro el11 x.2.1.1 x.2.1.2 r.1.2.2.1.2.2 :: Ro el2 x.2.2.1 x.2.2.2 r.1.2.2.2.1 :: Cl p0 51 [.slice A0a o0.1.length c0a, .int .i64 r.2.2.1, .bool r.2.2.2] :: hs) w' := by
 unfold entry_reader_op.impl at hr
 refine calls_T Tryd.func27 rfl rfl rfl hS ?_
 refine T.front i0a h0a ?_
 refine sq ?_
 refine A.al rfl (fun b1 => ?_)
 refine sq ?_
 refine T.pick [2, 0, 1] 3 rfl rfl nla (hs' := Cl p0 51 [.slice A0a o0.1.length c0a, .int .i64 o0.2.1, .bool o0.2.2] :: Cl b1 66 [.int .i64 0, str (([] : List UInt8)), str (([] : List UInt8)), .slice none 0 0, .slice none 0 0, .slice none 0 0, .int .i64 0, .int .i64 0, str (([] : List UInt8)), .int .i64 0, .int .i64 0, .int .i64 0, str (([] : List UInt8)), .int .i64 0, .int .i64 0, str (([] : List UInt8)), .int .i64 0] :: Ro E8 A0a c0a o0.1 :: hs) rfl ?_
 obtain ⟨r1, hg1, hr⟩ := inv_bind hr
 refine A.c1 rfl rfl Tryd.func23 rfl (fun w hS => entry_reader_byte.c hB hS (i0a := 2) (o0 := (o0.1, o0.2.1, o0.2.2)) rfl hg1) (fun x1 => ?_)
 refine st ?_
 refine T.pick [0, 1, 2] 3 rfl rfl nla (hs' := Cl p0 51 [.slice A0a o0.1.length c0a, .int .i64 r1.2.2.1, .bool r1.2.2.2] :: Cl b1 66 [.int .i64 0, str (([] : List UInt8)), str (([] : List UInt8)), .slice none 0 0, .slice none 0 0, .slice none 0 0, .int .i64 0, .int .i64 0, str (([] : List UInt8)), .int .i64 0, .int .i64 0, .int .i64 0, str (([] : List UInt8)), .int .i64 0, .int .i64 0, str (([] : List UInt8)), .int .i64 0] :: Ro E8 A0a c0a o0.1 :: hs) rfl ?_
 obtain ⟨r2, hg2, hr⟩ := inv_bind hr
 refine A.c1 rfl rfl Tryd.func47 rfl (fun w hS => entry_reader_text.c hB hS (i0a := 2) (o0 := (o0.1, r1.2.2.1, r1.2.2.2)) rfl hg2) (fun x2 => ?_)
 refine T.strBf .list 0 rfl rfl (wants0 rfl) rfl rfl rfl ?_
 refine T.build .list (vals := [(0, .int .i64 r1.1), (1, str r2.1)]) (cells := #[.int .i64 r1.1, str r2.1, str (([] : List UInt8)), .slice none 0 0, .slice none 0 0, .slice none 0 0, .int .i64 0, .int .i64 0, str (([] : List UInt8)), .int .i64 0, .int .i64 0, .int .i64 0, str (([] : List UInt8)), .int .i64 0, .int .i64 0, str (([] : List UInt8)), .int .i64 0]) rfl (wants0 rfl) rfl rfl (run_buildStruct (sizes := [1, 1, 3, 1, 3, 1, 3, 3, 1]) (by kernel_rfl) (by kernel_rfl)) ?_
 refine A.al rfl (fun b2 => ?_)
 refine sq ?_
 refine A.cd hr rfl (fun hb1 hr => ?_) (fun hb1 hr => ?_)
 ·refine sq ?_
  refine T.pick [2, 0, 1, 3, 4] 5 rfl rfl nla (hs' := Cl p0 51 [.slice A0a o0.1.length c0a, .int .i64 r2.2.2.1, .bool r2.2.2.2] :: Cl b2 66 [.int .i64 r1.1, str r2.1, str (([] : List UInt8)), .slice none 0 0, .slice none 0 0, .slice none 0 0, .int .i64 0, .int .i64 0, str (([] : List UInt8)), .int .i64 0, .int .i64 0, .int .i64 0, str (([] : List UInt8)), .int .i64 0, .int .i64 0, str (([] : List UInt8)), .int .i64 0] :: Bf E8 5 x2.1 x2.2 r2.1 :: Cl b1 66 [.int .i64 0, str (([] : List UInt8)), str (([] : List UInt8)), .slice none 0 0, .slice none 0 0, .slice none 0 0, .int .i64 0, .int .i64 0, str (([] : List UInt8)), .int .i64 0, .int .i64 0, .int .i64 0, str (([] : List UInt8)), .int .i64 0, .int .i64 0, str (([] : List UInt8)), .int .i64 0] :: Ro E8 A0a c0a o0.1 :: hs) rfl ?_
  obtain ⟨r3, hg3, hr⟩ := inv_bind hr
  refine A.c1 rfl rfl Tryd.func47 rfl (fun w hS => entry_reader_text.c hB hS (i0a := 4) (o0 := (o0.1, r2.2.2.1, r2.2.2.2)) rfl hg3) (fun x3 => ?_)
  refine T.freeze 0 rfl rfl rfl ?_
  obtain ⟨r4, hg4, hr⟩ := inv_bind hr
  refine A.c1 rfl rfl Tryd.func49 rfl (fun w hS => schema_Decode.c hB hS (i0 := 0) rfl hg4) (fun x4 => ?_)
  refine st ?_
  refine A.al rfl (fun b3 => ?_)
  refine st ?_
  refine T.seqJ (fun (s1 : Bool) (x5 : Unit) => [(2, .pointer (some ⟨b1, 0, none⟩)), (3, .pointer (some ⟨b2, 0, none⟩)), (4, .pointer (some ⟨b3, 0, none⟩))]) (fun s1 x5 => Cl b1 66 [.int .i64 0, str (([] : List UInt8)), str (([] : List UInt8)), .slice none 0 0, .slice none 0 0, .slice none 0 0, .int .i64 0, .int .i64 0, str (([] : List UInt8)), .int .i64 0, .int .i64 0, .int .i64 0, str (([] : List UInt8)), .int .i64 0, .int .i64 0, str (([] : List UInt8)), .int .i64 0] :: Cl b2 66 [.int .i64 r1.1, str r2.1, str (([] : List UInt8)), .slice none 0 0, .slice none 0 0, .slice none 0 0, .int .i64 0, .int .i64 0, str (([] : List UInt8)), .int .i64 0, .int .i64 0, .int .i64 0, str (([] : List UInt8)), .int .i64 0, .int .i64 0, str (([] : List UInt8)), .int .i64 0] :: Cl b3 62 [str r4.1.1, .slice x4.1.1 r4.1.2.1.length x4.1.2, .slice x4.2.1 r4.1.2.2.length x4.2.2] :: Ro el9 x4.1.1 x4.1.2 r4.1.2.1 :: Ro el11 x4.2.1 x4.2.2 r4.1.2.2 :: Cl p0 51 [.slice A0a o0.1.length c0a, .int .i64 r3.2.2.1, .bool s1] :: Ro E8 A0a c0a o0.1 :: hs) (fun s1 => entry_reader_op.k1 r1 r2 r4 o0 r3 s1 = some r) (fun s1 x5 hk1 => ?_) (fun J1 => ?_)
  ·unfold entry_reader_op.k1 at hk1
   refine sq ?_
   obtain rfl := inv_some hk1
   refine T.nilRo el2 none 0 ?_
   refine T.out1 rfl (OutRun.cellN 1 rfl rfl (vs := [.int .i64 r1.1, str r2.1, str r4.1.1, .slice x4.1.1 r4.1.2.1.length x4.1.2, .slice x4.2.1 r4.1.2.2.length x4.2.2, .slice none 0 0, .int .i64 0, .int .i64 0, str (([] : List UInt8)), .int .i64 0, .int .i64 0, .int .i64 0, str (([] : List UInt8)), .int .i64 0, .int .i64 0, str (([] : List UInt8)), .int .i64 0]) rfl rfl) (fun w hS => ⟨((x4.1.1, x4.1.2), (x4.2.1, x4.2.2), (none, 0)), rfl, hS.pick [4, 5, 0, 6] 8 rfl rfl nla rfl⟩)
  ·refine st ?_
   refine br hr (fun hb2 hr => ?_) (fun hb2 hr => ?_)
   ·refine sx ?_
    exact jn [7, 5, 0, 1, 2, 4, 8] 9 (J1 true () hr)
   ·refine sx ?_
    exact jn [7, 5, 0, 1, 2, 4, 8] 9 (J1 (!(decide (r4.2 = 0))) () hr)
 ·refine T.seqJ (fun (s2 : Bool) (x6 : Unit) => [(0, .pointer (some ⟨p0, 0, none⟩)), (2, .pointer (some ⟨b1, 0, none⟩)), (3, .pointer (some ⟨b2, 0, none⟩)), (13, .int .i64 r1.1), (47, .bool s2)]) (fun s2 x6 => Cl p0 51 [.slice A0a o0.1.length c0a, .int .i64 r2.2.2.1, .bool r2.2.2.2] :: Ro E8 A0a c0a o0.1 :: Cl b1 66 [.int .i64 0, str (([] : List UInt8)), str (([] : List UInt8)), .slice none 0 0, .slice none 0 0, .slice none 0 0, .int .i64 0, .int .i64 0, str (([] : List UInt8)), .int .i64 0, .int .i64 0, .int .i64 0, str (([] : List UInt8)), .int .i64 0, .int .i64 0, str (([] : List UInt8)), .int .i64 0] :: Cl b2 66 [.int .i64 r1.1, str r2.1, str (([] : List UInt8)), .slice none 0 0, .slice none 0 0, .slice none 0 0, .int .i64 0, .int .i64 0, str (([] : List UInt8)), .int .i64 0, .int .i64 0, .int .i64 0, str (([] : List UInt8)), .int .i64 0, .int .i64 0, str (([] : List UInt8)), .int .i64 0] :: hs) (fun s2 => entry_reader_op.k2 o0 r2 r1 s2 = some r) (fun s2 x6 hk2 => ?_) (fun J2 => ?_)
  ·unfold entry_reader_op.k2 at hk2
   refine A.cd hk2 rfl (fun hb3 hk2 => ?_) (fun hb3 hk2 => ?_)
   ·refine st ?_
    refine T.pick [0, 1, 2, 3] 4 rfl rfl nla (hs' := Cl p0 51 [.slice A0a o0.1.length c0a, .int .i64 r2.2.2.1, .bool r2.2.2.2] :: Ro E8 A0a c0a o0.1 :: Cl b1 66 [.int .i64 0, str (([] : List UInt8)), str (([] : List UInt8)), .slice none 0 0, .slice none 0 0, .slice none 0 0, .int .i64 0, .int .i64 0, str (([] : List UInt8)), .int .i64 0, .int .i64 0, .int .i64 0, str (([] : List UInt8)), .int .i64 0, .int .i64 0, str (([] : List UInt8)), .int .i64 0] :: Cl b2 66 [.int .i64 r1.1, str r2.1, str (([] : List UInt8)), .slice none 0 0, .slice none 0 0, .slice none 0 0, .int .i64 0, .int .i64 0, str (([] : List UInt8)), .int .i64 0, .int .i64 0, .int .i64 0, str (([] : List UInt8)), .int .i64 0, .int .i64 0, str (([] : List UInt8)), .int .i64 0] :: hs) rfl ?_
    obtain ⟨r5, hg5, hk2⟩ := inv_bind hk2
    refine A.c1 rfl rfl Tryd.func24 rfl (fun w hS => entry_reader_row.c hB hS (i0a := 1) (o0 := (o0.1, r2.2.2.1, r2.2.2.2)) rfl hg5) (fun x7 => ?_)
    refine sq ?_
    obtain rfl := inv_some hk2
    refine T.nilRo el9 none 0 ?_
    refine T.nilRo el11 none 0 ?_
    refine T.freeze 2 rfl rfl rfl ?_
    refine T.out1 rfl (OutRun.cellN 5 rfl rfl (vs := [.int .i64 r1.1, str r2.1, str (([] : List UInt8)), .slice none 0 0, .slice none 0 0, .slice x7.1 r5.1.length x7.2, .int .i64 0, .int .i64 0, str (([] : List UInt8)), .int .i64 0, .int .i64 0, .int .i64 0, str (([] : List UInt8)), .int .i64 0, .int .i64 0, str (([] : List UInt8)), .int .i64 0]) rfl rfl) (fun w hS => ⟨((none, 0), (none, 0), (x7.1, x7.2)), rfl, hS.pick [1, 0, 2, 3] 7 rfl rfl nla rfl⟩)
   ·refine T.seqJ (fun (s3 : Bool) (x8 : Unit) => [(0, .pointer (some ⟨p0, 0, none⟩)), (2, .pointer (some ⟨b1, 0, none⟩)), (3, .pointer (some ⟨b2, 0, none⟩)), (53, .bool s3)]) (fun s3 x8 => Cl p0 51 [.slice A0a o0.1.length c0a, .int .i64 r2.2.2.1, .bool r2.2.2.2] :: Ro E8 A0a c0a o0.1 :: Cl b1 66 [.int .i64 0, str (([] : List UInt8)), str (([] : List UInt8)), .slice none 0 0, .slice none 0 0, .slice none 0 0, .int .i64 0, .int .i64 0, str (([] : List UInt8)), .int .i64 0, .int .i64 0, .int .i64 0, str (([] : List UInt8)), .int .i64 0, .int .i64 0, str (([] : List UInt8)), .int .i64 0] :: Cl b2 66 [.int .i64 r1.1, str r2.1, str (([] : List UInt8)), .slice none 0 0, .slice none 0 0, .slice none 0 0, .int .i64 0, .int .i64 0, str (([] : List UInt8)), .int .i64 0, .int .i64 0, .int .i64 0, str (([] : List UInt8)), .int .i64 0, .int .i64 0, str (([] : List UInt8)), .int .i64 0] :: hs) (fun s3 => entry_reader_op.k3 o0 r2 r1 s3 = some r) (fun s3 x8 hk3 => ?_) (fun J3 => ?_)
    ·unfold entry_reader_op.k3 at hk3
     refine A.cd hk3 rfl (fun hb4 hk3 => ?_) (fun hb4 hk3 => ?_)
     ·refine st ?_
      refine T.pick [0, 1, 2, 3] 4 rfl rfl nla (hs' := Cl p0 51 [.slice A0a o0.1.length c0a, .int .i64 r2.2.2.1, .bool r2.2.2.2] :: Ro E8 A0a c0a o0.1 :: Cl b1 66 [.int .i64 0, str (([] : List UInt8)), str (([] : List UInt8)), .slice none 0 0, .slice none 0 0, .slice none 0 0, .int .i64 0, .int .i64 0, str (([] : List UInt8)), .int .i64 0, .int .i64 0, .int .i64 0, str (([] : List UInt8)), .int .i64 0, .int .i64 0, str (([] : List UInt8)), .int .i64 0] :: Cl b2 66 [.int .i64 r1.1, str r2.1, str (([] : List UInt8)), .slice none 0 0, .slice none 0 0, .slice none 0 0, .int .i64 0, .int .i64 0, str (([] : List UInt8)), .int .i64 0, .int .i64 0, .int .i64 0, str (([] : List UInt8)), .int .i64 0, .int .i64 0, str (([] : List UInt8)), .int .i64 0] :: hs) rfl ?_
      obtain ⟨r6, hg6, hk3⟩ := inv_bind hk3
      refine A.c1 rfl rfl Tryd.func50 rfl (fun w hS => entry_reader_value.c hB hS (i0a := 1) (o0 := (o0.1, r2.2.2.1, r2.2.2.2)) rfl hg6) (fun x9 => ?_)
      refine sq ?_
      obtain rfl := inv_some hk3
      refine T.nilRo el9 none 0 ?_
      refine T.nilRo el11 none 0 ?_
      refine T.nilRo el2 none 0 ?_
      refine T.out1 rfl (OutRun.cellN 5 rfl rfl (vs := [.int .i64 r1.1, str r2.1, str (([] : List UInt8)), .slice none 0 0, .slice none 0 0, .slice none 0 0, .int .i64 r6.1.1, .int .i64 r6.1.2.1, str r6.1.2.2, .int .i64 0, .int .i64 0, .int .i64 0, str (([] : List UInt8)), .int .i64 0, .int .i64 0, str (([] : List UInt8)), .int .i64 0]) rfl rfl) (fun w hS => ⟨((none, 0), (none, 0), (none, 0)), rfl, hS.pick [2, 1, 0, 3] 7 rfl rfl nla rfl⟩)
     ·refine sq ?_
      refine T.pick [0, 1, 2, 3] 4 rfl rfl nla (hs' := Cl p0 51 [.slice A0a o0.1.length c0a, .int .i64 r2.2.2.1, .bool r2.2.2.2] :: Ro E8 A0a c0a o0.1 :: Cl b1 66 [.int .i64 0, str (([] : List UInt8)), str (([] : List UInt8)), .slice none 0 0, .slice none 0 0, .slice none 0 0, .int .i64 0, .int .i64 0, str (([] : List UInt8)), .int .i64 0, .int .i64 0, .int .i64 0, str (([] : List UInt8)), .int .i64 0, .int .i64 0, str (([] : List UInt8)), .int .i64 0] :: Cl b2 66 [.int .i64 r1.1, str r2.1, str (([] : List UInt8)), .slice none 0 0, .slice none 0 0, .slice none 0 0, .int .i64 0, .int .i64 0, str (([] : List UInt8)), .int .i64 0, .int .i64 0, .int .i64 0, str (([] : List UInt8)), .int .i64 0, .int .i64 0, str (([] : List UInt8)), .int .i64 0] :: hs) rfl ?_
      obtain ⟨r7, hg7, hk3⟩ := inv_bind hk3
      refine A.c1 rfl rfl Tryd.func50 rfl (fun w hS => entry_reader_value.c hB hS (i0a := 1) (o0 := (o0.1, r2.2.2.1, r2.2.2.2)) rfl hg7) (fun x10 => ?_)
      refine st ?_
      refine T.pick [0, 1, 2, 3] 4 rfl rfl nla (hs' := Cl p0 51 [.slice A0a o0.1.length c0a, .int .i64 r7.2.2.1, .bool r7.2.2.2] :: Ro E8 A0a c0a o0.1 :: Cl b1 66 [.int .i64 0, str (([] : List UInt8)), str (([] : List UInt8)), .slice none 0 0, .slice none 0 0, .slice none 0 0, .int .i64 0, .int .i64 0, str (([] : List UInt8)), .int .i64 0, .int .i64 0, .int .i64 0, str (([] : List UInt8)), .int .i64 0, .int .i64 0, str (([] : List UInt8)), .int .i64 0] :: Cl b2 66 [.int .i64 r1.1, str r2.1, str (([] : List UInt8)), .slice none 0 0, .slice none 0 0, .slice none 0 0, .int .i64 0, .int .i64 0, str (([] : List UInt8)), .int .i64 0, .int .i64 0, .int .i64 0, str (([] : List UInt8)), .int .i64 0, .int .i64 0, str (([] : List UInt8)), .int .i64 0] :: hs) rfl ?_
      obtain ⟨r8, hg8, hk3⟩ := inv_bind hk3
      refine A.c1 rfl rfl Tryd.func50 rfl (fun w hS => entry_reader_value.c hB hS (i0a := 1) (o0 := (o0.1, r7.2.2.1, r7.2.2.2)) rfl hg8) (fun x11 => ?_)
      refine st ?_
      refine T.pick [0, 1, 2, 3] 4 rfl rfl nla (hs' := Cl p0 51 [.slice A0a o0.1.length c0a, .int .i64 r8.2.2.1, .bool r8.2.2.2] :: Ro E8 A0a c0a o0.1 :: Cl b1 66 [.int .i64 0, str (([] : List UInt8)), str (([] : List UInt8)), .slice none 0 0, .slice none 0 0, .slice none 0 0, .int .i64 0, .int .i64 0, str (([] : List UInt8)), .int .i64 0, .int .i64 0, .int .i64 0, str (([] : List UInt8)), .int .i64 0, .int .i64 0, str (([] : List UInt8)), .int .i64 0] :: Cl b2 66 [.int .i64 r1.1, str r2.1, str (([] : List UInt8)), .slice none 0 0, .slice none 0 0, .slice none 0 0, .int .i64 0, .int .i64 0, str (([] : List UInt8)), .int .i64 0, .int .i64 r7.1.1, .int .i64 r7.1.2.1, str r7.1.2.2, .int .i64 r8.1.1, .int .i64 r8.1.2.1, str r8.1.2.2, .int .i64 0] :: hs) rfl ?_
      obtain ⟨r9, hg9, hk3⟩ := inv_bind hk3
      refine A.c1 rfl rfl Tryd.func23 rfl (fun w hS => entry_reader_byte.c hB hS (i0a := 1) (o0 := (o0.1, r8.2.2.1, r8.2.2.2)) rfl hg9) (fun x12 => ?_)
      refine st ?_
      refine T.pick [0, 1, 2, 3] 4 rfl rfl nla (hs' := Cl p0 51 [.slice A0a o0.1.length c0a, .int .i64 r9.2.2.1, .bool r9.2.2.2] :: Ro E8 A0a c0a o0.1 :: Cl b1 66 [.int .i64 0, str (([] : List UInt8)), str (([] : List UInt8)), .slice none 0 0, .slice none 0 0, .slice none 0 0, .int .i64 0, .int .i64 0, str (([] : List UInt8)), .int .i64 0, .int .i64 0, .int .i64 0, str (([] : List UInt8)), .int .i64 0, .int .i64 0, str (([] : List UInt8)), .int .i64 0] :: Cl b2 66 [.int .i64 r1.1, str r2.1, str (([] : List UInt8)), .slice none 0 0, .slice none 0 0, .slice none 0 0, .int .i64 0, .int .i64 0, str (([] : List UInt8)), .int .i64 0, .int .i64 r7.1.1, .int .i64 r7.1.2.1, str r7.1.2.2, .int .i64 r8.1.1, .int .i64 r8.1.2.1, str r8.1.2.2, .int .i64 0] :: hs) rfl ?_
      obtain ⟨r10, hg10, hk3⟩ := inv_bind hk3
      refine A.c1 rfl rfl Tryd.func23 rfl (fun w hS => entry_reader_byte.c hB hS (i0a := 1) (o0 := (o0.1, r9.2.2.1, r9.2.2.2)) rfl hg10) (fun x13 => ?_)
      refine sq ?_
      obtain rfl := inv_some hk3
      refine T.nilRo el9 none 0 ?_
      refine T.nilRo el11 none 0 ?_
      refine T.nilRo el2 none 0 ?_
      refine T.out1 rfl (OutRun.cellN 5 rfl rfl (vs := [.int .i64 r1.1, str r2.1, str (([] : List UInt8)), .slice none 0 0, .slice none 0 0, .slice none 0 0, .int .i64 0, .int .i64 0, str (([] : List UInt8)), .int .i64 r9.1, .int .i64 r7.1.1, .int .i64 r7.1.2.1, str r7.1.2.2, .int .i64 r8.1.1, .int .i64 r8.1.2.1, str r8.1.2.2, .int .i64 r10.1]) rfl rfl) (fun w hS => ⟨((none, 0), (none, 0), (none, 0)), rfl, hS.pick [2, 1, 0, 3] 7 rfl rfl nla rfl⟩)
    ·refine sq ?_
     refine A.cd hk2 rfl (fun hb5 hk2 => ?_) (fun hb5 hk2 => ?_)
     ·refine T.skip ?_
      refine sx ?_
      exact jn [0, 1, 2, 3] 4 (J3 (decide (r1.1 = 4)) () hk2)
     ·refine T.region ?_
      refine sx ?_
      exact jn [0, 1, 2, 3] 4 (J3 (decide (r1.1 = 5)) () hk2)
  ·refine sq ?_
   refine A.cd hr rfl (fun hb6 hr => ?_) (fun hb6 hr => ?_)
   ·refine T.skip ?_
    refine sx ?_
    exact jn [2, 4, 3, 0] 5 (J2 (decide (r1.1 = 2)) () hr)
   ·refine T.region ?_
    refine sx ?_
    exact jn [2, 4, 3, 0] 5 (J2 (decide (r1.1 = 3)) () hr)

noncomputable def entry_Decode.k2 (r1 : Int × ty2) (r2 : Int × ty2) (s1 : Int × Bool × (List ty8)) (r3 : Int × ty2) (s2 : Bool) : Option ((Int × Int × (List ty8) × Int) × Int) :=
  (if s2 = true then some ((0, 0, ([] : List ty8), 0), 11) else some ((r1.1, r2.1, s1.2.2, r3.1), 0))
noncomputable def entry_Decode.k1 (r1 : Int × ty2) (r2 : Int × ty2) (r3 : Int × ty2) (l0 : List UInt8) (s1 : Int × Bool × (List ty8)) : Option ((Int × Int × (List ty8) × Int) × Int) :=
  (entry_Encode.impl ((r1.1, r2.1, s1.2.2, r3.1))).bind fun r4 => (if s1.2.1 = true then entry_Decode.k2 r1 r2 s1 r3 true else (if ((decide (r4.2 = 0))) = true then (bytes_Equal.impl r4.1 l0).bind fun r5 => entry_Decode.k2 r1 r2 s1 r3 (!r5) else entry_Decode.k2 r1 r2 s1 r3 true))
noncomputable def entry_Decode.k4 (s3 : Int × Bool × (List ty8)) (r6 : Int × ty2) (r7 : Int × ty2) (s5 : Int × Bool × (List ty7)) : Option ((Int × Bool × (List ty8)) ⊕ (Int × Bool × (List ty8))) :=
  chk ((s3.2.2.length + (([(r6.1, r7.1, s5.2.2)] : List ty8)).length) * 40 ≤ 140737488355328) (some (.inl (s5.1, s5.2.1, (s3.2.2 ++ (([(r6.1, r7.1, s5.2.2)] : List ty8))))))
noncomputable def entry_Decode.k5 (l0 : List UInt8) (s6 : Int × Bool × (List ty7) × Int) (s7 : Bool) : Option ((Int × Bool × (List ty7) × Int) ⊕ (Int × Bool × (List ty7))) :=
  (if s7 = true then (entry_reader_op.impl ((l0, s6.1, s6.2.1))).bind fun r9 => chk ((s6.2.2.1.length + (([r9.1] : List ty7)).length) * 224 ≤ 140737488355328) (some (.inl (r9.2.2.1, r9.2.2.2, (s6.2.2.1 ++ (([r9.1] : List ty7))), IntKind.i64.wrap (s6.2.2.2 - 1)))) else some (.inr (s6.1, s6.2.1, s6.2.2.1)))
noncomputable def entry_Decode.st2 (l0 : List UInt8) (s6 : Int × Bool × (List ty7) × Int) : Option ((Int × Bool × (List ty7) × Int) ⊕ (Int × Bool × (List ty7))) :=
  (if ((decide ((0 : Int) < s6.2.2.2))) = true then entry_Decode.k5 l0 s6 (!s6.2.1) else entry_Decode.k5 l0 s6 false)
noncomputable def entry_Decode.k3 (l0 : List UInt8) (s3 : Int × Bool × (List ty8)) (s4 : Bool) : Option ((Int × Bool × (List ty8)) ⊕ (Int × Bool × (List ty8))) :=
  (if s4 = true then (entry_reader_byte.impl ((l0, s3.1, s3.2.1))).bind fun r6 => (entry_reader_uint.impl ((l0, r6.2.2.1, r6.2.2.2))).bind fun r7 => (entry_reader_byte.impl ((l0, r7.2.2.1, r7.2.2.2))).bind fun r8 => (loop (entry_Decode.st2 l0) (r8.2.2.1, r8.2.2.2, ([] : List ty7), r8.1)).bind (fun e2 => entry_Decode.k4 s3 r6 r7 e2) else some (.inr (s3.1, s3.2.1, s3.2.2)))
noncomputable def entry_Decode.st1 (l0 : List UInt8) (s3 : Int × Bool × (List ty8)) : Option ((Int × Bool × (List ty8)) ⊕ (Int × Bool × (List ty8))) :=
  (if s3.2.1 = true then entry_Decode.k3 l0 s3 false else (if ((decide (s3.1 < ((l0.length : Int))))) = true then entry_Decode.k3 l0 s3 (decide ((((s3.2.2.length : Int))) ≤ 3)) else entry_Decode.k3 l0 s3 false))
noncomputable def entry_Decode.impl (l0 : List UInt8) : Option ((Int × Int × (List ty8) × Int) × Int) :=
  (entry_reader_byte.impl ((l0, 0, false))).bind fun r1 => (entry_reader_byte.impl ((l0, r1.2.2.1, r1.2.2.2))).bind fun r2 => (entry_reader_uint.impl ((l0, r2.2.2.1, r2.2.2.2))).bind fun r3 => (loop (entry_Decode.st1 l0) (r3.2.2.1, r3.2.2.2, ([] : List ty8))).bind (fun e1 => entry_Decode.k1 r1 r2 r3 l0 e1)
theorem entry_Decode.c {i0 c0 : Nat} {A0 : Option Addr} {l0 : List UInt8} (hB : Base B) (hS : St B (hs) w) (h0 : (hs)[i0]? = some (Ro E8 A0 c0 l0)) {r : (Int × Int × (List ty8) × Int) × Int} (hr : entry_Decode.impl l0 = some r) :
    Calls Tryd.prog 11 #[.slice A0 l0.length c0] w fun e w' => ∃ x : ty3, e = .returned (.tuple #[.agg #[.int .i64 r.1.1, .int .i64 r.1.2.1, .slice x.1 r.1.2.2.1.length x.2, .int .i64 r.1.2.2.2], .int .i64 r.2]) ∧ St B (Ro el20 x.1 x.2 r.1.2.2.1 :: hs) w' := by
 unfold entry_Decode.impl at hr
 refine calls_T Tryd.func11 rfl rfl rfl hS ?_
 refine T.front i0 h0 ?_
 refine sq ?_
 refine A.al rfl (fun b1 => ?_)
 refine sq ?_
 refine T.build .list (vals := [(0, .slice A0 l0.length c0)]) (cells := #[.slice A0 l0.length c0, .int .i64 0, .bool false]) rfl (wants0 rfl) rfl rfl (run_buildStruct (sizes := [1, 1, 1]) (by kernel_rfl) (by kernel_rfl)) ?_
 refine A.bx rfl rfl (fun b2 => ?_)
 refine sq ?_
 refine T.pick [0, 1, 2] 3 rfl rfl nla (hs' := Cl b2 51 [.slice A0 l0.length c0, .int .i64 0, .bool false] :: Cl b1 36 [.int .i64 0, .int .i64 0, .slice none 0 0, .int .i64 0] :: Ro E8 A0 c0 l0 :: hs) rfl ?_
 obtain ⟨r1, hg1, hr⟩ := inv_bind hr
 refine A.c1 rfl rfl Tryd.func23 rfl (fun w hS => entry_reader_byte.c hB hS (i0a := 2) (o0 := (l0, 0, false)) rfl hg1) (fun x1 => ?_)
 refine st ?_
 refine T.pick [0, 1, 2] 3 rfl rfl nla (hs' := Cl b2 51 [.slice A0 l0.length c0, .int .i64 r1.2.2.1, .bool r1.2.2.2] :: Cl b1 36 [.int .i64 0, .int .i64 0, .slice none 0 0, .int .i64 0] :: Ro E8 A0 c0 l0 :: hs) rfl ?_
 obtain ⟨r2, hg2, hr⟩ := inv_bind hr
 refine A.c1 rfl rfl Tryd.func23 rfl (fun w hS => entry_reader_byte.c hB hS (i0a := 2) (o0 := (l0, r1.2.2.1, r1.2.2.2)) rfl hg2) (fun x2 => ?_)
 refine st ?_
 refine T.pick [0, 1, 2] 3 rfl rfl nla (hs' := Cl b2 51 [.slice A0 l0.length c0, .int .i64 r2.2.2.1, .bool r2.2.2.2] :: Cl b1 36 [.int .i64 0, .int .i64 0, .slice none 0 0, .int .i64 0] :: Ro E8 A0 c0 l0 :: hs) rfl ?_
 obtain ⟨r3, hg3, hr⟩ := inv_bind hr
 refine A.c1 rfl rfl Tryd.func22 rfl (fun w hS => entry_reader_uint.c hB hS (i0a := 2) (o0 := (l0, r2.2.2.1, r2.2.2.2)) rfl hg3) (fun x3 => ?_)
 refine T.build .list (vals := [(0, .int .i64 r1.1), (1, .int .i64 r2.1), (3, .int .i64 r3.1)]) (cells := #[.int .i64 r1.1, .int .i64 r2.1, .slice none 0 0, .int .i64 r3.1]) rfl (wants0 rfl) rfl rfl (run_buildStruct (sizes := [1, 1, 1, 1]) (by kernel_rfl) (by kernel_rfl)) ?_
 refine A.al rfl (fun b3 => ?_)
 refine st ?_
 refine T.seqJ (fun (s1 : Int × Bool × (List ty8)) (x4 : ty3) => [(0, .slice A0 l0.length c0), (2, .pointer (some ⟨b1, 0, none⟩)), (4, .pointer (some ⟨b2, 0, none⟩)), (5, .pointer (some ⟨b3, 0, none⟩))]) (fun s1 x4 => Ro E8 A0 c0 l0 :: Cl b1 36 [.int .i64 0, .int .i64 0, .slice none 0 0, .int .i64 0] :: Cl b2 51 [.slice A0 l0.length c0, .int .i64 s1.1, .bool s1.2.1] :: Cl b3 36 [.int .i64 r1.1, .int .i64 r2.1, .slice x4.1 s1.2.2.length x4.2, .int .i64 r3.1] :: Bf el20 58 x4.1 x4.2 s1.2.2 :: hs) (fun s1 => entry_Decode.k1 r1 r2 r3 l0 s1 = some r) (fun s1 x4 hk1 => ?_) (fun J1 => ?_)
 ·unfold entry_Decode.k1 at hk1
  refine sq ?_
  obtain ⟨r4, hg4, hk1⟩ := inv_bind hk1
  refine A.c1 rfl rfl Tryd.func12 rfl (fun w hS => (entry_Encode.c (hB.up hS) (St.borrow (ros := [Ro el20 x4.1 x4.2 s1.2.2]) (Ros.cons (hS.roBf 4 rfl rfl) Ros.nil)) (i0a := 0) (a0 := (r1.1, r2.1, s1.2.2, r3.1)) rfl hg4).mono fun e w' ⟨x, he, h1⟩ => ⟨x, he, hS.unborrow (post := [Bf E8 5 x.1 x.2 r4.1]) h1 (Frees.cons (Bf.free .sc) Frees.nil)⟩) (fun x5 => ?_)
  refine st ?_
  refine T.seq ?_
  refine T.seqJ (fun (s2 : Bool) (x6 : Unit) => [(2, .pointer (some ⟨b1, 0, none⟩)), (5, .pointer (some ⟨b3, 0, none⟩)), (89, .bool s2)]) (fun s2 x6 => Cl b1 36 [.int .i64 0, .int .i64 0, .slice none 0 0, .int .i64 0] :: Cl b3 36 [.int .i64 r1.1, .int .i64 r2.1, .slice x4.1 s1.2.2.length x4.2, .int .i64 r3.1] :: Bf el20 58 x4.1 x4.2 s1.2.2 :: hs) (fun s2 => entry_Decode.k2 r1 r2 s1 r3 s2 = some r) (fun s2 x6 hk2 => ?_) (fun J2 => ?_)
  ·unfold entry_Decode.k2 at hk2
   refine A.cd hk2 rfl (fun hb1 hk2 => ?_) (fun hb1 hk2 => ?_)
   ·refine sq ?_
    refine T.build .list (vals := []) (cells := #[.int .i64 0, .int .i64 0, .slice none 0 0, .int .i64 0]) rfl (wants0 rfl) rfl rfl (run_buildStruct (sizes := [1, 1, 1, 1]) (by kernel_rfl) (by kernel_rfl)) ?_
    refine st ?_
    obtain rfl := inv_some hk2
    refine T.nilRo el20 none 0 ?_
    refine T.out2 rfl (OutRun.cellN 1 rfl rfl (vs := [.int .i64 0, .int .i64 0, .slice none 0 0, .int .i64 0]) rfl rfl) (OutRun.tmp rfl) (fun w hS => ⟨(none, 0), rfl, hS.pick [0] 4 rfl rfl nla rfl⟩)
   ·refine sq ?_
    obtain rfl := inv_some hk2
    refine T.freeze 2 rfl rfl rfl ?_
    refine T.out2 rfl (OutRun.cellN 0 rfl rfl (vs := [.int .i64 r1.1, .int .i64 r2.1, .slice x4.1 s1.2.2.length x4.2, .int .i64 r3.1]) rfl rfl) (OutRun.tmp rfl) (fun w hS => ⟨(x4.1, x4.2), rfl, hS.pick [2] 3 rfl rfl nla rfl⟩)
  ·refine st ?_
   refine br hk1 (fun hb2 hk1 => ?_) (fun hb2 hk1 => ?_)
   ·refine sx ?_
    exact jn [2, 4, 5] 6 (J2 true () hk1)
   ·refine st ?_
    refine br hk1 (fun hb3 hk1 => ?_) (fun hb3 hk1 => ?_)
    ·refine st ?_
     obtain ⟨r5, hg5, hk1⟩ := inv_bind hk1
     refine A.c2g rfl rfl (not_t hb3) rfl rfl rfl Tryd.func25 rfl (fun w hS => (bytes_Equal.c (hB.up hS) (St.borrow (ros := [Ro E8 x5.1 x5.2 r4.1, Ro E8 A0 c0 l0]) (Ros.cons (hS.roBf 0 rfl rfl) (Ros.cons (hS.roRo 1 rfl) Ros.nil))) (i0 := 0) (i1 := 1) rfl rfl hg5).mono fun e w' ⟨x, he, h1⟩ => ⟨x, he, hS.unborrow (post := []) h1 Frees.nil⟩) (fun x7 => ?_)
     refine T.not .list rfl (wants1 rfl rfl rfl (not_t hb3)) rfl rfl ?_
     refine sx ?_
     exact jn [2, 4, 5] 6 (J2 (!r5) () hk1)
    ·refine sx ?_
     exact jn [2, 4, 5] 6 (J2 true () hk1)
 ·refine st ?_
  obtain ⟨e1, hl1, hr⟩ := inv_bind hr
  refine T.nilBf el20 58 ?_
  refine jn [4, 3, 2, 1, 0] 5 (T.loop (s0 := (r3.2.2.1, r3.2.2.2, ([] : List ty8))) (env := fun s3 x8 => [(0, .slice A0 l0.length c0), (2, .pointer (some ⟨b1, 0, none⟩)), (4, .pointer (some ⟨b2, 0, none⟩)), (5, .pointer (some ⟨b3, 0, none⟩))]) (hs := fun (s3 : Int × Bool × (List ty8)) (x8 : ty3) => Ro E8 A0 c0 l0 :: Cl b1 36 [.int .i64 0, .int .i64 0, .slice none 0 0, .int .i64 0] :: Cl b2 51 [.slice A0 l0.length c0, .int .i64 s3.1, .bool s3.2.1] :: Cl b3 36 [.int .i64 r1.1, .int .i64 r2.1, .slice x8.1 s3.2.2.length x8.2, .int .i64 r3.1] :: Bf el20 58 x8.1 x8.2 s3.2.2 :: hs) hl1 (none, 0) (fun K1 s3 x8 o1 he1 hm1 hx1 => ?_))
  unfold entry_Decode.st1 at he1
  refine T.seq ?_
  refine T.seqJ (fun (s4 : Bool) (x9 : Unit) => [(0, .slice A0 l0.length c0), (2, .pointer (some ⟨b1, 0, none⟩)), (4, .pointer (some ⟨b2, 0, none⟩)), (5, .pointer (some ⟨b3, 0, none⟩)), (39, .bool s4)]) (fun s4 x9 => Ro E8 A0 c0 l0 :: Cl b1 36 [.int .i64 0, .int .i64 0, .slice none 0 0, .int .i64 0] :: Cl b2 51 [.slice A0 l0.length c0, .int .i64 s3.1, .bool s3.2.1] :: Cl b3 36 [.int .i64 r1.1, .int .i64 r2.1, .slice x8.1 s3.2.2.length x8.2, .int .i64 r3.1] :: Bf el20 58 x8.1 x8.2 s3.2.2 :: hs) (fun s4 => entry_Decode.k3 l0 s3 s4 = some o1) (fun s4 x9 hk3 => ?_) (fun J3 => ?_)
  ·unfold entry_Decode.k3 at hk3
   refine A.cd hk3 rfl (fun hb4 hk3 => ?_) (fun hb4 hk3 => ?_)
   ·refine sq ?_
    refine T.pick [2, 0, 1, 3, 4] 5 rfl rfl nla (hs' := Cl b2 51 [.slice A0 l0.length c0, .int .i64 s3.1, .bool s3.2.1] :: Ro E8 A0 c0 l0 :: Cl b1 36 [.int .i64 0, .int .i64 0, .slice none 0 0, .int .i64 0] :: Cl b3 36 [.int .i64 r1.1, .int .i64 r2.1, .slice x8.1 s3.2.2.length x8.2, .int .i64 r3.1] :: Bf el20 58 x8.1 x8.2 s3.2.2 :: hs) rfl ?_
    obtain ⟨r6, hg6, hk3⟩ := inv_bind hk3
    refine A.c1 rfl rfl Tryd.func23 rfl (fun w hS => entry_reader_byte.c hB hS (i0a := 1) (o0 := (l0, s3.1, s3.2.1)) rfl hg6) (fun x10 => ?_)
    refine st ?_
    refine T.pick [0, 1, 2, 3, 4] 5 rfl rfl nla (hs' := Cl b2 51 [.slice A0 l0.length c0, .int .i64 r6.2.2.1, .bool r6.2.2.2] :: Ro E8 A0 c0 l0 :: Cl b1 36 [.int .i64 0, .int .i64 0, .slice none 0 0, .int .i64 0] :: Cl b3 36 [.int .i64 r1.1, .int .i64 r2.1, .slice x8.1 s3.2.2.length x8.2, .int .i64 r3.1] :: Bf el20 58 x8.1 x8.2 s3.2.2 :: hs) rfl ?_
    obtain ⟨r7, hg7, hk3⟩ := inv_bind hk3
    refine A.c1 rfl rfl Tryd.func22 rfl (fun w hS => entry_reader_uint.c hB hS (i0a := 1) (o0 := (l0, r6.2.2.1, r6.2.2.2)) rfl hg7) (fun x11 => ?_)
    refine T.build .list (vals := [(0, .int .i64 r6.1), (1, .int .i64 r7.1)]) (cells := #[.int .i64 r6.1, .int .i64 r7.1, .slice none 0 0]) rfl (wants0 rfl) rfl rfl (run_buildStruct (sizes := [1, 1, 1]) (by kernel_rfl) (by kernel_rfl)) ?_
    refine A.al rfl (fun b4 => ?_)
    refine st ?_
    refine T.seqJ (fun (s5 : Int × Bool × (List ty7)) (x12 : ty3) => [(0, .slice A0 l0.length c0), (2, .pointer (some ⟨b1, 0, none⟩)), (4, .pointer (some ⟨b2, 0, none⟩)), (5, .pointer (some ⟨b3, 0, none⟩)), (6, .pointer (some ⟨b4, 0, none⟩))]) (fun s5 x12 => Ro E8 A0 c0 l0 :: Cl b1 36 [.int .i64 0, .int .i64 0, .slice none 0 0, .int .i64 0] :: Cl b2 51 [.slice A0 l0.length c0, .int .i64 s5.1, .bool s5.2.1] :: Cl b3 36 [.int .i64 r1.1, .int .i64 r2.1, .slice x8.1 s3.2.2.length x8.2, .int .i64 r3.1] :: Bf el20 58 x8.1 x8.2 s3.2.2 :: Cl b4 58 [.int .i64 r6.1, .int .i64 r7.1, .slice x12.1 s5.2.2.length x12.2] :: Bf el17 66 x12.1 x12.2 s5.2.2 :: hs) (fun s5 => entry_Decode.k4 s3 r6 r7 s5 = some o1) (fun s5 x12 hk4 => ?_) (fun J4 => ?_)
    ·unfold entry_Decode.k4 at hk4
     refine st ?_
     refine T.freeze 6 rfl rfl rfl ?_
     refine T.lit (E := Elt.pair E64 el19) .list (vals := [(0, .agg #[.int .i64 r6.1, .int .i64 r7.1, .slice x12.1 s5.2.2.length x12.2])]) (cells := #[.int .i64 r6.1, .int .i64 r7.1, .slice x12.1 s5.2.2.length x12.2]) rfl (wants0 rfl) rfl rfl rfl rfl rfl (by kernel_rfl) ([(r6.1, r7.1, s5.2.2)] : List ty8) rfl (fun _ _ _ _ ho => (Has.encs ho (Has.pair (Has.sc rfl) (Has.pair (Has.sc rfl) (Has.slice 6 rfl rfl) rfl) rfl) rfl rfl)) (fun b5 => ?_)
     obtain ⟨hc1, hk4⟩ := inv_chk hk4
     refine T.appBf .list 5 0 rfl rfl rfl rfl rfl (wants0 rfl) rfl rfl rfl rfl rfl rfl hc1 (fun _ _ => rfl) (fun A2 c2 => ?_)
     refine sx ?_
     obtain rfl := inv_some hk4
     exact jn [1, 2, 3, 4, 5] 8 (hm1 (s5.1, s5.2.1, (s3.2.2 ++ (([(r6.1, r7.1, s5.2.2)] : List ty8)))) rfl (A2, c2))
    ·refine sq ?_
     refine T.pick [1, 0, 2, 3, 4, 5] 6 rfl rfl nla (hs' := Cl b2 51 [.slice A0 l0.length c0, .int .i64 r7.2.2.1, .bool r7.2.2.2] :: Cl b4 58 [.int .i64 r6.1, .int .i64 r7.1, .slice none 0 0] :: Ro E8 A0 c0 l0 :: Cl b1 36 [.int .i64 0, .int .i64 0, .slice none 0 0, .int .i64 0] :: Cl b3 36 [.int .i64 r1.1, .int .i64 r2.1, .slice x8.1 s3.2.2.length x8.2, .int .i64 r3.1] :: Bf el20 58 x8.1 x8.2 s3.2.2 :: hs) rfl ?_
     obtain ⟨r8, hg8, hk3⟩ := inv_bind hk3
     refine A.c1 rfl rfl Tryd.func23 rfl (fun w hS => entry_reader_byte.c hB hS (i0a := 2) (o0 := (l0, r7.2.2.1, r7.2.2.2)) rfl hg8) (fun x13 => ?_)
     refine st ?_
     obtain ⟨e2, hl2, hk3⟩ := inv_bind hk3
     refine T.nilBf el17 66 ?_
     refine jn [3, 4, 1, 5, 6, 2, 0] 7 (T.loop (s0 := (r8.2.2.1, r8.2.2.2, ([] : List ty7), r8.1)) (env := fun s6 x14 => [(0, .slice A0 l0.length c0), (2, .pointer (some ⟨b1, 0, none⟩)), (4, .pointer (some ⟨b2, 0, none⟩)), (5, .pointer (some ⟨b3, 0, none⟩)), (6, .pointer (some ⟨b4, 0, none⟩)), (7, .int .i64 s6.2.2.2)]) (hs := fun (s6 : Int × Bool × (List ty7) × Int) (x14 : ty3) => Ro E8 A0 c0 l0 :: Cl b1 36 [.int .i64 0, .int .i64 0, .slice none 0 0, .int .i64 0] :: Cl b2 51 [.slice A0 l0.length c0, .int .i64 s6.1, .bool s6.2.1] :: Cl b3 36 [.int .i64 r1.1, .int .i64 r2.1, .slice x8.1 s3.2.2.length x8.2, .int .i64 r3.1] :: Bf el20 58 x8.1 x8.2 s3.2.2 :: Cl b4 58 [.int .i64 r6.1, .int .i64 r7.1, .slice x14.1 s6.2.2.1.length x14.2] :: Bf el17 66 x14.1 x14.2 s6.2.2.1 :: hs) hl2 (none, 0) (fun K2 s6 x14 o2 he2 hm2 hx2 => ?_))
     unfold entry_Decode.st2 at he2
     refine T.seq ?_
     refine T.seqJ (fun (s7 : Bool) (x15 : Unit) => [(0, .slice A0 l0.length c0), (2, .pointer (some ⟨b1, 0, none⟩)), (4, .pointer (some ⟨b2, 0, none⟩)), (5, .pointer (some ⟨b3, 0, none⟩)), (6, .pointer (some ⟨b4, 0, none⟩)), (7, .int .i64 s6.2.2.2), (55, .bool s7)]) (fun s7 x15 => Ro E8 A0 c0 l0 :: Cl b1 36 [.int .i64 0, .int .i64 0, .slice none 0 0, .int .i64 0] :: Cl b2 51 [.slice A0 l0.length c0, .int .i64 s6.1, .bool s6.2.1] :: Cl b3 36 [.int .i64 r1.1, .int .i64 r2.1, .slice x8.1 s3.2.2.length x8.2, .int .i64 r3.1] :: Bf el20 58 x8.1 x8.2 s3.2.2 :: Cl b4 58 [.int .i64 r6.1, .int .i64 r7.1, .slice x14.1 s6.2.2.1.length x14.2] :: Bf el17 66 x14.1 x14.2 s6.2.2.1 :: hs) (fun s7 => entry_Decode.k5 l0 s6 s7 = some o2) (fun s7 x15 hk5 => ?_) (fun J5 => ?_)
     ·unfold entry_Decode.k5 at hk5
      refine A.cd hk5 rfl (fun hb5 hk5 => ?_) (fun hb5 hk5 => ?_)
      ·refine sq ?_
       refine T.dStart mixed ?_
       refine D.fi 0 ?_
       refine D.mv 2 ?_
       refine T.dAdd 7 (fun w => w.heap[b4]? = some (.cells [.int .i64 r6.1, .int .i64 r7.1, .slice x14.1 s6.2.2.1.length x14.2].toArray 58 (0, 0))) (Cl.stays 5 rfl) ?_
       refine D.ld 0 1 (.slice x14.1 s6.2.2.1.length x14.2) ?_
       obtain ⟨r9, hg9, hk5⟩ := inv_bind hk5
       refine T.pick [2, 0, 1, 3, 4, 5, 6] 7 rfl rfl nla (hs' := Cl b2 51 [.slice A0 l0.length c0, .int .i64 s6.1, .bool s6.2.1] :: Ro E8 A0 c0 l0 :: Cl b1 36 [.int .i64 0, .int .i64 0, .slice none 0 0, .int .i64 0] :: Cl b3 36 [.int .i64 r1.1, .int .i64 r2.1, .slice x8.1 s3.2.2.length x8.2, .int .i64 r3.1] :: Bf el20 58 x8.1 x8.2 s3.2.2 :: Cl b4 58 [.int .i64 r6.1, .int .i64 r7.1, .slice x14.1 s6.2.2.1.length x14.2] :: Bf el17 66 x14.1 x14.2 s6.2.2.1 :: hs) rfl ?_
       refine D.on 3 ?_
       refine D.c1 rfl (by kernel_rfl) rfl rfl Tryd.func27 rfl (fun w hS => entry_reader_op.c hB hS (i0a := 1) (o0 := (l0, s6.1, s6.2.1)) rfl hg9) (fun x16 => ?_)
       refine T.dNext (phi_cons (.inr (Cl.stays 8 rfl)) phi_nil) ?_
       refine D.on 4 ?_
       refine T.lit (E := Elt.pair E64 el16) (.dOne rfl (by kernel_rfl)) (vals := [(0, .agg #[.int .i64 r9.1.1, str r9.1.2.1, str r9.1.2.2.1.1, .slice x16.1.1 r9.1.2.2.1.2.1.length x16.1.2, .slice x16.2.1.1 r9.1.2.2.1.2.2.length x16.2.1.2, .slice x16.2.2.1 r9.1.2.2.2.1.length x16.2.2.2, .int .i64 r9.1.2.2.2.2.1.1, .int .i64 r9.1.2.2.2.2.1.2.1, str r9.1.2.2.2.2.1.2.2, .int .i64 r9.1.2.2.2.2.2.1, .int .i64 r9.1.2.2.2.2.2.2.1.1, .int .i64 r9.1.2.2.2.2.2.2.1.2.1, str r9.1.2.2.2.2.2.2.1.2.2, .int .i64 r9.1.2.2.2.2.2.2.2.1.1, .int .i64 r9.1.2.2.2.2.2.2.2.1.2.1, str r9.1.2.2.2.2.2.2.2.1.2.2, .int .i64 r9.1.2.2.2.2.2.2.2.2])]) (cells := #[.int .i64 r9.1.1, str r9.1.2.1, str r9.1.2.2.1.1, .slice x16.1.1 r9.1.2.2.1.2.1.length x16.1.2, .slice x16.2.1.1 r9.1.2.2.1.2.2.length x16.2.1.2, .slice x16.2.2.1 r9.1.2.2.2.1.length x16.2.2.2, .int .i64 r9.1.2.2.2.2.1.1, .int .i64 r9.1.2.2.2.2.1.2.1, str r9.1.2.2.2.2.1.2.2, .int .i64 r9.1.2.2.2.2.2.1, .int .i64 r9.1.2.2.2.2.2.2.1.1, .int .i64 r9.1.2.2.2.2.2.2.1.2.1, str r9.1.2.2.2.2.2.2.1.2.2, .int .i64 r9.1.2.2.2.2.2.2.2.1.1, .int .i64 r9.1.2.2.2.2.2.2.2.1.2.1, str r9.1.2.2.2.2.2.2.2.1.2.2, .int .i64 r9.1.2.2.2.2.2.2.2.2]) rfl (wants0 rfl) rfl rfl rfl rfl rfl (by kernel_rfl) ([r9.1] : List ty7) rfl (fun _ _ _ _ ho => (Has.encs ho (Has.pair (Has.sc rfl) (Has.pair (Has.sc rfl) (Has.pair (Has.pair (Has.sc rfl) (Has.pair (Has.slice 0 rfl rfl) (Has.slice 1 rfl rfl) rfl) rfl) (Has.pair (Has.slice 2 rfl rfl) (Has.pair (Has.pair (Has.sc rfl) (Has.pair (Has.sc rfl) (Has.sc rfl) rfl) rfl) (Has.pair (Has.sc rfl) (Has.pair (Has.pair (Has.sc rfl) (Has.pair (Has.sc rfl) (Has.sc rfl) rfl) rfl) (Has.pair (Has.pair (Has.sc rfl) (Has.pair (Has.sc rfl) (Has.sc rfl) rfl) rfl) (Has.sc rfl) rfl) rfl) rfl) rfl) rfl) rfl) rfl) rfl) rfl rfl)) (fun b6 => ?_)
       refine T.dNext (phi_cons (.inr (Cl.stays 9 rfl)) phi_nil) ?_
       obtain ⟨hc2, hk5⟩ := inv_chk hk5
       refine D.on 5 ?_
       refine T.appBf (.dOne rfl (by kernel_rfl)) 10 0 rfl rfl rfl rfl rfl (wants0 rfl) rfl rfl rfl rfl rfl rfl hc2 (fun _ _ => rfl) (fun A3 c3 => ?_)
       refine T.dNext (phi_cons (.inr (Cl.stays 9 rfl)) phi_nil) ?_
       refine D.fi 6 ?_
       refine D.on 7 ?_
       refine T.store (.dOne rfl (by kernel_rfl)) 9 rfl rfl (wants0 rfl) rfl rfl rfl rfl (Nat.le_of_ble_eq_true rfl) rfl (cs' := [.int .i64 r6.1, .int .i64 r7.1, .slice A3 (((s6.2.2.1 ++ (([r9.1] : List ty7)))).length) c3]) rfl rfl ?_
       refine T.dNext (phi_cons (.inl (by kernel_rfl)) phi_nil) ?_
       refine T.dDone (by kernel_rfl) ?_
       refine sx ?_
       refine T.region ?_
       refine sx ?_
       obtain rfl := inv_some hk5
       exact jn [5, 6, 4, 7, 8, 9, 10] 11 (hm2 (r9.2.2.1, r9.2.2.2, (s6.2.2.1 ++ (([r9.1] : List ty7))), IntKind.i64.wrap (s6.2.2.2 - 1)) rfl (A3, c3))
      ·refine T.exit ?_
       refine sx ?_
       obtain rfl := inv_some hk5
       obtain rfl := hx2 _ rfl
       refine sx ?_
       exact jn [0, 1, 2, 3, 4, 5, 6] 7 (J4 (s6.1, s6.2.1, s6.2.2.1) (x14.1, x14.2) hk3)
     ·refine st ?_
      refine br he2 (fun hb6 he2 => ?_) (fun hb6 he2 => ?_)
      ·refine st ?_
       refine T.not .list rfl (wants1 rfl rfl rfl hb6) rfl rfl ?_
       refine sx ?_
       exact jn [0, 1, 2, 3, 4, 5, 6] 7 (J5 (!s6.2.1) () he2)
      ·refine sx ?_
       exact jn [0, 1, 2, 3, 4, 5, 6] 7 (J5 false () he2)
   ·refine T.exit ?_
    refine sx ?_
    obtain rfl := inv_some hk3
    obtain rfl := hx1 _ rfl
    refine sx ?_
    exact jn [0, 1, 2, 3, 4] 5 (J1 (s3.1, s3.2.1, s3.2.2) (x8.1, x8.2) hr)
  ·refine st ?_
   refine T.not .list rfl (wants0 rfl) rfl rfl ?_
   refine st ?_
   refine br he1 (fun hb7 he1 => ?_) (fun hb7 he1 => ?_)
   ·refine sx ?_
    exact jn [0, 1, 2, 3, 4] 5 (J3 false () he1)
   ·refine st ?_
    refine br he1 (fun hb8 he1 => ?_) (fun hb8 he1 => ?_)
    ·refine sx ?_
     exact jn [0, 1, 2, 3, 4] 5 (J3 (decide ((((s3.2.2.length : Int))) ≤ 3)) () he1)
    ·refine sx ?_
     exact jn [0, 1, 2, 3, 4] 5 (J3 false () he1)
end Go.Proofs.YtpogdeibkghhaaaDoor
