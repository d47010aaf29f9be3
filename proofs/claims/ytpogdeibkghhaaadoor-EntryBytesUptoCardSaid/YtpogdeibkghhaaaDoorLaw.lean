/- Law: what the functions compute, and that the program computes it; printed by a program of ours. -/
import Derived.Test.YtpogdeibkghhaaaDoorRefE
import Derived.Test.YtpogdeibkghhaaaDoorNam
set_option linter.unusedVariables false
set_option linter.unusedSimpArgs false
namespace Go.Proofs.YtpogdeibkghhaaaDoor
open Go.RowKit
set_option maxRecDepth 100000
set_option maxHeartbeats 4000000
variable {B : World} {hs : List MP} {w : World}
noncomputable def law17_told.impl  : Option Bool :=
  (entry_Encode.impl ((2, 2, ([] : List ty8), 7))).bind fun r1 => (entry_Decode.impl r1.1).bind fun r2 => chk (r2.1.2.2.1 = []) (chk ((r1.1.length + (([(0 : UInt8)] : List UInt8)).length) * 1 ≤ 140737488355328) ((entry_Decode.impl ((r1.1 ++ (([(0 : UInt8)] : List UInt8))))).bind fun r3 => chk (r3.1.2.2.1 = []) ((entry_Encode.impl ((0, 0, ([] : List ty8), 0))).bind fun r4 => (entry_EncodeReply.impl ((4, 1, ([] : List (List ty4))))).bind fun r5 => (entry_DecodeReply.impl r5.1).bind fun r6 => (if ((decide (r1.2 = 0))) = true then (if ((decide (r2.2 = 0))) = true then (if ((decide ((0 : Int) < ((r1.1.length : Int))))) = true then (ref17_Same.impl ((2, 2, ([] : List ty8), 7)) r2.1).bind fun r7 => (if r7 = true then (if ((decide (r3.2 = 11))) = true then (if ((decide (r4.2 = 1))) = true then (if ((decide (r5.2 = 0))) = true then (if ((decide (r6.2 = 0))) = true then (if ((decide (r6.1.1 = 4))) = true then some (decide (r6.1.2.1 = 1)) else some false) else some false) else some false) else some false) else some false) else some false) else some false) else some false) else some false))))
theorem law17_told.c (hB : Base B) (hS : St B (hs) w) {r : Bool} (hr : law17_told.impl  = some r) :
    Calls Tryd.prog 8 #[] w fun e w' => ∃ x : Unit, e = .returned (.bool r) ∧ St B (hs) w' := by
 unfold law17_told.impl at hr
 refine calls_T Tryd.func8 rfl rfl rfl hS ?_
 refine sq ?_
 refine T.build .list (vals := [(0, .int .i64 2), (1, .int .i64 2), (3, .int .i64 7)]) (cells := #[.int .i64 2, .int .i64 2, .slice none 0 0, .int .i64 7]) rfl (wants0 rfl) rfl rfl (run_buildStruct (sizes := [1, 1, 1, 1]) (by kernel_rfl) (by kernel_rfl)) ?_
 refine A.al rfl (fun b1 => ?_)
 refine sq ?_
 refine T.nilRo el20 none 0 ?_
 obtain ⟨r1, hg1, hr⟩ := inv_bind hr
 refine A.c1 rfl rfl Tryd.func12 rfl (fun w hS => entry_Encode.c hB hS (i0a := 0) (a0 := (2, 2, ([] : List ty8), 7)) rfl hg1) (fun x1 => ?_)
 refine sq ?_
 obtain ⟨r2, hg2, hr⟩ := inv_bind hr
 obtain ⟨hc1, hr⟩ := inv_chk hr
 refine A.c1 rfl rfl Tryd.func11 rfl (fun w hS => (entry_Decode.c (hB.up hS) (St.borrow (ros := [Ro E8 x1.1 x1.2 r1.1]) (Ros.cons (hS.roBf 0 rfl rfl) Ros.nil)) (i0 := 0) rfl hg2).mono fun e w' ⟨x, he, h1⟩ => ⟨x, he, hS.unborrow (post := [Ro el20 x.1 x.2 r2.1.2.2.1]) h1 (Frees.cons (Ro.freeNil hc1) Frees.nil)⟩) (fun x2 => ?_)
 refine st ?_
 refine A.al rfl (fun b2 => ?_)
 refine sq ?_
 refine T.lit (E := E8) .list (vals := [(0, .int .u8 0)]) (cells := #[.int .u8 0]) rfl (wants0 rfl) rfl rfl rfl rfl rfl (by kernel_rfl) ([(0 : UInt8)] : List UInt8) rfl (fun _ _ _ _ _ => (Encs.c1 (enc := b8) (h1 := fun _ => rfl) rfl rfl)) (fun b3 => ?_)
 obtain ⟨hc2, hr⟩ := inv_chk hr
 refine T.appBf .list 3 0 rfl rfl rfl rfl rfl (wants0 rfl) rfl rfl rfl rfl rfl rfl hc2 (fun _ _ => rfl) (fun A1 c1 => ?_)
 obtain ⟨r3, hg3, hr⟩ := inv_bind hr
 obtain ⟨hc3, hr⟩ := inv_chk hr
 refine A.c1 rfl rfl Tryd.func11 rfl (fun w hS => (entry_Decode.c (hB.up hS) (St.borrow (ros := [Ro E8 A1 c1 ((r1.1 ++ (([(0 : UInt8)] : List UInt8))))]) (Ros.cons (hS.roBf 3 rfl rfl) Ros.nil)) (i0 := 0) rfl hg3).mono fun e w' ⟨x, he, h1⟩ => ⟨x, he, hS.unborrow (post := [Ro el20 x.1 x.2 r3.1.2.2.1]) h1 (Frees.cons (Ro.freeNil hc3) Frees.nil)⟩) (fun x3 => ?_)
 refine st ?_
 refine A.al rfl (fun b4 => ?_)
 refine sq ?_
 refine T.build .list (vals := []) (cells := #[.int .i64 0, .int .i64 0, .slice none 0 0, .int .i64 0]) rfl (wants0 rfl) rfl rfl (run_buildStruct (sizes := [1, 1, 1, 1]) (by kernel_rfl) (by kernel_rfl)) ?_
 refine T.nilRo el20 none 0 ?_
 obtain ⟨r4, hg4, hr⟩ := inv_bind hr
 refine A.c1 rfl rfl Tryd.func12 rfl (fun w hS => entry_Encode.c hB hS (i0a := 0) (a0 := (0, 0, ([] : List ty8), 0)) rfl hg4) (fun x4 => ?_)
 refine sq ?_
 refine T.build .list (vals := [(0, .int .i64 4), (1, .int .i64 1)]) (cells := #[.int .i64 4, .int .i64 1, .slice none 0 0]) rfl (wants0 rfl) rfl rfl (run_buildStruct (sizes := [1, 1, 1]) (by kernel_rfl) (by kernel_rfl)) ?_
 refine T.nilRo el3 none 0 ?_
 obtain ⟨r5, hg5, hr⟩ := inv_bind hr
 refine A.c1 rfl rfl Tryd.func6 rfl (fun w hS => entry_EncodeReply.c hB hS (i0a := 0) (a0 := (4, 1, ([] : List (List ty4)))) rfl hg5) (fun x5 => ?_)
 refine sq ?_
 refine T.freeze 0 rfl rfl rfl ?_
 obtain ⟨r6, hg6, hr⟩ := inv_bind hr
 refine A.c1 rfl rfl Tryd.func9 rfl (fun w hS => entry_DecodeReply.c hB hS (i0 := 0) rfl hg6) (fun x6 => ?_)
 refine st ?_
 refine A.al rfl (fun b5 => ?_)
 refine sq ?_
 refine br hr (fun hb1 hr => ?_) (fun hb1 hr => ?_)
 ·refine st ?_
  refine br hr (fun hb2 hr => ?_) (fun hb2 hr => ?_)
  ·refine st ?_
   refine br hr (fun hb3 hr => ?_) (fun hb3 hr => ?_)
   ·refine st ?_
    refine T.nilRo el20 none 0 ?_
    obtain ⟨r7, hg7, hr⟩ := inv_bind hr
    refine A.c2g rfl rfl hb3 rfl rfl rfl Tryd.func17 rfl (fun w hS => ref17_Same.c hB hS (i0a := 0) (i1a := 11) (a0 := (2, 2, ([] : List ty8), 7)) (a1 := r2.1) rfl rfl hg7) (fun x7 => ?_)
    refine st ?_
    refine br hr (fun hb4 hr => ?_) (fun hb4 hr => ?_)
    ·refine st ?_
     refine br hr (fun hb5 hr => ?_) (fun hb5 hr => ?_)
     ·refine st ?_
      refine br hr (fun hb6 hr => ?_) (fun hb6 hr => ?_)
      ·refine st ?_
       refine br hr (fun hb7 hr => ?_) (fun hb7 hr => ?_)
       ·refine st ?_
        refine br hr (fun hb8 hr => ?_) (fun hb8 hr => ?_)
        ·refine st ?_
         refine br hr (fun hb9 hr => ?_) (fun hb9 hr => ?_)
         ·refine st ?_
          obtain rfl := inv_some hr
          refine pk [] 15 ?_
          refine T.ret1 rfl rfl (fun w hS => ⟨(), rfl, hS⟩)
         ·refine st ?_
          obtain rfl := inv_some hr
          refine pk [] 15 ?_
          refine T.ret1 rfl rfl (fun w hS => ⟨(), rfl, hS⟩)
        ·refine st ?_
         obtain rfl := inv_some hr
         refine pk [] 15 ?_
         refine T.ret1 rfl rfl (fun w hS => ⟨(), rfl, hS⟩)
       ·refine st ?_
        obtain rfl := inv_some hr
        refine pk [] 15 ?_
        refine T.ret1 rfl rfl (fun w hS => ⟨(), rfl, hS⟩)
      ·refine st ?_
       obtain rfl := inv_some hr
       refine pk [] 15 ?_
       refine T.ret1 rfl rfl (fun w hS => ⟨(), rfl, hS⟩)
     ·refine st ?_
      obtain rfl := inv_some hr
      refine pk [] 15 ?_
      refine T.ret1 rfl rfl (fun w hS => ⟨(), rfl, hS⟩)
    ·refine st ?_
     obtain rfl := inv_some hr
     refine pk [] 15 ?_
     refine T.ret1 rfl rfl (fun w hS => ⟨(), rfl, hS⟩)
   ·refine st ?_
    obtain rfl := inv_some hr
    refine pk [] 14 ?_
    refine T.ret1 rfl rfl (fun w hS => ⟨(), rfl, hS⟩)
  ·refine st ?_
   obtain rfl := inv_some hr
   refine pk [] 14 ?_
   refine T.ret1 rfl rfl (fun w hS => ⟨(), rfl, hS⟩)
 ·refine st ?_
  obtain rfl := inv_some hr
  refine pk [] 14 ?_
  refine T.ret1 rfl rfl (fun w hS => ⟨(), rfl, hS⟩)

noncomputable def law17_few.k1 (a0 : Int × Int × (List ty8) × Int) (s1 : (List ty8)) : Option ((Int × Int × (List ty8) × Int)) :=
  some (a0.1, a0.2.1, s1, a0.2.2.2)
noncomputable def law17_few.k2 (s2 : (List ty8) × Int) (a0 : Int × Int × (List ty8) × Int) (s3 : Bool) : Option (((List ty8) × Int) ⊕ ((List ty8))) :=
  (if s3 = true then chk (0 ≤ s2.2 ∧ s2.2 < (a0.2.2.1.length : Int)) (chk (0 ≤ (min ((((((a0.2.2.1.getD (s2.2 : Int).toNat default)).2.2)).length : Int)) 4) ∧ (min ((((((a0.2.2.1.getD (s2.2 : Int).toNat default)).2.2)).length : Int)) 4) ≤ (((((a0.2.2.1.getD (s2.2 : Int).toNat default)).2.2)).length : Int)) ((ref16_CopiedOps.impl (subl ((((a0.2.2.1.getD (s2.2 : Int).toNat default)).2.2)) 0 (min ((((((a0.2.2.1.getD (s2.2 : Int).toNat default)).2.2)).length : Int)) 4))).bind fun r1 => chk ((s2.1.length + (([((((a0.2.2.1.getD (s2.2 : Int).toNat default)).1), (((a0.2.2.1.getD (s2.2 : Int).toNat default)).2.1), r1)] : List ty8)).length) * 40 ≤ 140737488355328) (some (.inl ((s2.1 ++ (([((((a0.2.2.1.getD (s2.2 : Int).toNat default)).1), (((a0.2.2.1.getD (s2.2 : Int).toNat default)).2.1), r1)] : List ty8))), IntKind.i64.wrap (s2.2 + 1)))))) else some (.inr s2.1))
noncomputable def law17_few.st1 (a0 : Int × Int × (List ty8) × Int) (s2 : (List ty8) × Int) : Option (((List ty8) × Int) ⊕ ((List ty8))) :=
  (if ((decide (s2.2 < ((a0.2.2.1.length : Int))))) = true then law17_few.k2 s2 a0 (decide (s2.2 < 4)) else law17_few.k2 s2 a0 false)
noncomputable def law17_few.impl (a0 : Int × Int × (List ty8) × Int) : Option ((Int × Int × (List ty8) × Int)) :=
  (loop (law17_few.st1 a0) (([] : List ty8), 0)).bind (fun e1 => law17_few.k1 a0 e1)
theorem law17_few.c {a0 : Int × Int × (List ty8) × Int} {i0a c0a : Nat} {A0a : Option Addr} (hB : Base B) (hS : St B (hs) w) (h0a : (hs)[i0a]? = some (Ro el20 A0a c0a a0.2.2.1)) {r : (Int × Int × (List ty8) × Int)} (hr : law17_few.impl a0 = some r) :
    Calls Tryd.prog 14 #[.agg #[.int .i64 a0.1, .int .i64 a0.2.1, .slice A0a a0.2.2.1.length c0a, .int .i64 a0.2.2.2]] w fun e w' => ∃ x : ty3, e = .returned (.agg #[.int .i64 r.1, .int .i64 r.2.1, .slice x.1 r.2.2.1.length x.2, .int .i64 r.2.2.2]) ∧ St B (Ro el20 x.1 x.2 r.2.2.1 :: hs) w' := by
 unfold law17_few.impl at hr
 refine calls_T Tryd.func14 rfl rfl rfl hS ?_
 refine T.front i0a h0a ?_
 refine sq ?_
 refine A.bx rfl rfl (fun b1 => ?_)
 refine A.al rfl (fun b2 => ?_)
 refine st ?_
 refine T.seq ?_
 refine st ?_
 refine T.seqJ (fun (s1 : (List ty8)) (x1 : ty3) => [(1, .pointer (some ⟨b1, 0, none⟩)), (2, .pointer (some ⟨b2, 0, none⟩)), (3, .slice x1.1 s1.length x1.2)]) (fun s1 x1 => Cl b1 36 [.int .i64 a0.1, .int .i64 a0.2.1, .slice A0a a0.2.2.1.length c0a, .int .i64 a0.2.2.2] :: Ro el20 A0a c0a a0.2.2.1 :: Cl b2 36 [.int .i64 0, .int .i64 0, .slice none 0 0, .int .i64 0] :: Bf el20 58 x1.1 x1.2 s1 :: hs) (fun s1 => law17_few.k1 a0 s1 = some r) (fun s1 x1 hk1 => ?_) (fun J1 => ?_)
 ·unfold law17_few.k1 at hk1
  refine sq ?_
  obtain rfl := inv_some hk1
  refine T.freeze 3 rfl rfl rfl ?_
  refine T.out1 rfl (OutRun.cellN 2 rfl rfl (vs := [.int .i64 a0.1, .int .i64 a0.2.1, .slice x1.1 s1.length x1.2, .int .i64 a0.2.2.2]) rfl rfl) (fun w hS => ⟨(x1.1, x1.2), rfl, hS.pick [3] 4 rfl rfl nla rfl⟩)
 ·refine sq ?_
  obtain ⟨e1, hl1, hr⟩ := inv_bind hr
  refine T.nilBf el20 58 ?_
  refine jn [2, 3, 1, 0] 4 (T.loop (s0 := (([] : List ty8), 0)) (env := fun s2 x2 => [(1, .pointer (some ⟨b1, 0, none⟩)), (2, .pointer (some ⟨b2, 0, none⟩)), (3, .slice x2.1 s2.1.length x2.2), (4, .int .i64 s2.2)]) (hs := fun (s2 : (List ty8) × Int) (x2 : ty3) => Cl b1 36 [.int .i64 a0.1, .int .i64 a0.2.1, .slice A0a a0.2.2.1.length c0a, .int .i64 a0.2.2.2] :: Ro el20 A0a c0a a0.2.2.1 :: Cl b2 36 [.int .i64 0, .int .i64 0, .slice none 0 0, .int .i64 0] :: Bf el20 58 x2.1 x2.2 s2.1 :: hs) hl1 (none, 0) (fun K1 s2 x2 o1 he1 hm1 hx1 => ?_))
  unfold law17_few.st1 at he1
  refine T.seq ?_
  refine T.seqJ (fun (s3 : Bool) (x3 : Unit) => [(1, .pointer (some ⟨b1, 0, none⟩)), (2, .pointer (some ⟨b2, 0, none⟩)), (3, .slice x2.1 s2.1.length x2.2), (4, .int .i64 s2.2), (14, .bool s3)]) (fun s3 x3 => Cl b1 36 [.int .i64 a0.1, .int .i64 a0.2.1, .slice A0a a0.2.2.1.length c0a, .int .i64 a0.2.2.2] :: Ro el20 A0a c0a a0.2.2.1 :: Cl b2 36 [.int .i64 0, .int .i64 0, .slice none 0 0, .int .i64 0] :: Bf el20 58 x2.1 x2.2 s2.1 :: hs) (fun s3 => law17_few.k2 s2 a0 s3 = some o1) (fun s3 x3 hk2 => ?_) (fun J2 => ?_)
  ·unfold law17_few.k2 at hk2
   refine A.cd hk2 rfl (fun hb1 hk2 => ?_) (fun hb1 hk2 => ?_)
   ·refine sq ?_
    obtain ⟨hc1, hk2⟩ := inv_chk hk2
    refine T.idxRo .list 1 rfl rfl (wants0 rfl) rfl rfl rfl hc1.1 hc1.2 (Nat.le_refl _) ?_
    refine T.ldFRo 1 .list Fd.self (Sh.pair Sh.sc (Sh.pair Sh.sc Sh.slice)) rfl (.inl rfl) rfl rfl hc1.1 hc1.2 rfl (wants0 rfl) rfl rfl rfl (v := fun x4 => .agg #[.int .i64 ((((a0.2.2.1.getD (s2.2 : Int).toNat default)).1)), .int .i64 ((((a0.2.2.1.getD (s2.2 : Int).toNat default)).2.1)), .slice x4.2.2.1 (((((a0.2.2.1.getD (s2.2 : Int).toNat default)).2.2)).length) x4.2.2.2]) (hs' := fun x4 => Ro el17 x4.2.2.1 x4.2.2.2 ((((a0.2.2.1.getD (s2.2 : Int).toNat default)).2.2)) :: Cl b1 36 [.int .i64 a0.1, .int .i64 a0.2.1, .slice A0a a0.2.2.1.length c0a, .int .i64 a0.2.2.2] :: Ro el20 A0a c0a a0.2.2.1 :: Cl b2 36 [.int .i64 0, .int .i64 0, .slice none 0 0, .int .i64 0] :: Bf el20 58 x2.1 x2.2 s2.1 :: hs) (fun _ => rfl) (fun _ => rfl) (fun x4 => ?_)
    refine A.al rfl (fun b3 => ?_)
    refine sq ?_
    refine T.min2 .list rfl (wants0 rfl) rfl rfl rfl ?_
    obtain ⟨hc2, hk2⟩ := inv_chk hk2
    refine T.cut0 .list 1 rfl rfl rfl (wants0 rfl) rfl rfl (.inl rfl) (.inr ⟨_, _, rfl, rfl⟩) hc2.1 hc2.2 ?_
    obtain ⟨r1, hg1, hk2⟩ := inv_bind hk2
    refine A.c1 rfl rfl Tryd.func34 rfl (fun w hS => ref16_CopiedOps.c hB hS (i0 := 0) rfl hg1) (fun x5 => ?_)
    refine st ?_
    refine T.freeze 0 rfl rfl rfl ?_
    refine T.lit (E := Elt.pair E64 el19) .list (vals := [(0, .agg #[.int .i64 ((((a0.2.2.1.getD (s2.2 : Int).toNat default)).1)), .int .i64 ((((a0.2.2.1.getD (s2.2 : Int).toNat default)).2.1)), .slice x5.1 r1.length x5.2])]) (cells := #[.int .i64 ((((a0.2.2.1.getD (s2.2 : Int).toNat default)).1)), .int .i64 ((((a0.2.2.1.getD (s2.2 : Int).toNat default)).2.1)), .slice x5.1 r1.length x5.2]) rfl (wants0 rfl) rfl rfl rfl rfl rfl (by kernel_rfl) ([((((a0.2.2.1.getD (s2.2 : Int).toNat default)).1), (((a0.2.2.1.getD (s2.2 : Int).toNat default)).2.1), r1)] : List ty8) rfl (fun _ _ _ _ ho => (Has.encs ho (Has.pair (Has.sc rfl) (Has.pair (Has.sc rfl) (Has.slice 0 rfl rfl) rfl) rfl) rfl rfl)) (fun b4 => ?_)
    obtain ⟨hc3, hk2⟩ := inv_chk hk2
    refine T.appBf .list 8 0 rfl rfl rfl rfl rfl (wants0 rfl) rfl rfl rfl rfl rfl rfl hc3 (fun _ _ => rfl) (fun A2 c2 => ?_)
    refine sx ?_
    refine T.region ?_
    refine sx ?_
    obtain rfl := inv_some hk2
    exact jn [5, 6, 7, 8] 9 (hm1 ((s2.1 ++ (([((((a0.2.2.1.getD (s2.2 : Int).toNat default)).1), (((a0.2.2.1.getD (s2.2 : Int).toNat default)).2.1), r1)] : List ty8))), IntKind.i64.wrap (s2.2 + 1)) rfl (A2, c2))
   ·refine T.exit ?_
    refine sx ?_
    obtain rfl := inv_some hk2
    obtain rfl := hx1 _ rfl
    refine sx ?_
    exact jn [0, 1, 2, 3] 4 (J1 s2.1 (x2.1, x2.2) hr)
  ·refine st ?_
   refine br he1 (fun hb2 he1 => ?_) (fun hb2 he1 => ?_)
   ·refine sx ?_
    exact jn [0, 1, 2, 3] 4 (J2 (decide (s2.2 < 4)) () he1)
   ·refine sx ?_
    exact jn [0, 1, 2, 3] 4 (J2 false () he1)
end Go.Proofs.YtpogdeibkghhaaaDoor
