/- Entry: what the functions compute, and that the program computes it; printed by a program of ours. -/
import Derived.Test.YtpogdeibkghhaaaDoorTxn
import Derived.Test.YtpogdeibkghhaaaDoorNam
set_option linter.unusedVariables false
set_option linter.unusedSimpArgs false
namespace Go.Proofs.YtpogdeibkghhaaaDoor
open Go.RowKit
set_option maxRecDepth 100000
set_option maxHeartbeats 4000000
variable {B : World} {hs : List MP} {w : World}
noncomputable def entry_EncodeReply.k3 (s3 : List UInt8) : Option ty1 :=
  some (s3, 0)
noncomputable def entry_EncodeReply.st1 (a0 : Int × Int × (List (List ty4))) (s4 : ty1) : Option (ty1 ⊕ (ty1 ⊕ (List UInt8))) :=
  (if ((decide (s4.2 < ((a0.2.2.length : Int))))) = true then chk (0 ≤ s4.2 ∧ s4.2 < (a0.2.2.length : Int)) ((schema_EncodeRow.impl ((a0.2.2.getD (s4.2 : Int).toNat default))).bind fun r1 => (if ((!(decide (r1.2 = 0)))) = true then some (.inr (.inl (([] : List UInt8), 1))) else (wire_Bytes.impl r1.1).bind fun r2 => chk ((s4.1.length + r2.length) * 1 ≤ 140737488355328) (some (.inl ((s4.1 ++ r2), IntKind.i64.wrap (s4.2 + 1)))))) else some (.inr (.inr s4.1)))
noncomputable def entry_EncodeReply.k2 (a0 : Int × Int × (List (List ty4))) (s2 : List UInt8) : Option ty1 :=
  (loop (entry_EncodeReply.st1 a0) (s2, 0)).bind (fun e1 => match e1 with | .inl v => some v | .inr v => entry_EncodeReply.k3 v)
noncomputable def entry_EncodeReply.k1 (a0 : Int × Int × (List (List ty4))) (s1 : Bool) : Option ty1 :=
  (if s1 = true then some (([] : List UInt8), 1) else (wire_Uint.impl a0.1).bind fun r3 => chk ((r3.length + (([(u8 (IntKind.u8.wrap a0.2.1))] : List UInt8)).length) * 1 ≤ 140737488355328) (chk ((((r3 ++ (([(u8 (IntKind.u8.wrap a0.2.1))] : List UInt8)))).length + (([(u8 (IntKind.u8.wrap ((a0.2.2.length : Int))))] : List UInt8)).length) * 1 ≤ 140737488355328) (entry_EncodeReply.k2 a0 (((r3 ++ (([(u8 (IntKind.u8.wrap a0.2.1))] : List UInt8)))) ++ (([(u8 (IntKind.u8.wrap ((a0.2.2.length : Int))))] : List UInt8))))))
noncomputable def entry_EncodeReply.impl (a0 : Int × Int × (List (List ty4))) : Option ty1 :=
  (if ((decide (a0.1 < 0))) = true then entry_EncodeReply.k1 a0 true else (if ((decide ((65536 : Int) < a0.1))) = true then entry_EncodeReply.k1 a0 true else (if ((decide (a0.2.1 < 0))) = true then entry_EncodeReply.k1 a0 true else (if ((decide ((3 : Int) ≤ a0.2.1))) = true then entry_EncodeReply.k1 a0 true else entry_EncodeReply.k1 a0 (decide ((12 : Int) < ((a0.2.2.length : Int))))))))
theorem entry_EncodeReply.c {a0 : Int × Int × (List (List ty4))} {i0a c0a : Nat} {A0a : Option Addr} (hB : Base B) (hS : St B (hs) w) (h0a : (hs)[i0a]? = some (Ro el3 A0a c0a a0.2.2)) {r : ty1} (hr : entry_EncodeReply.impl a0 = some r) :
    Calls Tryd.prog 6 #[.agg #[.int .i64 a0.1, .int .i64 a0.2.1, .slice A0a a0.2.2.length c0a]] w fun e w' => ∃ x : ty3, e = .returned (.tuple #[.slice x.1 r.1.length x.2, .int .i64 r.2]) ∧ St B (Bf E8 5 x.1 x.2 r.1 :: hs) w' := by
 unfold entry_EncodeReply.impl at hr
 refine calls_T Tryd.func6 rfl rfl rfl hS ?_
 refine T.front i0a h0a ?_
 refine sq ?_
 refine A.bx rfl rfl (fun b1 => ?_)
 refine st ?_
 refine T.seq ?_
 refine T.seqJ (fun (s1 : Bool) (x1 : Unit) => [(1, .pointer (some ⟨b1, 0, none⟩)), (32, .bool s1)]) (fun s1 x1 => Cl b1 25 [.int .i64 a0.1, .int .i64 a0.2.1, .slice A0a a0.2.2.length c0a] :: Ro el3 A0a c0a a0.2.2 :: hs) (fun s1 => entry_EncodeReply.k1 a0 s1 = some r) (fun s1 x1 hk1 => ?_) (fun J1 => ?_)
 ·unfold entry_EncodeReply.k1 at hk1
  refine A.cd hk1 rfl (fun hb1 hk1 => ?_) (fun hb1 hk1 => ?_)
  ·refine sq ?_
   obtain rfl := inv_some hk1
   refine T.nilBf E8 5 ?_
   refine pk [0] 3 ?_
   refine T.ret2 rfl rfl rfl (fun w hS => ⟨(none, 0), rfl, hS⟩)
  ·refine st ?_
   refine T.seqJ (fun (s2 : List UInt8) (x2 : ty3) => [(1, .pointer (some ⟨b1, 0, none⟩)), (4, .slice x2.1 s2.length x2.2)]) (fun s2 x2 => Cl b1 25 [.int .i64 a0.1, .int .i64 a0.2.1, .slice A0a a0.2.2.length c0a] :: Ro el3 A0a c0a a0.2.2 :: Bf E8 5 x2.1 x2.2 s2 :: hs) (fun s2 => entry_EncodeReply.k2 a0 s2 = some r) (fun s2 x2 hk2 => ?_) (fun J2 => ?_)
   ·unfold entry_EncodeReply.k2 at hk2
    refine T.seqJ (fun (s3 : List UInt8) (x3 : ty3) => [(4, .slice x3.1 s3.length x3.2)]) (fun s3 x3 => Bf E8 5 x3.1 x3.2 s3 :: hs) (fun s3 => entry_EncodeReply.k3 s3 = some r) (fun s3 x3 hk3 => ?_) (fun J3 => ?_)
    ·unfold entry_EncodeReply.k3 at hk3
     refine sq ?_
     obtain rfl := inv_some hk3
     refine pk [0] 1 ?_
     refine T.ret2 rfl rfl rfl (fun w hS => ⟨(x3.1, x3.2), rfl, hS⟩)
    ·refine sq ?_
     obtain ⟨e1, hl1, hk2⟩ := inv_bind hk2
     refine jn [2, 1] 3 (T.loop (s0 := (s2, 0)) (env := fun s4 x4 => [(4, .slice x4.1 s4.1.length x4.2), (48, .slice A0a a0.2.2.length c0a), (49, .int .i64 ((a0.2.2.length : Int))), (50, .int .i64 s4.2)]) (hs := fun (s4 : ty1) (x4 : ty3) => Bf E8 5 x4.1 x4.2 s4.1 :: Ro el3 A0a c0a a0.2.2 :: hs) hl1 (x2.1, x2.2) (fun K1 s4 x4 o1 he1 hm1 hx1 => ?_))
     unfold entry_EncodeReply.st1 at he1
     refine sq ?_
     refine A.cd he1 rfl (fun hb2 he1 => ?_) (fun hb2 he1 => ?_)
     ·refine sq ?_
      obtain ⟨hc1, he1⟩ := inv_chk he1
      refine T.idxRo .list 1 rfl rfl (wants0 rfl) rfl rfl rfl hc1.1 hc1.2 (Nat.le_refl _) ?_
      refine T.ldSlice .list 1 rfl rfl (wants0 rfl) rfl rfl hc1.1 hc1.2 (fun x5 => ?_)
      refine sq ?_
      obtain ⟨r1, hg1, he1⟩ := inv_bind he1
      refine A.c1 rfl rfl Tryd.func19 rfl (fun w hS => schema_EncodeRow.c hB hS (i0 := 0) rfl hg1) (fun x6 => ?_)
      refine sq ?_
      refine A.cd he1 rfl (fun hb3 he1 => ?_) (fun hb3 he1 => ?_)
      ·refine sq ?_
       obtain rfl := inv_some he1
       obtain rfl := hx1 _ rfl
       refine st ?_
       obtain rfl := inv_some hk2
       refine T.nilBf E8 5 ?_
       refine pk [0] 5 ?_
       refine T.ret2 rfl rfl rfl (fun w hS => ⟨(none, 0), rfl, hS⟩)
      ·refine st ?_
       obtain ⟨r2, hg2, he1⟩ := inv_bind he1
       refine A.c1 rfl rfl Tryd.func20 rfl (fun w hS => (wire_Bytes.c (hB.up hS) (St.borrow (ros := [Ro E8 x6.1 x6.2 r1.1]) (Ros.cons (hS.roBf 0 rfl rfl) Ros.nil)) (i0 := 0) rfl hg2).mono fun e w' ⟨x, he, h1⟩ => ⟨x, he, hS.unborrow (post := [Bf E8 5 x.1 x.2 r2]) h1 (Frees.cons (Bf.free .sc) Frees.nil)⟩) (fun x7 => ?_)
       obtain ⟨hc2, he1⟩ := inv_chk he1
       refine T.appBf .list 3 0 rfl rfl rfl rfl rfl (wants0 rfl) rfl rfl rfl rfl rfl rfl hc2 (fun _ _ => rfl) (fun A2 c2 => ?_)
       refine sx ?_
       refine T.region ?_
       refine sx ?_
       obtain rfl := inv_some he1
       exact jn [3, 4] 5 (hm1 ((s4.1 ++ r2), IntKind.i64.wrap (s4.2 + 1)) rfl (A2, c2))
     ·refine T.exit ?_
      refine sx ?_
      obtain rfl := inv_some he1
      obtain rfl := hx1 _ rfl
      refine sx ?_
      exact jn [0] 2 (J3 s4.1 (x4.1, x4.2) hk2)
   ·refine T.dStart mixed ?_
    refine D.fi 0 ?_
    refine D.fi 3 ?_
    refine D.fi 8 ?_
    refine T.dAdd 15 (fun w => w.heap[b1]? = some (.cells [.int .i64 a0.1, .int .i64 a0.2.1, .slice A0a a0.2.2.length c0a].toArray 25 (0, 0))) (Cl.stays 0 rfl) ?_
    refine D.ld 0 1 (.int .i64 a0.1) ?_
    refine D.ld 0 4 (.int .i64 a0.2.1) ?_
    refine T.conv (.dPure (i := 5) rfl (by kernel_rfl) (fun d _ _ _ _ h => by cases d <;> exact h)) rfl (wants0 rfl) rfl rfl rfl ?_
    refine D.ld 0 9 (.slice A0a a0.2.2.length c0a) ?_
    refine T.lenSlice (.dPure (i := 10) rfl (by kernel_rfl) (fun d _ _ _ _ h => by cases d <;> exact h)) rfl (wants0 rfl) rfl rfl ?_
    refine T.conv (.dPure (i := 11) rfl (by kernel_rfl) (fun d _ _ _ _ h => by cases d <;> exact h)) rfl (wants0 rfl) rfl rfl rfl ?_
    obtain ⟨r3, hg3, hk1⟩ := inv_bind hk1
    obtain ⟨hc3, hk1⟩ := inv_chk hk1
    obtain ⟨hc4, hk1⟩ := inv_chk hk1
    refine T.d3 (i := 2) (j := 6) (k := 12) (by kernel_rfl) ?_ ?_ ?_ 
    ·refine D.c1 rfl (by kernel_rfl) rfl rfl Tryd.func18 rfl (fun w hS => wire_Uint.c hB hS  hg3) (fun x8 => ?_)
     refine T.dNext (phi_cons (.inr (Cl.stays 1 rfl)) phi_nil) ?_
     refine T.d2 (i := 6) (j := 12) (by kernel_rfl) ?_ ?_ 
     ·refine T.lit (E := E8) (.dOne rfl (by kernel_rfl)) (vals := [(0, .int .u8 (IntKind.u8.wrap a0.2.1))]) (cells := #[.int .u8 (IntKind.u8.wrap a0.2.1)]) rfl (wants0 rfl) rfl rfl rfl rfl rfl (by kernel_rfl) ([(u8 (IntKind.u8.wrap a0.2.1))] : List UInt8) rfl (fun _ _ _ _ _ => (Encs.c1 (enc := b8) (h1 := fun _ => rfl) (b8_wrap _) rfl)) (fun b2 => ?_)
      refine T.dNext (phi_cons (.inr (Cl.stays 2 rfl)) phi_nil) ?_
      refine T.d2 (i := 7) (j := 12) (by kernel_rfl) ?_ ?_ 
      ·refine T.appBf (.dOne rfl (by kernel_rfl)) 1 0 rfl rfl rfl rfl rfl (wants0 rfl) rfl rfl rfl rfl rfl rfl hc3 (fun _ _ => rfl) (fun A3 c3 => ?_)
       refine T.dNext (phi_cons (.inr (Cl.stays 2 rfl)) phi_nil) ?_
       refine D.on 12 ?_
       refine T.lit (E := E8) (.dOne rfl (by kernel_rfl)) (vals := [(0, .int .u8 (IntKind.u8.wrap ((a0.2.2.length : Int))))]) (cells := #[.int .u8 (IntKind.u8.wrap ((a0.2.2.length : Int)))]) rfl (wants0 rfl) rfl rfl rfl rfl rfl (by kernel_rfl) ([(u8 (IntKind.u8.wrap ((a0.2.2.length : Int))))] : List UInt8) rfl (fun _ _ _ _ _ => (Encs.c1 (enc := b8) (h1 := fun _ => rfl) (b8_wrap _) rfl)) (fun b3 => ?_)
       refine T.dNext (phi_cons (.inr (Cl.stays 3 rfl)) phi_nil) ?_
       refine D.on 13 ?_
       refine T.appBf (.dOne rfl (by kernel_rfl)) 2 0 rfl rfl rfl rfl rfl (wants0 rfl) rfl rfl rfl rfl rfl rfl hc4 (fun _ _ => rfl) (fun A4 c4 => ?_)
       refine T.dNext (phi_cons (.inr (Cl.stays 3 rfl)) phi_nil) ?_
       refine D.asg 14 ?_
       refine T.dDone (by kernel_rfl) ?_
       refine sx ?_
       exact jn [3, 4, 2] 5 (J2 (((r3 ++ (([(u8 (IntKind.u8.wrap a0.2.1))] : List UInt8)))) ++ (([(u8 (IntKind.u8.wrap ((a0.2.2.length : Int))))] : List UInt8))) (A4, c4) hk1)
      ·refine T.lit (E := E8) (.dOne rfl (by kernel_rfl)) (vals := [(0, .int .u8 (IntKind.u8.wrap ((a0.2.2.length : Int))))]) (cells := #[.int .u8 (IntKind.u8.wrap ((a0.2.2.length : Int)))]) rfl (wants0 rfl) rfl rfl rfl rfl rfl (by kernel_rfl) ([(u8 (IntKind.u8.wrap ((a0.2.2.length : Int))))] : List UInt8) rfl (fun _ _ _ _ _ => (Encs.c1 (enc := b8) (h1 := fun _ => rfl) (b8_wrap _) rfl)) (fun b3 => ?_)
       refine T.dNext (phi_cons (.inr (Cl.stays 3 rfl)) phi_nil) ?_
       refine D.on 7 ?_
       refine T.appBf (.dOne rfl (by kernel_rfl)) 2 1 rfl rfl rfl rfl rfl (wants0 rfl) rfl rfl rfl rfl rfl rfl hc3 (fun _ _ => rfl) (fun A3 c3 => ?_)
       refine T.dNext (phi_cons (.inr (Cl.stays 3 rfl)) phi_nil) ?_
       refine D.on 13 ?_
       refine T.appBf (.dOne rfl (by kernel_rfl)) 2 0 rfl rfl rfl rfl rfl (wants0 rfl) rfl rfl rfl rfl rfl rfl hc4 (fun _ _ => rfl) (fun A4 c4 => ?_)
       refine T.dNext (phi_cons (.inr (Cl.stays 3 rfl)) phi_nil) ?_
       refine D.asg 14 ?_
       refine T.dDone (by kernel_rfl) ?_
       refine sx ?_
       exact jn [3, 4, 2] 5 (J2 (((r3 ++ (([(u8 (IntKind.u8.wrap a0.2.1))] : List UInt8)))) ++ (([(u8 (IntKind.u8.wrap ((a0.2.2.length : Int))))] : List UInt8))) (A4, c4) hk1)
     ·refine T.lit (E := E8) (.dOne rfl (by kernel_rfl)) (vals := [(0, .int .u8 (IntKind.u8.wrap ((a0.2.2.length : Int))))]) (cells := #[.int .u8 (IntKind.u8.wrap ((a0.2.2.length : Int)))]) rfl (wants0 rfl) rfl rfl rfl rfl rfl (by kernel_rfl) ([(u8 (IntKind.u8.wrap ((a0.2.2.length : Int))))] : List UInt8) rfl (fun _ _ _ _ _ => (Encs.c1 (enc := b8) (h1 := fun _ => rfl) (b8_wrap _) rfl)) (fun b3 => ?_)
      refine T.dNext (phi_cons (.inr (Cl.stays 2 rfl)) phi_nil) ?_
      refine D.on 6 ?_
      refine T.lit (E := E8) (.dOne rfl (by kernel_rfl)) (vals := [(0, .int .u8 (IntKind.u8.wrap a0.2.1))]) (cells := #[.int .u8 (IntKind.u8.wrap a0.2.1)]) rfl (wants0 rfl) rfl rfl rfl rfl rfl (by kernel_rfl) ([(u8 (IntKind.u8.wrap a0.2.1))] : List UInt8) rfl (fun _ _ _ _ _ => (Encs.c1 (enc := b8) (h1 := fun _ => rfl) (b8_wrap _) rfl)) (fun b2 => ?_)
      refine T.dNext (phi_cons (.inr (Cl.stays 3 rfl)) phi_nil) ?_
      refine D.on 7 ?_
      refine T.appBf (.dOne rfl (by kernel_rfl)) 2 0 rfl rfl rfl rfl rfl (wants0 rfl) rfl rfl rfl rfl rfl rfl hc3 (fun _ _ => rfl) (fun A3 c3 => ?_)
      refine T.dNext (phi_cons (.inr (Cl.stays 3 rfl)) phi_nil) ?_
      refine D.on 13 ?_
      refine T.appBf (.dOne rfl (by kernel_rfl)) 2 1 rfl rfl rfl rfl rfl (wants0 rfl) rfl rfl rfl rfl rfl rfl hc4 (fun _ _ => rfl) (fun A4 c4 => ?_)
      refine T.dNext (phi_cons (.inr (Cl.stays 3 rfl)) phi_nil) ?_
      refine D.asg 14 ?_
      refine T.dDone (by kernel_rfl) ?_
      refine sx ?_
      exact jn [3, 4, 2] 5 (J2 (((r3 ++ (([(u8 (IntKind.u8.wrap a0.2.1))] : List UInt8)))) ++ (([(u8 (IntKind.u8.wrap ((a0.2.2.length : Int))))] : List UInt8))) (A4, c4) hk1)
    ·refine T.lit (E := E8) (.dOne rfl (by kernel_rfl)) (vals := [(0, .int .u8 (IntKind.u8.wrap a0.2.1))]) (cells := #[.int .u8 (IntKind.u8.wrap a0.2.1)]) rfl (wants0 rfl) rfl rfl rfl rfl rfl (by kernel_rfl) ([(u8 (IntKind.u8.wrap a0.2.1))] : List UInt8) rfl (fun _ _ _ _ _ => (Encs.c1 (enc := b8) (h1 := fun _ => rfl) (b8_wrap _) rfl)) (fun b2 => ?_)
     refine T.dNext (phi_cons (.inr (Cl.stays 1 rfl)) phi_nil) ?_
     refine T.d2 (i := 2) (j := 12) (by kernel_rfl) ?_ ?_ 
     ·refine D.c1 rfl (by kernel_rfl) rfl rfl Tryd.func18 rfl (fun w hS => wire_Uint.c hB hS  hg3) (fun x8 => ?_)
      refine T.dNext (phi_cons (.inr (Cl.stays 2 rfl)) phi_nil) ?_
      refine T.d2 (i := 7) (j := 12) (by kernel_rfl) ?_ ?_ 
      ·refine T.appBf (.dOne rfl (by kernel_rfl)) 0 1 rfl rfl rfl rfl rfl (wants0 rfl) rfl rfl rfl rfl rfl rfl hc3 (fun _ _ => rfl) (fun A3 c3 => ?_)
       refine T.dNext (phi_cons (.inr (Cl.stays 2 rfl)) phi_nil) ?_
       refine D.on 12 ?_
       refine T.lit (E := E8) (.dOne rfl (by kernel_rfl)) (vals := [(0, .int .u8 (IntKind.u8.wrap ((a0.2.2.length : Int))))]) (cells := #[.int .u8 (IntKind.u8.wrap ((a0.2.2.length : Int)))]) rfl (wants0 rfl) rfl rfl rfl rfl rfl (by kernel_rfl) ([(u8 (IntKind.u8.wrap ((a0.2.2.length : Int))))] : List UInt8) rfl (fun _ _ _ _ _ => (Encs.c1 (enc := b8) (h1 := fun _ => rfl) (b8_wrap _) rfl)) (fun b3 => ?_)
       refine T.dNext (phi_cons (.inr (Cl.stays 3 rfl)) phi_nil) ?_
       refine D.on 13 ?_
       refine T.appBf (.dOne rfl (by kernel_rfl)) 1 0 rfl rfl rfl rfl rfl (wants0 rfl) rfl rfl rfl rfl rfl rfl hc4 (fun _ _ => rfl) (fun A4 c4 => ?_)
       refine T.dNext (phi_cons (.inr (Cl.stays 3 rfl)) phi_nil) ?_
       refine D.asg 14 ?_
       refine T.dDone (by kernel_rfl) ?_
       refine sx ?_
       exact jn [3, 4, 1] 5 (J2 (((r3 ++ (([(u8 (IntKind.u8.wrap a0.2.1))] : List UInt8)))) ++ (([(u8 (IntKind.u8.wrap ((a0.2.2.length : Int))))] : List UInt8))) (A4, c4) hk1)
      ·refine T.lit (E := E8) (.dOne rfl (by kernel_rfl)) (vals := [(0, .int .u8 (IntKind.u8.wrap ((a0.2.2.length : Int))))]) (cells := #[.int .u8 (IntKind.u8.wrap ((a0.2.2.length : Int)))]) rfl (wants0 rfl) rfl rfl rfl rfl rfl (by kernel_rfl) ([(u8 (IntKind.u8.wrap ((a0.2.2.length : Int))))] : List UInt8) rfl (fun _ _ _ _ _ => (Encs.c1 (enc := b8) (h1 := fun _ => rfl) (b8_wrap _) rfl)) (fun b3 => ?_)
       refine T.dNext (phi_cons (.inr (Cl.stays 3 rfl)) phi_nil) ?_
       refine D.on 7 ?_
       refine T.appBf (.dOne rfl (by kernel_rfl)) 1 2 rfl rfl rfl rfl rfl (wants0 rfl) rfl rfl rfl rfl rfl rfl hc3 (fun _ _ => rfl) (fun A3 c3 => ?_)
       refine T.dNext (phi_cons (.inr (Cl.stays 3 rfl)) phi_nil) ?_
       refine D.on 13 ?_
       refine T.appBf (.dOne rfl (by kernel_rfl)) 1 0 rfl rfl rfl rfl rfl (wants0 rfl) rfl rfl rfl rfl rfl rfl hc4 (fun _ _ => rfl) (fun A4 c4 => ?_)
       refine T.dNext (phi_cons (.inr (Cl.stays 3 rfl)) phi_nil) ?_
       refine D.asg 14 ?_
       refine T.dDone (by kernel_rfl) ?_
       refine sx ?_
       exact jn [3, 4, 1] 5 (J2 (((r3 ++ (([(u8 (IntKind.u8.wrap a0.2.1))] : List UInt8)))) ++ (([(u8 (IntKind.u8.wrap ((a0.2.2.length : Int))))] : List UInt8))) (A4, c4) hk1)
     ·refine T.lit (E := E8) (.dOne rfl (by kernel_rfl)) (vals := [(0, .int .u8 (IntKind.u8.wrap ((a0.2.2.length : Int))))]) (cells := #[.int .u8 (IntKind.u8.wrap ((a0.2.2.length : Int)))]) rfl (wants0 rfl) rfl rfl rfl rfl rfl (by kernel_rfl) ([(u8 (IntKind.u8.wrap ((a0.2.2.length : Int))))] : List UInt8) rfl (fun _ _ _ _ _ => (Encs.c1 (enc := b8) (h1 := fun _ => rfl) (b8_wrap _) rfl)) (fun b3 => ?_)
      refine T.dNext (phi_cons (.inr (Cl.stays 2 rfl)) phi_nil) ?_
      refine D.on 2 ?_
      refine D.c1 rfl (by kernel_rfl) rfl rfl Tryd.func18 rfl (fun w hS => wire_Uint.c hB hS  hg3) (fun x8 => ?_)
      refine T.dNext (phi_cons (.inr (Cl.stays 3 rfl)) phi_nil) ?_
      refine D.on 7 ?_
      refine T.appBf (.dOne rfl (by kernel_rfl)) 0 2 rfl rfl rfl rfl rfl (wants0 rfl) rfl rfl rfl rfl rfl rfl hc3 (fun _ _ => rfl) (fun A3 c3 => ?_)
      refine T.dNext (phi_cons (.inr (Cl.stays 3 rfl)) phi_nil) ?_
      refine D.on 13 ?_
      refine T.appBf (.dOne rfl (by kernel_rfl)) 0 1 rfl rfl rfl rfl rfl (wants0 rfl) rfl rfl rfl rfl rfl rfl hc4 (fun _ _ => rfl) (fun A4 c4 => ?_)
      refine T.dNext (phi_cons (.inr (Cl.stays 3 rfl)) phi_nil) ?_
      refine D.asg 14 ?_
      refine T.dDone (by kernel_rfl) ?_
      refine sx ?_
      exact jn [3, 4, 0] 5 (J2 (((r3 ++ (([(u8 (IntKind.u8.wrap a0.2.1))] : List UInt8)))) ++ (([(u8 (IntKind.u8.wrap ((a0.2.2.length : Int))))] : List UInt8))) (A4, c4) hk1)
    ·refine T.lit (E := E8) (.dOne rfl (by kernel_rfl)) (vals := [(0, .int .u8 (IntKind.u8.wrap ((a0.2.2.length : Int))))]) (cells := #[.int .u8 (IntKind.u8.wrap ((a0.2.2.length : Int)))]) rfl (wants0 rfl) rfl rfl rfl rfl rfl (by kernel_rfl) ([(u8 (IntKind.u8.wrap ((a0.2.2.length : Int))))] : List UInt8) rfl (fun _ _ _ _ _ => (Encs.c1 (enc := b8) (h1 := fun _ => rfl) (b8_wrap _) rfl)) (fun b3 => ?_)
     refine T.dNext (phi_cons (.inr (Cl.stays 1 rfl)) phi_nil) ?_
     refine T.d2 (i := 2) (j := 6) (by kernel_rfl) ?_ ?_ 
     ·refine D.c1 rfl (by kernel_rfl) rfl rfl Tryd.func18 rfl (fun w hS => wire_Uint.c hB hS  hg3) (fun x8 => ?_)
      refine T.dNext (phi_cons (.inr (Cl.stays 2 rfl)) phi_nil) ?_
      refine D.on 6 ?_
      refine T.lit (E := E8) (.dOne rfl (by kernel_rfl)) (vals := [(0, .int .u8 (IntKind.u8.wrap a0.2.1))]) (cells := #[.int .u8 (IntKind.u8.wrap a0.2.1)]) rfl (wants0 rfl) rfl rfl rfl rfl rfl (by kernel_rfl) ([(u8 (IntKind.u8.wrap a0.2.1))] : List UInt8) rfl (fun _ _ _ _ _ => (Encs.c1 (enc := b8) (h1 := fun _ => rfl) (b8_wrap _) rfl)) (fun b2 => ?_)
      refine T.dNext (phi_cons (.inr (Cl.stays 3 rfl)) phi_nil) ?_
      refine D.on 7 ?_
      refine T.appBf (.dOne rfl (by kernel_rfl)) 1 0 rfl rfl rfl rfl rfl (wants0 rfl) rfl rfl rfl rfl rfl rfl hc3 (fun _ _ => rfl) (fun A3 c3 => ?_)
      refine T.dNext (phi_cons (.inr (Cl.stays 3 rfl)) phi_nil) ?_
      refine D.on 13 ?_
      refine T.appBf (.dOne rfl (by kernel_rfl)) 1 2 rfl rfl rfl rfl rfl (wants0 rfl) rfl rfl rfl rfl rfl rfl hc4 (fun _ _ => rfl) (fun A4 c4 => ?_)
      refine T.dNext (phi_cons (.inr (Cl.stays 3 rfl)) phi_nil) ?_
      refine D.asg 14 ?_
      refine T.dDone (by kernel_rfl) ?_
      refine sx ?_
      exact jn [3, 4, 1] 5 (J2 (((r3 ++ (([(u8 (IntKind.u8.wrap a0.2.1))] : List UInt8)))) ++ (([(u8 (IntKind.u8.wrap ((a0.2.2.length : Int))))] : List UInt8))) (A4, c4) hk1)
     ·refine T.lit (E := E8) (.dOne rfl (by kernel_rfl)) (vals := [(0, .int .u8 (IntKind.u8.wrap a0.2.1))]) (cells := #[.int .u8 (IntKind.u8.wrap a0.2.1)]) rfl (wants0 rfl) rfl rfl rfl rfl rfl (by kernel_rfl) ([(u8 (IntKind.u8.wrap a0.2.1))] : List UInt8) rfl (fun _ _ _ _ _ => (Encs.c1 (enc := b8) (h1 := fun _ => rfl) (b8_wrap _) rfl)) (fun b2 => ?_)
      refine T.dNext (phi_cons (.inr (Cl.stays 2 rfl)) phi_nil) ?_
      refine D.on 2 ?_
      refine D.c1 rfl (by kernel_rfl) rfl rfl Tryd.func18 rfl (fun w hS => wire_Uint.c hB hS  hg3) (fun x8 => ?_)
      refine T.dNext (phi_cons (.inr (Cl.stays 3 rfl)) phi_nil) ?_
      refine D.on 7 ?_
      refine T.appBf (.dOne rfl (by kernel_rfl)) 0 1 rfl rfl rfl rfl rfl (wants0 rfl) rfl rfl rfl rfl rfl rfl hc3 (fun _ _ => rfl) (fun A3 c3 => ?_)
      refine T.dNext (phi_cons (.inr (Cl.stays 3 rfl)) phi_nil) ?_
      refine D.on 13 ?_
      refine T.appBf (.dOne rfl (by kernel_rfl)) 0 2 rfl rfl rfl rfl rfl (wants0 rfl) rfl rfl rfl rfl rfl rfl hc4 (fun _ _ => rfl) (fun A4 c4 => ?_)
      refine T.dNext (phi_cons (.inr (Cl.stays 3 rfl)) phi_nil) ?_
      refine D.asg 14 ?_
      refine T.dDone (by kernel_rfl) ?_
      refine sx ?_
      exact jn [3, 4, 0] 5 (J2 (((r3 ++ (([(u8 (IntKind.u8.wrap a0.2.1))] : List UInt8)))) ++ (([(u8 (IntKind.u8.wrap ((a0.2.2.length : Int))))] : List UInt8))) (A4, c4) hk1)
 ·refine st ?_
  refine br hr (fun hb4 hr => ?_) (fun hb4 hr => ?_)
  ·refine sx ?_
   exact jn [0, 1] 2 (J1 true () hr)
  ·refine st ?_
   refine br hr (fun hb5 hr => ?_) (fun hb5 hr => ?_)
   ·refine sx ?_
    exact jn [0, 1] 2 (J1 true () hr)
   ·refine st ?_
    refine br hr (fun hb6 hr => ?_) (fun hb6 hr => ?_)
    ·refine sx ?_
     exact jn [0, 1] 2 (J1 true () hr)
    ·refine st ?_
     refine br hr (fun hb7 hr => ?_) (fun hb7 hr => ?_)
     ·refine sx ?_
      exact jn [0, 1] 2 (J1 true () hr)
     ·refine sx ?_
      exact jn [0, 1] 2 (J1 (decide ((12 : Int) < ((a0.2.2.length : Int)))) () hr)

noncomputable def entry_reader_uint.k1 (o0 : ty2) (r1 : Int × Int × Int) (s1 : Bool) : Option (Int × ty2) :=
  (if s1 = true then some (0, (o0.1, o0.2.1, true)) else some (r1.1, (o0.1, r1.2.1, o0.2.2)))
noncomputable def entry_reader_uint.impl (o0 : ty2) : Option (Int × ty2) :=
  (wire_ReadUint.impl o0.1 o0.2.1).bind fun r1 => (if o0.2.2 = true then entry_reader_uint.k1 o0 r1 true else entry_reader_uint.k1 o0 r1 (!(decide (r1.2.2 = 0))))
theorem entry_reader_uint.c {p0 : Nat} {o0 : ty2} {i0a c0a : Nat} {A0a : Option Addr} (hB : Base B) (hS : St B (Cl p0 51 [.slice A0a o0.1.length c0a, .int .i64 o0.2.1, .bool o0.2.2] :: hs) w) (h0a : (Cl p0 51 [.slice A0a o0.1.length c0a, .int .i64 o0.2.1, .bool o0.2.2] :: hs)[i0a]? = some (Ro E8 A0a c0a o0.1)) {r : Int × ty2} (hr : entry_reader_uint.impl o0 = some r) :
    Calls Tryd.prog 22 #[.pointer (some ⟨p0, 0, none⟩)] w fun e w' => ∃ x : Unit, e = .returned (.int .i64 r.1) ∧ St B (Cl p0 51 [.slice A0a o0.1.length c0a, .int .i64 r.2.2.1, .bool r.2.2.2] :: hs) w' := by
 unfold entry_reader_uint.impl at hr
 refine calls_T Tryd.func22 rfl rfl rfl hS ?_
 refine T.front i0a h0a ?_
 refine sq ?_
 refine T.plan [(0, 0), (1, 0), (2, 0), (4, 0), (5, 0), (6, 0), (3, 1), (7, 1), (8, 2), (9, 0), (10, 0), (11, 0), (12, 0), (13, 0), (14, 0), (15, 0)] mixed (by kernel_rfl) (by kernel_rfl) rfl (fun d _ _ _ _ h => by cases d <;> exact h) ?_
 refine T.move (.plan rfl) rfl (wants0 rfl) rfl rfl ?_
 refine T.nilCheck (.plan rfl) rfl (wants0 rfl) rfl rfl ?_
 refine T.field (.plan rfl) rfl (wants0 rfl) rfl rfl ?_
 refine T.move (.plan rfl) rfl (wants0 rfl) rfl rfl ?_
 refine T.nilCheck (.plan rfl) rfl (wants0 rfl) rfl rfl ?_
 refine T.field (.plan rfl) rfl (wants0 rfl) rfl rfl ?_
 refine T.load (.plan rfl) 1 rfl rfl (wants0 rfl) rfl rfl rfl ?_
 refine T.load (.plan rfl) 1 rfl rfl (wants0 rfl) rfl rfl rfl ?_
 obtain ⟨r1, hg1, hr⟩ := inv_bind hr
 refine T.call (.plan rfl) (wants0 rfl) rfl (run_callF (vs := [_, _]) rfl Tryd.func45 rfl (by decide) rfl) (fun w hS => wire_ReadUint.c hB hS (i0 := 0) rfl hg1) (fun x1 => ?_)
 refine T.move (.plan rfl) rfl (wants0 rfl) rfl rfl ?_
 refine T.extract (.plan rfl) rfl (wants0 rfl) rfl rfl rfl ?_
 refine T.extract (.plan rfl) rfl (wants0 rfl) rfl rfl rfl ?_
 refine T.extract (.plan rfl) rfl (wants0 rfl) rfl rfl rfl ?_
 refine T.assign (.plan rfl) rfl (wants0 rfl) rfl rfl ?_
 refine T.assign (.plan rfl) rfl (wants0 rfl) rfl rfl ?_
 refine T.assign (.plan rfl) rfl (wants0 rfl) rfl rfl ?_
 refine T.planEnd ?_
 refine st ?_
 refine T.seq ?_
 refine T.seqJ (fun (s1 : Bool) (x2 : Unit) => [(0, .pointer (some ⟨p0, 0, none⟩)), (3, .int .i64 r1.1), (4, .int .i64 r1.2.1), (26, .bool s1)]) (fun s1 x2 => Cl p0 51 [.slice A0a o0.1.length c0a, .int .i64 o0.2.1, .bool o0.2.2] :: Ro E8 A0a c0a o0.1 :: hs) (fun s1 => entry_reader_uint.k1 o0 r1 s1 = some r) (fun s1 x2 hk1 => ?_) (fun J1 => ?_)
 ·unfold entry_reader_uint.k1 at hk1
  refine A.cd hk1 rfl (fun hb1 hk1 => ?_) (fun hb1 hk1 => ?_)
  ·refine sq ?_
   obtain rfl := inv_some hk1
   refine pk [0] 2 ?_
   refine T.ret1 rfl rfl (fun w hS => ⟨(), rfl, hS⟩)
  ·refine sq ?_
   obtain rfl := inv_some hk1
   refine pk [0] 2 ?_
   refine T.ret1 rfl rfl (fun w hS => ⟨(), rfl, hS⟩)
 ·refine st ?_
  refine br hr (fun hb2 hr => ?_) (fun hb2 hr => ?_)
  ·refine sx ?_
   exact jn [1, 0] 2 (J1 true () hr)
  ·refine sx ?_
   exact jn [1, 0] 2 (J1 (!(decide (r1.2.2 = 0))) () hr)

noncomputable def entry_reader_byte.k1 (o0 : ty2) (s1 : Bool) : Option (Int × ty2) :=
  (if s1 = true then some (0, (o0.1, o0.2.1, true)) else chk (0 ≤ (IntKind.i64.wrap ((IntKind.i64.wrap (o0.2.1 + 1)) - 1)) ∧ (IntKind.i64.wrap ((IntKind.i64.wrap (o0.2.1 + 1)) - 1)) < (o0.1.length : Int)) (some (IntKind.i64.wrap (((o0.1.getD (IntKind.i64.wrap ((IntKind.i64.wrap (o0.2.1 + 1)) - 1) : Int).toNat default).toNat : Int)), (o0.1, IntKind.i64.wrap (o0.2.1 + 1), o0.2.2))))
noncomputable def entry_reader_byte.impl (o0 : ty2) : Option (Int × ty2) :=
  (if o0.2.2 = true then entry_reader_byte.k1 o0 true else entry_reader_byte.k1 o0 (decide ((((o0.1.length : Int))) ≤ o0.2.1)))
theorem entry_reader_byte.c {p0 : Nat} {o0 : ty2} {i0a c0a : Nat} {A0a : Option Addr} (hB : Base B) (hS : St B (Cl p0 51 [.slice A0a o0.1.length c0a, .int .i64 o0.2.1, .bool o0.2.2] :: hs) w) (h0a : (Cl p0 51 [.slice A0a o0.1.length c0a, .int .i64 o0.2.1, .bool o0.2.2] :: hs)[i0a]? = some (Ro E8 A0a c0a o0.1)) {r : Int × ty2} (hr : entry_reader_byte.impl o0 = some r) :
    Calls Tryd.prog 23 #[.pointer (some ⟨p0, 0, none⟩)] w fun e w' => ∃ x : Unit, e = .returned (.int .i64 r.1) ∧ St B (Cl p0 51 [.slice A0a o0.1.length c0a, .int .i64 r.2.2.1, .bool r.2.2.2] :: hs) w' := by
 unfold entry_reader_byte.impl at hr
 refine calls_T Tryd.func23 rfl rfl rfl hS ?_
 refine T.front i0a h0a ?_
 refine T.seq ?_
 refine st ?_
 refine T.seq ?_
 refine T.seqJ (fun (s1 : Bool) (x1 : Unit) => [(0, .pointer (some ⟨p0, 0, none⟩)), (18, .bool s1)]) (fun s1 x1 => Cl p0 51 [.slice A0a o0.1.length c0a, .int .i64 o0.2.1, .bool o0.2.2] :: Ro E8 A0a c0a o0.1 :: hs) (fun s1 => entry_reader_byte.k1 o0 s1 = some r) (fun s1 x1 hk1 => ?_) (fun J1 => ?_)
 ·unfold entry_reader_byte.k1 at hk1
  refine A.cd hk1 rfl (fun hb1 hk1 => ?_) (fun hb1 hk1 => ?_)
  ·refine sq ?_
   obtain rfl := inv_some hk1
   refine pk [0] 2 ?_
   refine T.ret1 rfl rfl (fun w hS => ⟨(), rfl, hS⟩)
  ·refine sq ?_
   refine T.plan [(0, 0), (1, 0), (2, 0), (4, 0), (5, 0), (6, 0), (3, 1), (7, 1), (8, 0), (9, 0), (10, 1), (11, 0), (12, 0)] mixed (by kernel_rfl) (by kernel_rfl) rfl (fun d _ _ _ _ h => by cases d <;> exact h) ?_
   refine T.move (.plan rfl) rfl (wants0 rfl) rfl rfl ?_
   refine T.nilCheck (.plan rfl) rfl (wants0 rfl) rfl rfl ?_
   refine T.field (.plan rfl) rfl (wants0 rfl) rfl rfl ?_
   refine T.move (.plan rfl) rfl (wants0 rfl) rfl rfl ?_
   refine T.nilCheck (.plan rfl) rfl (wants0 rfl) rfl rfl ?_
   refine T.field (.plan rfl) rfl (wants0 rfl) rfl rfl ?_
   refine T.load (.plan rfl) 0 rfl rfl (wants0 rfl) rfl rfl rfl ?_
   refine T.load (.plan rfl) 0 rfl rfl (wants0 rfl) rfl rfl rfl ?_
   refine T.bin (.plan rfl) rfl (wants0 rfl) rfl rfl rfl rfl ?_
   obtain ⟨hc1, hk1⟩ := inv_chk hk1
   refine T.idxRo (.plan rfl) 1 rfl rfl (wants0 rfl) rfl rfl rfl hc1.1 hc1.2 (Nat.le_refl _) ?_
   refine T.ldRo1 (.plan rfl) 1 rfl rfl (wants0 rfl) rfl rfl hc1.1 hc1.2 ?_
   refine T.conv (.plan rfl) rfl (wants0 rfl) rfl rfl rfl ?_
   refine T.assign (.plan rfl) rfl (wants0 rfl) rfl rfl ?_
   refine T.planEnd ?_
   refine st ?_
   obtain rfl := inv_some hk1
   refine pk [0] 2 ?_
   refine T.ret1 rfl rfl (fun w hS => ⟨(), rfl, hS⟩)
 ·refine T.plan [(0, 0), (1, 0), (2, 0), (3, 1), (4, 0), (5, 0), (6, 0), (7, 0), (9, 0), (10, 0), (11, 0), (8, 1), (12, 1), (13, 0), (14, 0), (15, 0)] mixed (by kernel_rfl) (by kernel_rfl) rfl (fun d _ _ _ _ h => by cases d <;> exact h) ?_
  refine T.move (.plan rfl) rfl (wants0 rfl) rfl rfl ?_
  refine T.nilCheck (.plan rfl) rfl (wants0 rfl) rfl rfl ?_
  refine T.field (.plan rfl) rfl (wants0 rfl) rfl rfl ?_
  refine T.load (.plan rfl) 1 rfl rfl (wants0 rfl) rfl rfl rfl ?_
  refine T.move (.plan rfl) rfl (wants0 rfl) rfl rfl ?_
  refine br hr (fun hb2 hr => ?_) (fun hb2 hr => ?_)
  ·refine T.leave (.plan rfl) (wantsNot rfl rfl rfl hb2) rfl ?_
   refine T.leave (.plan rfl) (wantsNot rfl rfl rfl hb2) rfl ?_
   refine T.leave (.plan rfl) (wantsNot rfl rfl rfl hb2) rfl ?_
   refine T.leave (.plan rfl) (wantsNot rfl rfl rfl hb2) rfl ?_
   refine T.leave (.plan rfl) (wantsNot rfl rfl rfl hb2) rfl ?_
   refine T.leave (.plan rfl) (wantsNot rfl rfl rfl hb2) rfl ?_
   refine T.leave (.plan rfl) (wantsNot rfl rfl rfl hb2) rfl ?_
   refine T.leave (.plan rfl) (wantsNot rfl rfl rfl hb2) rfl ?_
   refine T.leave (.plan rfl) (wantsNot rfl rfl rfl hb2) rfl ?_
   refine T.leave (.plan rfl) (wantsNot rfl rfl rfl hb2) rfl ?_
   refine T.pickT (.plan rfl) rfl (wants0 rfl) rfl rfl hb2 rfl ?_
   refine T.planEnd ?_
   refine sx ?_
   exact jn [1, 0] 2 (J1 true () hr)
  ·refine T.move (.plan rfl) rfl (wants1 rfl rfl rfl hb2) rfl rfl ?_
   refine T.nilCheck (.plan rfl) rfl (wants1 rfl rfl rfl hb2) rfl rfl ?_
   refine T.field (.plan rfl) rfl (wants1 rfl rfl rfl hb2) rfl rfl ?_
   refine T.move (.plan rfl) rfl (wants1 rfl rfl rfl hb2) rfl rfl ?_
   refine T.nilCheck (.plan rfl) rfl (wants1 rfl rfl rfl hb2) rfl rfl ?_
   refine T.field (.plan rfl) rfl (wants1 rfl rfl rfl hb2) rfl rfl ?_
   refine T.load (.plan rfl) 1 rfl rfl (wants1 rfl rfl rfl hb2) rfl rfl rfl ?_
   refine T.load (.plan rfl) 1 rfl rfl (wants1 rfl rfl rfl hb2) rfl rfl rfl ?_
   refine T.lenSlice (.plan rfl) rfl (wants1 rfl rfl rfl hb2) rfl rfl ?_
   refine T.bin (.plan rfl) rfl (wants1 rfl rfl rfl hb2) rfl rfl rfl rfl ?_
   refine T.pickF (.plan rfl) rfl (wants0 rfl) rfl rfl hb2 rfl ?_
   refine T.planEnd ?_
   refine sx ?_
   exact jn [1, 0] 2 (J1 (decide ((((o0.1.length : Int))) ≤ o0.2.1)) () hr)

noncomputable def entry_reader_text.k1 (o0 : ty2) (r1 : List UInt8 × Int × Int) (s1 : Bool) : Option (List UInt8 × ty2) :=
  (if s1 = true then some (([] : List UInt8), (o0.1, o0.2.1, true)) else some (r1.1, (o0.1, r1.2.1, o0.2.2)))
noncomputable def entry_reader_text.impl (o0 : ty2) : Option (List UInt8 × ty2) :=
  (wire_ReadBytes.impl o0.1 o0.2.1 1800).bind fun r1 => (if o0.2.2 = true then entry_reader_text.k1 o0 r1 true else entry_reader_text.k1 o0 r1 (!(decide (r1.2.2 = 0))))
theorem entry_reader_text.c {p0 : Nat} {o0 : ty2} {i0a c0a : Nat} {A0a : Option Addr} (hB : Base B) (hS : St B (Cl p0 51 [.slice A0a o0.1.length c0a, .int .i64 o0.2.1, .bool o0.2.2] :: hs) w) (h0a : (Cl p0 51 [.slice A0a o0.1.length c0a, .int .i64 o0.2.1, .bool o0.2.2] :: hs)[i0a]? = some (Ro E8 A0a c0a o0.1)) {r : List UInt8 × ty2} (hr : entry_reader_text.impl o0 = some r) :
    Calls Tryd.prog 47 #[.pointer (some ⟨p0, 0, none⟩)] w fun e w' => ∃ x : ty3, e = .returned (.slice x.1 r.1.length x.2) ∧ St B (Bf E8 5 x.1 x.2 r.1 :: Cl p0 51 [.slice A0a o0.1.length c0a, .int .i64 r.2.2.1, .bool r.2.2.2] :: hs) w' := by
 unfold entry_reader_text.impl at hr
 refine calls_T Tryd.func47 rfl rfl rfl hS ?_
 refine T.front i0a h0a ?_
 refine sq ?_
 refine T.plan [(0, 0), (1, 0), (2, 0), (4, 0), (5, 0), (6, 0), (3, 1), (7, 1), (8, 2), (9, 0), (10, 0), (11, 0), (12, 0), (13, 0), (14, 0), (15, 0)] mixed (by kernel_rfl) (by kernel_rfl) rfl (fun d _ _ _ _ h => by cases d <;> exact h) ?_
 refine T.move (.plan rfl) rfl (wants0 rfl) rfl rfl ?_
 refine T.nilCheck (.plan rfl) rfl (wants0 rfl) rfl rfl ?_
 refine T.field (.plan rfl) rfl (wants0 rfl) rfl rfl ?_
 refine T.move (.plan rfl) rfl (wants0 rfl) rfl rfl ?_
 refine T.nilCheck (.plan rfl) rfl (wants0 rfl) rfl rfl ?_
 refine T.field (.plan rfl) rfl (wants0 rfl) rfl rfl ?_
 refine T.load (.plan rfl) 1 rfl rfl (wants0 rfl) rfl rfl rfl ?_
 refine T.load (.plan rfl) 1 rfl rfl (wants0 rfl) rfl rfl rfl ?_
 obtain ⟨r1, hg1, hr⟩ := inv_bind hr
 refine T.call (.plan rfl) (wants0 rfl) rfl (run_callF (vs := [_, _, _]) rfl Tryd.func68 rfl (by decide) rfl) (fun w hS => wire_ReadBytes.c hB hS (i0 := 0) rfl hg1) (fun x1 => ?_)
 refine T.move (.plan rfl) rfl (wants0 rfl) rfl rfl ?_
 refine T.extract (.plan rfl) rfl (wants0 rfl) rfl rfl rfl ?_
 refine T.extract (.plan rfl) rfl (wants0 rfl) rfl rfl rfl ?_
 refine T.extract (.plan rfl) rfl (wants0 rfl) rfl rfl rfl ?_
 refine T.assign (.plan rfl) rfl (wants0 rfl) rfl rfl ?_
 refine T.assign (.plan rfl) rfl (wants0 rfl) rfl rfl ?_
 refine T.assign (.plan rfl) rfl (wants0 rfl) rfl rfl ?_
 refine T.planEnd ?_
 refine st ?_
 refine T.seq ?_
 refine T.seqJ (fun (s1 : Bool) (x2 : Unit) => [(0, .pointer (some ⟨p0, 0, none⟩)), (3, .slice x1.1 r1.1.length x1.2), (4, .int .i64 r1.2.1), (26, .bool s1)]) (fun s1 x2 => Cl p0 51 [.slice A0a o0.1.length c0a, .int .i64 o0.2.1, .bool o0.2.2] :: Ro E8 A0a c0a o0.1 :: Bf E8 5 x1.1 x1.2 r1.1 :: hs) (fun s1 => entry_reader_text.k1 o0 r1 s1 = some r) (fun s1 x2 hk1 => ?_) (fun J1 => ?_)
 ·unfold entry_reader_text.k1 at hk1
  refine A.cd hk1 rfl (fun hb1 hk1 => ?_) (fun hb1 hk1 => ?_)
  ·refine sq ?_
   obtain rfl := inv_some hk1
   refine T.nilBf E8 5 ?_
   refine pk [0, 1] 4 ?_
   refine T.ret1 rfl rfl (fun w hS => ⟨(none, 0), rfl, hS⟩)
  ·refine sq ?_
   obtain rfl := inv_some hk1
   refine pk [2, 0] 3 ?_
   refine T.ret1 rfl rfl (fun w hS => ⟨(x1.1, x1.2), rfl, hS⟩)
 ·refine st ?_
  refine br hr (fun hb2 hr => ?_) (fun hb2 hr => ?_)
  ·refine sx ?_
   exact jn [2, 1, 0] 3 (J1 true () hr)
  ·refine sx ?_
   exact jn [2, 1, 0] 3 (J1 (!(decide (r1.2.2 = 0))) () hr)

noncomputable def entry_reader_row.impl (o0 : ty2) : Option ((List ty4) × ty2) :=
  (entry_reader_text.impl ((o0.1, o0.2.1, o0.2.2))).bind fun r1 => (schema_DecodeRow.impl r1.1).bind fun r2 => (if r1.2.2.2 = true then some (r2.1, (o0.1, r1.2.2.1, true)) else some (r2.1, (o0.1, r1.2.2.1, (!(decide (r2.2 = 0))))))
theorem entry_reader_row.c {p0 : Nat} {o0 : ty2} {i0a c0a : Nat} {A0a : Option Addr} (hB : Base B) (hS : St B (Cl p0 51 [.slice A0a o0.1.length c0a, .int .i64 o0.2.1, .bool o0.2.2] :: hs) w) (h0a : (Cl p0 51 [.slice A0a o0.1.length c0a, .int .i64 o0.2.1, .bool o0.2.2] :: hs)[i0a]? = some (Ro E8 A0a c0a o0.1)) {r : (List ty4) × ty2} (hr : entry_reader_row.impl o0 = some r) :
    Calls Tryd.prog 24 #[.pointer (some ⟨p0, 0, none⟩)] w fun e w' => ∃ x : ty3, e = .returned (.slice x.1 r.1.length x.2) ∧ St B (Bf el2 64 x.1 x.2 r.1 :: Cl p0 51 [.slice A0a o0.1.length c0a, .int .i64 r.2.2.1, .bool r.2.2.2] :: hs) w' := by
 unfold entry_reader_row.impl at hr
 refine calls_T Tryd.func24 rfl rfl rfl hS ?_
 refine T.front i0a h0a ?_
 refine sq ?_
 refine T.pick [1, 0] 2 rfl rfl nla (hs' := Cl p0 51 [.slice A0a o0.1.length c0a, .int .i64 o0.2.1, .bool o0.2.2] :: Ro E8 A0a c0a o0.1 :: hs) rfl ?_
 obtain ⟨r1, hg1, hr⟩ := inv_bind hr
 refine A.c1 rfl rfl Tryd.func47 rfl (fun w hS => entry_reader_text.c hB hS (i0a := 1) (o0 := (o0.1, o0.2.1, o0.2.2)) rfl hg1) (fun x1 => ?_)
 obtain ⟨r2, hg2, hr⟩ := inv_bind hr
 refine A.c1 rfl rfl Tryd.func46 rfl (fun w hS => (schema_DecodeRow.c (hB.up hS) (St.borrow (ros := [Ro E8 x1.1 x1.2 r1.1]) (Ros.cons (hS.roBf 0 rfl rfl) Ros.nil)) (i0 := 0) rfl hg2).mono fun e w' ⟨x, he, h1⟩ => ⟨x, he, hS.unborrow (post := [Bf el2 64 x.1 x.2 r2.1]) h1 (Frees.cons (Bf.free (.pair .sc (.pair .sc .sc))) Frees.nil)⟩) (fun x2 => ?_)
 refine sq ?_
 refine br hr (fun hb1 hr => ?_) (fun hb1 hr => ?_)
 ·refine sq ?_
  obtain rfl := inv_some hr
  refine pk [0, 2] 4 ?_
  refine T.ret1 rfl rfl (fun w hS => ⟨(x2.1, x2.2), rfl, hS⟩)
 ·refine sq ?_
  obtain rfl := inv_some hr
  refine pk [0, 2] 4 ?_
  refine T.ret1 rfl rfl (fun w hS => ⟨(x2.1, x2.2), rfl, hS⟩)

noncomputable def entry_DecodeReply.k2 (r1 : Int × ty2) (r2 : Int × ty2) (s1 : Int × Bool × (List (List ty4))) (s2 : Bool) : Option ((Int × Int × (List (List ty4))) × Int) :=
  (if s2 = true then some ((0, 0, ([] : List (List ty4))), 11) else some ((r1.1, r2.1, s1.2.2), 0))
noncomputable def entry_DecodeReply.k1 (r1 : Int × ty2) (r2 : Int × ty2) (l0 : List UInt8) (s1 : Int × Bool × (List (List ty4))) : Option ((Int × Int × (List (List ty4))) × Int) :=
  (entry_EncodeReply.impl ((r1.1, r2.1, s1.2.2))).bind fun r3 => (if s1.2.1 = true then entry_DecodeReply.k2 r1 r2 s1 true else (if ((decide (r3.2 = 0))) = true then (bytes_Equal.impl r3.1 l0).bind fun r4 => entry_DecodeReply.k2 r1 r2 s1 (!r4) else entry_DecodeReply.k2 r1 r2 s1 true))
noncomputable def entry_DecodeReply.k3 (l0 : List UInt8) (s3 : Int × Bool × (List (List ty4)) × Int) (s4 : Bool) : Option ((Int × Bool × (List (List ty4)) × Int) ⊕ (Int × Bool × (List (List ty4)))) :=
  (if s4 = true then (entry_reader_row.impl ((l0, s3.1, s3.2.1))).bind fun r6 => chk ((s3.2.2.1.length + (([r6.1] : List (List ty4))).length) * 24 ≤ 140737488355328) (some (.inl (r6.2.2.1, r6.2.2.2, (s3.2.2.1 ++ (([r6.1] : List (List ty4)))), IntKind.i64.wrap (s3.2.2.2 - 1)))) else some (.inr (s3.1, s3.2.1, s3.2.2.1)))
noncomputable def entry_DecodeReply.st1 (l0 : List UInt8) (s3 : Int × Bool × (List (List ty4)) × Int) : Option ((Int × Bool × (List (List ty4)) × Int) ⊕ (Int × Bool × (List (List ty4)))) :=
  (if ((decide ((0 : Int) < s3.2.2.2))) = true then entry_DecodeReply.k3 l0 s3 (!s3.2.1) else entry_DecodeReply.k3 l0 s3 false)
noncomputable def entry_DecodeReply.impl (l0 : List UInt8) : Option ((Int × Int × (List (List ty4))) × Int) :=
  (entry_reader_uint.impl ((l0, 0, false))).bind fun r1 => (entry_reader_byte.impl ((l0, r1.2.2.1, r1.2.2.2))).bind fun r2 => (entry_reader_byte.impl ((l0, r2.2.2.1, r2.2.2.2))).bind fun r5 => (loop (entry_DecodeReply.st1 l0) (r5.2.2.1, r5.2.2.2, ([] : List (List ty4)), r5.1)).bind (fun e1 => entry_DecodeReply.k1 r1 r2 l0 e1)
theorem entry_DecodeReply.c {i0 c0 : Nat} {A0 : Option Addr} {l0 : List UInt8} (hB : Base B) (hS : St B (hs) w) (h0 : (hs)[i0]? = some (Ro E8 A0 c0 l0)) {r : (Int × Int × (List (List ty4))) × Int} (hr : entry_DecodeReply.impl l0 = some r) :
    Calls Tryd.prog 9 #[.slice A0 l0.length c0] w fun e w' => ∃ x : ty3, e = .returned (.tuple #[.agg #[.int .i64 r.1.1, .int .i64 r.1.2.1, .slice x.1 r.1.2.2.length x.2], .int .i64 r.2]) ∧ St B (Ro el3 x.1 x.2 r.1.2.2 :: hs) w' := by
 unfold entry_DecodeReply.impl at hr
 refine calls_T Tryd.func9 rfl rfl rfl hS ?_
 refine T.front i0 h0 ?_
 refine sq ?_
 refine A.al rfl (fun b1 => ?_)
 refine sq ?_
 refine T.build .list (vals := [(0, .slice A0 l0.length c0)]) (cells := #[.slice A0 l0.length c0, .int .i64 0, .bool false]) rfl (wants0 rfl) rfl rfl (run_buildStruct (sizes := [1, 1, 1]) (by kernel_rfl) (by kernel_rfl)) ?_
 refine A.bx rfl rfl (fun b2 => ?_)
 refine sq ?_
 refine T.pick [0, 1, 2] 3 rfl rfl nla (hs' := Cl b2 51 [.slice A0 l0.length c0, .int .i64 0, .bool false] :: Cl b1 25 [.int .i64 0, .int .i64 0, .slice none 0 0] :: Ro E8 A0 c0 l0 :: hs) rfl ?_
 obtain ⟨r1, hg1, hr⟩ := inv_bind hr
 refine A.c1 rfl rfl Tryd.func22 rfl (fun w hS => entry_reader_uint.c hB hS (i0a := 2) (o0 := (l0, 0, false)) rfl hg1) (fun x1 => ?_)
 refine st ?_
 refine T.pick [0, 1, 2] 3 rfl rfl nla (hs' := Cl b2 51 [.slice A0 l0.length c0, .int .i64 r1.2.2.1, .bool r1.2.2.2] :: Cl b1 25 [.int .i64 0, .int .i64 0, .slice none 0 0] :: Ro E8 A0 c0 l0 :: hs) rfl ?_
 obtain ⟨r2, hg2, hr⟩ := inv_bind hr
 refine A.c1 rfl rfl Tryd.func23 rfl (fun w hS => entry_reader_byte.c hB hS (i0a := 2) (o0 := (l0, r1.2.2.1, r1.2.2.2)) rfl hg2) (fun x2 => ?_)
 refine T.build .list (vals := [(0, .int .i64 r1.1), (1, .int .i64 r2.1)]) (cells := #[.int .i64 r1.1, .int .i64 r2.1, .slice none 0 0]) rfl (wants0 rfl) rfl rfl (run_buildStruct (sizes := [1, 1, 1]) (by kernel_rfl) (by kernel_rfl)) ?_
 refine A.al rfl (fun b3 => ?_)
 refine st ?_
 refine T.seqJ (fun (s1 : Int × Bool × (List (List ty4))) (x3 : ty3) => [(0, .slice A0 l0.length c0), (2, .pointer (some ⟨b1, 0, none⟩)), (4, .pointer (some ⟨b2, 0, none⟩)), (5, .pointer (some ⟨b3, 0, none⟩))]) (fun s1 x3 => Ro E8 A0 c0 l0 :: Cl b1 25 [.int .i64 0, .int .i64 0, .slice none 0 0] :: Cl b2 51 [.slice A0 l0.length c0, .int .i64 s1.1, .bool s1.2.1] :: Cl b3 25 [.int .i64 r1.1, .int .i64 r2.1, .slice x3.1 s1.2.2.length x3.2] :: Bf el3 45 x3.1 x3.2 s1.2.2 :: hs) (fun s1 => entry_DecodeReply.k1 r1 r2 l0 s1 = some r) (fun s1 x3 hk1 => ?_) (fun J1 => ?_)
 ·unfold entry_DecodeReply.k1 at hk1
  refine sq ?_
  obtain ⟨r3, hg3, hk1⟩ := inv_bind hk1
  refine A.c1 rfl rfl Tryd.func6 rfl (fun w hS => (entry_EncodeReply.c (hB.up hS) (St.borrow (ros := [Ro el3 x3.1 x3.2 s1.2.2]) (Ros.cons (hS.roBf 4 rfl rfl) Ros.nil)) (i0a := 0) (a0 := (r1.1, r2.1, s1.2.2)) rfl hg3).mono fun e w' ⟨x, he, h1⟩ => ⟨x, he, hS.unborrow (post := [Bf E8 5 x.1 x.2 r3.1]) h1 (Frees.cons (Bf.free .sc) Frees.nil)⟩) (fun x4 => ?_)
  refine st ?_
  refine T.seq ?_
  refine T.seqJ (fun (s2 : Bool) (x5 : Unit) => [(2, .pointer (some ⟨b1, 0, none⟩)), (5, .pointer (some ⟨b3, 0, none⟩)), (55, .bool s2)]) (fun s2 x5 => Cl b1 25 [.int .i64 0, .int .i64 0, .slice none 0 0] :: Cl b3 25 [.int .i64 r1.1, .int .i64 r2.1, .slice x3.1 s1.2.2.length x3.2] :: Bf el3 45 x3.1 x3.2 s1.2.2 :: hs) (fun s2 => entry_DecodeReply.k2 r1 r2 s1 s2 = some r) (fun s2 x5 hk2 => ?_) (fun J2 => ?_)
  ·unfold entry_DecodeReply.k2 at hk2
   refine A.cd hk2 rfl (fun hb1 hk2 => ?_) (fun hb1 hk2 => ?_)
   ·refine sq ?_
    refine T.build .list (vals := []) (cells := #[.int .i64 0, .int .i64 0, .slice none 0 0]) rfl (wants0 rfl) rfl rfl (run_buildStruct (sizes := [1, 1, 1]) (by kernel_rfl) (by kernel_rfl)) ?_
    refine st ?_
    obtain rfl := inv_some hk2
    refine T.nilRo el3 none 0 ?_
    refine T.out2 rfl (OutRun.cellN 1 rfl rfl (vs := [.int .i64 0, .int .i64 0, .slice none 0 0]) rfl rfl) (OutRun.tmp rfl) (fun w hS => ⟨(none, 0), rfl, hS.pick [0] 4 rfl rfl nla rfl⟩)
   ·refine sq ?_
    obtain rfl := inv_some hk2
    refine T.freeze 2 rfl rfl rfl ?_
    refine T.out2 rfl (OutRun.cellN 0 rfl rfl (vs := [.int .i64 r1.1, .int .i64 r2.1, .slice x3.1 s1.2.2.length x3.2]) rfl rfl) (OutRun.tmp rfl) (fun w hS => ⟨(x3.1, x3.2), rfl, hS.pick [2] 3 rfl rfl nla rfl⟩)
  ·refine st ?_
   refine br hk1 (fun hb2 hk1 => ?_) (fun hb2 hk1 => ?_)
   ·refine sx ?_
    exact jn [2, 4, 5] 6 (J2 true () hk1)
   ·refine st ?_
    refine br hk1 (fun hb3 hk1 => ?_) (fun hb3 hk1 => ?_)
    ·refine st ?_
     obtain ⟨r4, hg4, hk1⟩ := inv_bind hk1
     refine A.c2g rfl rfl (not_t hb3) rfl rfl rfl Tryd.func25 rfl (fun w hS => (bytes_Equal.c (hB.up hS) (St.borrow (ros := [Ro E8 x4.1 x4.2 r3.1, Ro E8 A0 c0 l0]) (Ros.cons (hS.roBf 0 rfl rfl) (Ros.cons (hS.roRo 1 rfl) Ros.nil))) (i0 := 0) (i1 := 1) rfl rfl hg4).mono fun e w' ⟨x, he, h1⟩ => ⟨x, he, hS.unborrow (post := []) h1 Frees.nil⟩) (fun x6 => ?_)
     refine T.not .list rfl (wants1 rfl rfl rfl (not_t hb3)) rfl rfl ?_
     refine sx ?_
     exact jn [2, 4, 5] 6 (J2 (!r4) () hk1)
    ·refine sx ?_
     exact jn [2, 4, 5] 6 (J2 true () hk1)
 ·refine sq ?_
  refine T.pick [1, 0, 2, 3] 4 rfl rfl nla (hs' := Cl b2 51 [.slice A0 l0.length c0, .int .i64 r2.2.2.1, .bool r2.2.2.2] :: Cl b3 25 [.int .i64 r1.1, .int .i64 r2.1, .slice none 0 0] :: Cl b1 25 [.int .i64 0, .int .i64 0, .slice none 0 0] :: Ro E8 A0 c0 l0 :: hs) rfl ?_
  obtain ⟨r5, hg5, hr⟩ := inv_bind hr
  refine A.c1 rfl rfl Tryd.func23 rfl (fun w hS => entry_reader_byte.c hB hS (i0a := 3) (o0 := (l0, r2.2.2.1, r2.2.2.2)) rfl hg5) (fun x7 => ?_)
  refine st ?_
  obtain ⟨e1, hl1, hr⟩ := inv_bind hr
  refine T.nilBf el3 45 ?_
  refine jn [4, 3, 1, 2, 0] 5 (T.loop (s0 := (r5.2.2.1, r5.2.2.2, ([] : List (List ty4)), r5.1)) (env := fun s3 x8 => [(0, .slice A0 l0.length c0), (2, .pointer (some ⟨b1, 0, none⟩)), (4, .pointer (some ⟨b2, 0, none⟩)), (5, .pointer (some ⟨b3, 0, none⟩)), (6, .int .i64 s3.2.2.2)]) (hs := fun (s3 : Int × Bool × (List (List ty4)) × Int) (x8 : ty3) => Ro E8 A0 c0 l0 :: Cl b1 25 [.int .i64 0, .int .i64 0, .slice none 0 0] :: Cl b2 51 [.slice A0 l0.length c0, .int .i64 s3.1, .bool s3.2.1] :: Cl b3 25 [.int .i64 r1.1, .int .i64 r2.1, .slice x8.1 s3.2.2.1.length x8.2] :: Bf el3 45 x8.1 x8.2 s3.2.2.1 :: hs) hl1 (none, 0) (fun K1 s3 x8 o1 he1 hm1 hx1 => ?_))
  unfold entry_DecodeReply.st1 at he1
  refine T.seq ?_
  refine T.seqJ (fun (s4 : Bool) (x9 : Unit) => [(0, .slice A0 l0.length c0), (2, .pointer (some ⟨b1, 0, none⟩)), (4, .pointer (some ⟨b2, 0, none⟩)), (5, .pointer (some ⟨b3, 0, none⟩)), (6, .int .i64 s3.2.2.2), (27, .bool s4)]) (fun s4 x9 => Ro E8 A0 c0 l0 :: Cl b1 25 [.int .i64 0, .int .i64 0, .slice none 0 0] :: Cl b2 51 [.slice A0 l0.length c0, .int .i64 s3.1, .bool s3.2.1] :: Cl b3 25 [.int .i64 r1.1, .int .i64 r2.1, .slice x8.1 s3.2.2.1.length x8.2] :: Bf el3 45 x8.1 x8.2 s3.2.2.1 :: hs) (fun s4 => entry_DecodeReply.k3 l0 s3 s4 = some o1) (fun s4 x9 hk3 => ?_) (fun J3 => ?_)
  ·unfold entry_DecodeReply.k3 at hk3
   refine A.cd hk3 rfl (fun hb4 hk3 => ?_) (fun hb4 hk3 => ?_)
   ·refine sq ?_
    refine T.dStart mixed ?_
    refine D.fi 0 ?_
    refine D.mv 2 ?_
    refine T.dAdd 7 (fun w => w.heap[b3]? = some (.cells [.int .i64 r1.1, .int .i64 r2.1, .slice x8.1 s3.2.2.1.length x8.2].toArray 25 (0, 0))) (Cl.stays 3 rfl) ?_
    refine D.ld 0 1 (.slice x8.1 s3.2.2.1.length x8.2) ?_
    obtain ⟨r6, hg6, hk3⟩ := inv_bind hk3
    refine T.pick [2, 0, 1, 3, 4] 5 rfl rfl nla (hs' := Cl b2 51 [.slice A0 l0.length c0, .int .i64 s3.1, .bool s3.2.1] :: Ro E8 A0 c0 l0 :: Cl b1 25 [.int .i64 0, .int .i64 0, .slice none 0 0] :: Cl b3 25 [.int .i64 r1.1, .int .i64 r2.1, .slice x8.1 s3.2.2.1.length x8.2] :: Bf el3 45 x8.1 x8.2 s3.2.2.1 :: hs) rfl ?_
    refine D.on 3 ?_
    refine D.c1 rfl (by kernel_rfl) rfl rfl Tryd.func24 rfl (fun w hS => entry_reader_row.c hB hS (i0a := 1) (o0 := (l0, s3.1, s3.2.1)) rfl hg6) (fun x10 => ?_)
    refine T.dNext (phi_cons (.inr (Cl.stays 4 rfl)) phi_nil) ?_
    refine T.freeze 0 rfl rfl rfl ?_
    refine D.on 4 ?_
    refine T.lit (E := Elt.slice el2) (.dOne rfl (by kernel_rfl)) (vals := [(0, .slice x10.1 r6.1.length x10.2)]) (cells := #[.slice x10.1 r6.1.length x10.2]) rfl (wants0 rfl) rfl rfl rfl rfl rfl (by kernel_rfl) ([r6.1] : List (List ty4)) rfl (fun _ _ _ _ ho => (Has.encs ho (Has.slice 0 rfl rfl) rfl rfl)) (fun b4 => ?_)
    refine T.dNext (phi_cons (.inr (Cl.stays 5 rfl)) phi_nil) ?_
    obtain ⟨hc1, hk3⟩ := inv_chk hk3
    refine D.on 5 ?_
    refine T.appBf (.dOne rfl (by kernel_rfl)) 6 0 rfl rfl rfl rfl rfl (wants0 rfl) rfl rfl rfl rfl rfl rfl hc1 (fun _ _ => rfl) (fun A2 c2 => ?_)
    refine T.dNext (phi_cons (.inr (Cl.stays 5 rfl)) phi_nil) ?_
    refine D.fi 6 ?_
    refine D.on 7 ?_
    refine T.store (.dOne rfl (by kernel_rfl)) 5 rfl rfl (wants0 rfl) rfl rfl rfl rfl (Nat.le_of_ble_eq_true rfl) rfl (cs' := [.int .i64 r1.1, .int .i64 r2.1, .slice A2 (((s3.2.2.1 ++ (([r6.1] : List (List ty4))))).length) c2]) rfl rfl ?_
    refine T.dNext (phi_cons (.inl (by kernel_rfl)) phi_nil) ?_
    refine T.dDone (by kernel_rfl) ?_
    refine sx ?_
    refine T.region ?_
    refine sx ?_
    obtain rfl := inv_some hk3
    exact jn [3, 4, 2, 5, 6] 7 (hm1 (r6.2.2.1, r6.2.2.2, (s3.2.2.1 ++ (([r6.1] : List (List ty4)))), IntKind.i64.wrap (s3.2.2.2 - 1)) rfl (A2, c2))
   ·refine T.exit ?_
    refine sx ?_
    obtain rfl := inv_some hk3
    obtain rfl := hx1 _ rfl
    refine sx ?_
    exact jn [0, 1, 2, 3, 4] 5 (J1 (s3.1, s3.2.1, s3.2.2.1) (x8.1, x8.2) hr)
  ·refine st ?_
   refine br he1 (fun hb5 he1 => ?_) (fun hb5 he1 => ?_)
   ·refine st ?_
    refine T.not .list rfl (wants1 rfl rfl rfl hb5) rfl rfl ?_
    refine sx ?_
    exact jn [0, 1, 2, 3, 4] 5 (J3 (!s3.2.1) () he1)
   ·refine sx ?_
    exact jn [0, 1, 2, 3, 4] 5 (J3 false () he1)
end Go.Proofs.YtpogdeibkghhaaaDoor
