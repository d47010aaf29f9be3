/- LawB: what the functions compute, and that the program computes it; printed by a program of ours. -/
import Derived.Test.YtpogdeibkghhaaaDoorLaw
import Derived.Test.YtpogdeibkghhaaaDoorNam
import Derived.Test.YtpogdeibkghhaaaDoorEntryS
set_option linter.unusedVariables false
set_option linter.unusedSimpArgs false
namespace Go.Proofs.YtpogdeibkghhaaaDoor
open Go.RowKit
set_option maxRecDepth 100000
set_option maxHeartbeats 4000000
variable {B : World} {hs : List MP} {w : World}
noncomputable def law17_EntryBytes.k2 (r2 : Bool) (r1 : ty1) (s1 : Int × Int × (List ty8) × Int × Int × Int × (List ty8) × Int) (s2 : Bool) : Option Bool :=
  (if s2 = true then some false else (if ((!r2)) = true then some true else (entry_Decode.impl r1.1).bind fun r3 => (entry_Encode.impl s1.2.2.2.2).bind fun r4 => (if ((decide (r3.2 = 0))) = true then (ref17_Same.impl r3.1 ((s1.1, s1.2.1, s1.2.2.1, s1.2.2.2.1))).bind fun r5 => (if r5 = true then (if ((decide ((((r1.1.length : Int))) ≤ 1800))) = true then (if ((decide (r4.2 = 0))) = true then (ref17_Same.impl ((s1.1, s1.2.1, s1.2.2.1, s1.2.2.2.1)) s1.2.2.2.2).bind fun r6 => some (decide ((decide (r1.1 = r4.1)) = r6)) else some true) else some false) else some false) else some false)))
noncomputable def law17_EntryBytes.k1 (a0 : Int × Int × (List ty8) × Int) (s1 : Int × Int × (List ty8) × Int × Int × Int × (List ty8) × Int) : Option Bool :=
  (entry_Encode.impl ((s1.1, s1.2.1, s1.2.2.1, s1.2.2.2.1))).bind fun r1 => (ref17_Right.impl ((s1.1, s1.2.1, s1.2.2.1, s1.2.2.2.1))).bind fun r2 => (law17_told.impl ).bind fun r7 => (if r7 = true then (entry_Right.impl ((s1.1, s1.2.1, s1.2.2.1, s1.2.2.2.1))).bind fun r8 => (if ((decide (r8 = r2))) = true then (if ((decide ((decide (r1.2 = 0)) = r2))) = true then (if r2 = true then (entry_Same.impl ((s1.1, s1.2.1, s1.2.2.1, s1.2.2.2.1)) s1.2.2.2.2).bind fun r9 => (ref17_Same.impl ((s1.1, s1.2.1, s1.2.2.1, s1.2.2.2.1)) s1.2.2.2.2).bind fun r10 => (if ((decide (r9 = r10))) = true then (law17_few.impl a0).bind fun r11 => (ref17_Same.impl ((s1.1, s1.2.1, s1.2.2.1, s1.2.2.2.1)) r11).bind fun r12 => law17_EntryBytes.k2 r2 r1 s1 (!r12) else law17_EntryBytes.k2 r2 r1 s1 true) else (if ((decide (r1.2 = 1))) = true then (if ((decide ((0 : Int) < ((r1.1.length : Int))))) = true then law17_EntryBytes.k2 r2 r1 s1 true else (entry_Same.impl ((s1.1, s1.2.1, s1.2.2.1, s1.2.2.2.1)) s1.2.2.2.2).bind fun r13 => (ref17_Same.impl ((s1.1, s1.2.1, s1.2.2.1, s1.2.2.2.1)) s1.2.2.2.2).bind fun r14 => (if ((decide (r13 = r14))) = true then (law17_few.impl a0).bind fun r15 => (ref17_Same.impl ((s1.1, s1.2.1, s1.2.2.1, s1.2.2.2.1)) r15).bind fun r16 => law17_EntryBytes.k2 r2 r1 s1 (!r16) else law17_EntryBytes.k2 r2 r1 s1 true)) else law17_EntryBytes.k2 r2 r1 s1 true)) else law17_EntryBytes.k2 r2 r1 s1 true) else law17_EntryBytes.k2 r2 r1 s1 true) else law17_EntryBytes.k2 r2 r1 s1 true)
noncomputable def law17_EntryBytes.impl (a0 : Int × Int × (List ty8) × Int) (a1 : Int × Int × (List ty8) × Int) : Option Bool :=
  (law17_few.impl a0).bind fun r17 => (law17_few.impl a1).bind fun r18 => law17_EntryBytes.k1 a0 (r17.1, r17.2.1, r17.2.2.1, r17.2.2.2, r18.1, r18.2.1, r18.2.2.1, r18.2.2.2)
theorem law17_EntryBytes.c {a0 : Int × Int × (List ty8) × Int} {i0a c0a : Nat} {A0a : Option Addr} {a1 : Int × Int × (List ty8) × Int} {i1a c1a : Nat} {A1a : Option Addr} (hB : Base B) (hS : St B (hs) w) (h0a : (hs)[i0a]? = some (Ro el20 A0a c0a a0.2.2.1)) (h1a : (hs)[i1a]? = some (Ro el20 A1a c1a a1.2.2.1)) {r : Bool} (hr : law17_EntryBytes.impl a0 a1 = some r) :
    Calls Tryd.prog 5 #[.agg #[.int .i64 a0.1, .int .i64 a0.2.1, .slice A0a a0.2.2.1.length c0a, .int .i64 a0.2.2.2], .agg #[.int .i64 a1.1, .int .i64 a1.2.1, .slice A1a a1.2.2.1.length c1a, .int .i64 a1.2.2.2]] w fun e w' => ∃ x : Unit, e = .returned (.bool r) ∧ St B (hs) w' := by
 unfold law17_EntryBytes.impl at hr
 refine calls_T Tryd.func5 rfl rfl rfl hS ?_
 refine T.front i0a h0a ?_
 refine T.front (i1a + 1) h1a ?_
 refine sq ?_
 refine A.bx rfl rfl (fun b1 => ?_)
 refine A.bx rfl rfl (fun b2 => ?_)
 refine st ?_
 refine T.seqJ (fun (s1 : Int × Int × (List ty8) × Int × Int × Int × (List ty8) × Int) (x1 : (Nat) × ty3 × (Nat) × ty3) => [(2, .pointer (some ⟨b1, 0, none⟩)), (5, .pointer (some ⟨x1.1, 0, none⟩)), (6, .pointer (some ⟨x1.2.2.1, 0, none⟩))]) (fun s1 x1 => Cl b1 36 [.int .i64 a0.1, .int .i64 a0.2.1, .slice A0a a0.2.2.1.length c0a, .int .i64 a0.2.2.2] :: Ro el20 A0a c0a a0.2.2.1 :: Cl x1.1 36 [.int .i64 s1.1, .int .i64 s1.2.1, .slice x1.2.1.1 s1.2.2.1.length x1.2.1.2, .int .i64 s1.2.2.2.1] :: Ro el20 x1.2.1.1 x1.2.1.2 s1.2.2.1 :: Cl x1.2.2.1 36 [.int .i64 s1.2.2.2.2.1, .int .i64 s1.2.2.2.2.2.1, .slice x1.2.2.2.1 s1.2.2.2.2.2.2.1.length x1.2.2.2.2, .int .i64 s1.2.2.2.2.2.2.2] :: Ro el20 x1.2.2.2.1 x1.2.2.2.2 s1.2.2.2.2.2.2.1 :: hs) (fun s1 => law17_EntryBytes.k1 a0 s1 = some r) (fun s1 x1 hk1 => ?_) (fun J1 => ?_)
 ·unfold law17_EntryBytes.k1 at hk1
  refine sq ?_
  obtain ⟨r1, hg1, hk1⟩ := inv_bind hk1
  refine A.c1 rfl rfl Tryd.func12 rfl (fun w hS => entry_Encode.c hB hS (i0a := 3) (a0 := (s1.1, s1.2.1, s1.2.2.1, s1.2.2.2.1)) rfl hg1) (fun x2 => ?_)
  refine sq ?_
  obtain ⟨r2, hg2, hk1⟩ := inv_bind hk1
  refine A.c1 rfl rfl Tryd.func15 rfl (fun w hS => ref17_Right.c hB hS (i0a := 4) (a0 := (s1.1, s1.2.1, s1.2.2.1, s1.2.2.2.1)) rfl hg2) (fun x3 => ?_)
  refine st ?_
  refine T.seq ?_
  refine T.seqJ (fun (s2 : Bool) (x4 : Unit) => [(5, .pointer (some ⟨x1.1, 0, none⟩)), (6, .pointer (some ⟨x1.2.2.1, 0, none⟩)), (7, .slice x2.1 r1.1.length x2.2), (9, .bool r2), (67, .bool s2)]) (fun s2 x4 => Cl x1.1 36 [.int .i64 s1.1, .int .i64 s1.2.1, .slice x1.2.1.1 s1.2.2.1.length x1.2.1.2, .int .i64 s1.2.2.2.1] :: Ro el20 x1.2.1.1 x1.2.1.2 s1.2.2.1 :: Cl x1.2.2.1 36 [.int .i64 s1.2.2.2.2.1, .int .i64 s1.2.2.2.2.2.1, .slice x1.2.2.2.1 s1.2.2.2.2.2.2.1.length x1.2.2.2.2, .int .i64 s1.2.2.2.2.2.2.2] :: Ro el20 x1.2.2.2.1 x1.2.2.2.2 s1.2.2.2.2.2.2.1 :: Bf E8 5 x2.1 x2.2 r1.1 :: hs) (fun s2 => law17_EntryBytes.k2 r2 r1 s1 s2 = some r) (fun s2 x4 hk2 => ?_) (fun J2 => ?_)
  ·unfold law17_EntryBytes.k2 at hk2
   refine A.cd hk2 rfl (fun hb1 hk2 => ?_) (fun hb1 hk2 => ?_)
   ·refine sq ?_
    obtain rfl := inv_some hk2
    refine pk [] 5 ?_
    refine T.ret1 rfl rfl (fun w hS => ⟨(), rfl, hS⟩)
   ·refine sq ?_
    refine T.not .list rfl (wants0 rfl) rfl rfl ?_
    refine st ?_
    refine A.cd hk2 rfl (fun hb2 hk2 => ?_) (fun hb2 hk2 => ?_)
    ·refine sq ?_
     obtain rfl := inv_some hk2
     refine pk [] 5 ?_
     refine T.ret1 rfl rfl (fun w hS => ⟨(), rfl, hS⟩)
    ·refine sq ?_
     refine T.freeze 4 rfl rfl rfl ?_
     obtain ⟨r3, hg3, hk2⟩ := inv_bind hk2
     refine A.c1 rfl rfl Tryd.func11 rfl (fun w hS => entry_Decode.c hB hS (i0 := 4) rfl hg3) (fun x5 => ?_)
     refine st ?_
     refine A.al rfl (fun b3 => ?_)
     refine sq ?_
     obtain ⟨r4, hg4, hk2⟩ := inv_bind hk2
     refine A.c1 rfl rfl Tryd.func12 rfl (fun w hS => entry_Encode.c hB hS (i0a := 5) (a0 := s1.2.2.2.2) rfl hg4) (fun x6 => ?_)
     refine sq ?_
     refine T.dStart mixed ?_
     refine D.mv 0 ?_
     refine T.bin (.dPure (i := 1) rfl (by kernel_rfl) (fun d _ _ _ _ h => by cases d <;> exact h)) rfl (wants0 rfl) rfl rfl rfl rfl ?_
     refine D.mv 2 ?_
     refine br hk2 (fun hb3 hk2 => ?_) (fun hb3 hk2 => ?_)
     ·refine T.dAdd 28 (fun w => w.heap[b3]? = some (.cells [.int .i64 r3.1.1, .int .i64 r3.1.2.1, .slice x5.1 r3.1.2.2.1.length x5.2, .int .i64 r3.1.2.2.2].toArray 36 (0, 0))) (Cl.stays 1 rfl) ?_
      refine T.valS 0 (i := 3) (.agg #[.int .i64 r3.1.1, .int .i64 r3.1.2.1, .slice x5.1 r3.1.2.2.1.length x5.2, .int .i64 r3.1.2.2.2]) rfl rfl (by kernel_rfl) (by kernel_rfl) (fun d _ _ _ _ h => by cases d <;> exact h) (wants1 rfl rfl rfl hb3) rfl (run_ldClN rfl rfl (vs := [.int .i64 r3.1.1, .int .i64 r3.1.2.1, .slice x5.1 r3.1.2.2.1.length x5.2, .int .i64 r3.1.2.2.2]) rfl rfl) ?_
      refine T.dAdd 28 (fun w => w.heap[x1.1]? = some (.cells [.int .i64 s1.1, .int .i64 s1.2.1, .slice x1.2.1.1 s1.2.2.1.length x1.2.1.2, .int .i64 s1.2.2.2.1].toArray 36 (0, 0))) (Cl.stays 3 rfl) ?_
      refine T.valS 0 (i := 4) (.agg #[.int .i64 s1.1, .int .i64 s1.2.1, .slice x1.2.1.1 s1.2.2.1.length x1.2.1.2, .int .i64 s1.2.2.2.1]) rfl rfl (by kernel_rfl) (by kernel_rfl) (fun d _ _ _ _ h => by cases d <;> exact h) (wants1 rfl rfl rfl hb3) rfl (run_ldClN rfl rfl (vs := [.int .i64 s1.1, .int .i64 s1.2.1, .slice x1.2.1.1 s1.2.2.1.length x1.2.1.2, .int .i64 s1.2.2.2.1]) rfl rfl) ?_
      obtain ⟨r5, hg5, hk2⟩ := inv_bind hk2
      refine D.on 5 ?_
      refine D.c2g rfl (by kernel_rfl) rfl rfl hb3 rfl rfl rfl Tryd.func17 rfl (fun w hS => ref17_Same.c hB hS (i0a := 2) (i1a := 4) (a0 := r3.1) (a1 := (s1.1, s1.2.1, s1.2.2.1, s1.2.2.2.1)) rfl rfl hg5) (fun x7 => ?_)
      refine T.dNext (phi_cons (.inr (Cl.stays 3 rfl)) (phi_cons (.inr (Cl.stays 1 rfl)) phi_nil)) ?_
      refine D.pt 6 ?_
      refine D.mv 7 ?_
      refine br hk2 (fun hb4 hk2 => ?_) (fun hb4 hk2 => ?_)
      ·refine D.mv 8 ?_
       refine T.lenSlice (.dPure (i := 9) rfl (by kernel_rfl) (fun d _ _ _ _ h => by cases d <;> exact h)) rfl (wants1 rfl rfl rfl hb4) rfl rfl ?_
       refine T.bin (.dPure (i := 10) rfl (by kernel_rfl) (fun d _ _ _ _ h => by cases d <;> exact h)) rfl (wants1 rfl rfl rfl hb4) rfl rfl rfl rfl ?_
       refine D.pt 11 ?_
       refine D.mv 12 ?_
       refine br hk2 (fun hb5 hk2 => ?_) (fun hb5 hk2 => ?_)
       ·refine D.mv 13 ?_
        refine T.bin (.dPure (i := 14) rfl (by kernel_rfl) (fun d _ _ _ _ h => by cases d <;> exact h)) rfl (wants1 rfl rfl rfl hb5) rfl rfl rfl rfl ?_
        refine D.mv 15 ?_
        refine br hk2 (fun hb6 hk2 => ?_) (fun hb6 hk2 => ?_)
        ·refine D.mv 16 ?_
         refine D.mv 18 ?_
         refine T.keep (fun z1 hk3 => ?_)
         refine T.dAdd 28 (fun w => PH.le z1 (PH.of w)) (Kp.le 0 rfl) ?_
         refine T.valS 0 (i := 17) (str r1.1) rfl rfl (by kernel_rfl) (by kernel_rfl) (fun d _ _ _ _ h => by cases d <;> exact h) (wants1 rfl rfl rfl (not_t hb6)) rfl (run_strRo (hk3 7 rfl).1 rfl rfl rfl) ?_
         refine T.freeze 1 rfl rfl rfl ?_
         refine T.keep (fun z2 hk4 => ?_)
         refine T.dAdd 28 (fun w => PH.le z2 (PH.of w)) (Kp.le 0 rfl) ?_
         refine T.valS 0 (i := 19) (str r4.1) rfl rfl (by kernel_rfl) (by kernel_rfl) (fun d _ _ _ _ h => by cases d <;> exact h) (wants1 rfl rfl rfl (not_t hb6)) rfl (run_strRo (hk4 1 rfl).1 rfl rfl rfl) ?_
         refine T.strEq (.dPure (i := 20) rfl (by kernel_rfl) (fun d _ _ _ _ h => by cases d <;> exact h)) rfl (wants1 rfl rfl rfl (not_t hb6)) rfl (l := r1.1) (l' := r4.1) rfl rfl ?_
         refine T.valS 2 (i := 21) (.agg #[.int .i64 s1.1, .int .i64 s1.2.1, .slice x1.2.1.1 s1.2.2.1.length x1.2.1.2, .int .i64 s1.2.2.2.1]) rfl rfl (by kernel_rfl) (by kernel_rfl) (fun d _ _ _ _ h => by cases d <;> exact h) (wants1 rfl rfl rfl (not_t hb6)) rfl (run_ldClN rfl rfl (vs := [.int .i64 s1.1, .int .i64 s1.2.1, .slice x1.2.1.1 s1.2.2.1.length x1.2.1.2, .int .i64 s1.2.2.2.1]) rfl rfl) ?_
         refine T.dAdd 28 (fun w => w.heap[x1.2.2.1]? = some (.cells [.int .i64 s1.2.2.2.2.1, .int .i64 s1.2.2.2.2.2.1, .slice x1.2.2.2.1 s1.2.2.2.2.2.2.1.length x1.2.2.2.2, .int .i64 s1.2.2.2.2.2.2.2].toArray 36 (0, 0))) (Cl.stays 7 rfl) ?_
         refine T.valS 0 (i := 22) (.agg #[.int .i64 s1.2.2.2.2.1, .int .i64 s1.2.2.2.2.2.1, .slice x1.2.2.2.1 s1.2.2.2.2.2.2.1.length x1.2.2.2.2, .int .i64 s1.2.2.2.2.2.2.2]) rfl rfl (by kernel_rfl) (by kernel_rfl) (fun d _ _ _ _ h => by cases d <;> exact h) (wants1 rfl rfl rfl (not_t hb6)) rfl (run_ldClN rfl rfl (vs := [.int .i64 s1.2.2.2.2.1, .int .i64 s1.2.2.2.2.2.1, .slice x1.2.2.2.1 s1.2.2.2.2.2.2.1.length x1.2.2.2.2, .int .i64 s1.2.2.2.2.2.2.2]) rfl rfl) ?_
         obtain ⟨r6, hg6, hk2⟩ := inv_bind hk2
         refine D.on 23 ?_
         refine D.c2g rfl (by kernel_rfl) rfl rfl (not_t hb6) rfl rfl rfl Tryd.func17 rfl (fun w hS => ref17_Same.c hB hS (i0a := 6) (i1a := 8) (a0 := (s1.1, s1.2.1, s1.2.2.1, s1.2.2.2.1)) (a1 := s1.2.2.2.2) rfl rfl hg6) (fun x8 => ?_)
         refine T.dNext (phi_cons (.inr (Cl.stays 7 rfl)) (phi_cons (.inr (Kp.le 0 rfl)) (phi_cons (.inr (Kp.le 1 rfl)) (phi_cons (.inr (Cl.stays 5 rfl)) (phi_cons (.inr (Cl.stays 3 rfl)) phi_nil))))) ?_
         refine T.boolEq (.dPure (i := 24) rfl (by kernel_rfl) (fun d _ _ _ _ h => by cases d <;> exact h)) rfl (wants1 rfl rfl rfl (not_t hb6)) rfl rfl rfl (by kernel_rfl) ?_
         refine D.pf 25 ?_
         refine D.pt 26 ?_
         refine D.asg 27 ?_
         refine T.dDone (by kernel_rfl) ?_
         refine st ?_
         obtain rfl := inv_some hk2
         refine pk [] 10 ?_
         refine T.ret1 rfl rfl (fun w hS => ⟨(), rfl, hS⟩)
        ·refine D.lv 16 ?_
         refine D.lv 17 ?_
         refine D.lv 18 ?_
         refine D.lv 19 ?_
         refine D.lv 20 ?_
         refine D.lv 21 ?_
         refine D.lv 22 ?_
         refine D.lv 23 ?_
         refine D.lv 24 ?_
         refine D.pt 25 ?_
         refine D.pt 26 ?_
         refine D.asg 27 ?_
         refine T.dDone (by kernel_rfl) ?_
         refine st ?_
         obtain rfl := inv_some hk2
         refine pk [] 8 ?_
         refine T.ret1 rfl rfl (fun w hS => ⟨(), rfl, hS⟩)
       ·refine D.lv 13 ?_
        refine D.lv 14 ?_
        refine D.lv 15 ?_
        refine D.lv 16 ?_
        refine D.lv 17 ?_
        refine D.lv 18 ?_
        refine D.lv 19 ?_
        refine D.lv 20 ?_
        refine D.lv 21 ?_
        refine D.lv 22 ?_
        refine D.lv 23 ?_
        refine D.lv 24 ?_
        refine D.lv 25 ?_
        refine D.pf 26 ?_
        refine D.asg 27 ?_
        refine T.dDone (by kernel_rfl) ?_
        refine st ?_
        obtain rfl := inv_some hk2
        refine pk [] 8 ?_
        refine T.ret1 rfl rfl (fun w hS => ⟨(), rfl, hS⟩)
      ·refine D.lv 8 ?_
       refine D.lv 9 ?_
       refine D.lv 10 ?_
       refine D.pf 11 ?_
       refine D.mv 12 ?_
       refine D.lv 13 ?_
       refine D.lv 14 ?_
       refine D.lv 15 ?_
       refine D.lv 16 ?_
       refine D.lv 17 ?_
       refine D.lv 18 ?_
       refine D.lv 19 ?_
       refine D.lv 20 ?_
       refine D.lv 21 ?_
       refine D.lv 22 ?_
       refine D.lv 23 ?_
       refine D.lv 24 ?_
       refine D.lv 25 ?_
       refine D.pf 26 ?_
       refine D.asg 27 ?_
       refine T.dDone (by kernel_rfl) ?_
       refine st ?_
       obtain rfl := inv_some hk2
       refine pk [] 8 ?_
       refine T.ret1 rfl rfl (fun w hS => ⟨(), rfl, hS⟩)
     ·refine D.lv 3 ?_
      refine D.lv 4 ?_
      refine D.lv 5 ?_
      refine D.pf 6 ?_
      refine D.mv 7 ?_
      refine D.lv 8 ?_
      refine D.lv 9 ?_
      refine D.lv 10 ?_
      refine D.pf 11 ?_
      refine D.mv 12 ?_
      refine D.lv 13 ?_
      refine D.lv 14 ?_
      refine D.lv 15 ?_
      refine D.lv 16 ?_
      refine D.lv 17 ?_
      refine D.lv 18 ?_
      refine D.lv 19 ?_
      refine D.lv 20 ?_
      refine D.lv 21 ?_
      refine D.lv 22 ?_
      refine D.lv 23 ?_
      refine D.lv 24 ?_
      refine D.lv 25 ?_
      refine D.pf 26 ?_
      refine D.asg 27 ?_
      refine T.dDone (by kernel_rfl) ?_
      refine st ?_
      obtain rfl := inv_some hk2
      refine pk [] 8 ?_
      refine T.ret1 rfl rfl (fun w hS => ⟨(), rfl, hS⟩)
  ·refine T.dStart mixed ?_
   obtain ⟨r7, hg7, hk1⟩ := inv_bind hk1
   refine D.on 0 ?_
   refine T.call (.dOne rfl (by kernel_rfl)) (wants0 rfl) rfl (run_callF (vs := []) rfl Tryd.func8 rfl (by decide) rfl) (fun w hS => law17_told.c hB hS  hg7) (fun x9 => ?_)
   refine T.dNext phi_nil ?_
   refine T.not (.dPure (i := 1) rfl (by kernel_rfl) (fun d _ _ _ _ h => by cases d <;> exact h)) rfl (wants0 rfl) rfl rfl ?_
   refine D.mv 2 ?_
   refine br hk1 (fun hb7 hk1 => ?_) (fun hb7 hk1 => ?_)
   ·refine D.mv 5 ?_
    refine T.dAdd 43 (fun w => w.heap[x1.1]? = some (.cells [.int .i64 s1.1, .int .i64 s1.2.1, .slice x1.2.1.1 s1.2.2.1.length x1.2.1.2, .int .i64 s1.2.2.2.1].toArray 36 (0, 0))) (Cl.stays 3 rfl) ?_
    refine T.valS 0 (i := 3) (.agg #[.int .i64 s1.1, .int .i64 s1.2.1, .slice x1.2.1.1 s1.2.2.1.length x1.2.1.2, .int .i64 s1.2.2.2.1]) rfl rfl (by kernel_rfl) (by kernel_rfl) (fun d _ _ _ _ h => by cases d <;> exact h) (wants1 rfl rfl rfl (not_t hb7)) rfl (run_ldClN rfl rfl (vs := [.int .i64 s1.1, .int .i64 s1.2.1, .slice x1.2.1.1 s1.2.2.1.length x1.2.1.2, .int .i64 s1.2.2.2.1]) rfl rfl) ?_
    obtain ⟨r8, hg8, hk1⟩ := inv_bind hk1
    refine D.on 4 ?_
    refine D.c1g rfl (by kernel_rfl) rfl rfl (not_t hb7) rfl rfl Tryd.func13 rfl (fun w hS => entry_Right.c hB hS (i0a := 4) (a0 := (s1.1, s1.2.1, s1.2.2.1, s1.2.2.2.1)) rfl hg8) (fun x10 => ?_)
    refine T.dNext (phi_cons (.inr (Cl.stays 3 rfl)) phi_nil) ?_
    refine T.boolNe (.dPure (i := 6) rfl (by kernel_rfl) (fun d _ _ _ _ h => by cases d <;> exact h)) rfl (wants1 rfl rfl rfl (not_t hb7)) rfl rfl rfl (by kernel_rfl) ?_
    refine D.pf 7 ?_
    refine D.mv 8 ?_
    refine br hk1 (fun hb8 hk1 => ?_) (fun hb8 hk1 => ?_)
    ·refine D.mv 9 ?_
     refine T.bin (.dPure (i := 10) rfl (by kernel_rfl) (fun d _ _ _ _ h => by cases d <;> exact h)) rfl (wants1 rfl rfl rfl (not_t hb8)) rfl rfl rfl rfl ?_
     refine D.mv 11 ?_
     refine T.boolNe (.dPure (i := 12) rfl (by kernel_rfl) (fun d _ _ _ _ h => by cases d <;> exact h)) rfl (wants1 rfl rfl rfl (not_t hb8)) rfl rfl rfl (by kernel_rfl) ?_
     refine D.pf 13 ?_
     refine D.mv 14 ?_
     refine br hk1 (fun hb9 hk1 => ?_) (fun hb9 hk1 => ?_)
     ·refine D.mv 15 ?_
      refine T.not (.dPure (i := 16) rfl (by kernel_rfl) (fun d _ _ _ _ h => by cases d <;> exact h)) rfl (wants1 rfl rfl rfl (not_t hb9)) rfl rfl ?_
      refine D.mv 17 ?_
      refine br hk1 (fun hb10 hk1 => ?_) (fun hb10 hk1 => ?_)
      ·refine D.lv 18 ?_
       refine D.lv 19 ?_
       refine D.lv 20 ?_
       refine D.lv 21 ?_
       refine D.lv 22 ?_
       refine D.lv 23 ?_
       refine D.lv 24 ?_
       refine D.pf 25 ?_
       refine D.pf 26 ?_
       refine D.mv 27 ?_
       refine T.valS 0 (i := 28) (.agg #[.int .i64 s1.1, .int .i64 s1.2.1, .slice x1.2.1.1 s1.2.2.1.length x1.2.1.2, .int .i64 s1.2.2.2.1]) rfl rfl (by kernel_rfl) (by kernel_rfl) (fun d _ _ _ _ h => by cases d <;> exact h) (wants1 rfl rfl rfl rfl) rfl (run_ldClN rfl rfl (vs := [.int .i64 s1.1, .int .i64 s1.2.1, .slice x1.2.1.1 s1.2.2.1.length x1.2.1.2, .int .i64 s1.2.2.2.1]) rfl rfl) ?_
       refine T.dAdd 43 (fun w => w.heap[x1.2.2.1]? = some (.cells [.int .i64 s1.2.2.2.2.1, .int .i64 s1.2.2.2.2.2.1, .slice x1.2.2.2.1 s1.2.2.2.2.2.2.1.length x1.2.2.2.2, .int .i64 s1.2.2.2.2.2.2.2].toArray 36 (0, 0))) (Cl.stays 5 rfl) ?_
       refine T.valS 0 (i := 29) (.agg #[.int .i64 s1.2.2.2.2.1, .int .i64 s1.2.2.2.2.2.1, .slice x1.2.2.2.1 s1.2.2.2.2.2.2.1.length x1.2.2.2.2, .int .i64 s1.2.2.2.2.2.2.2]) rfl rfl (by kernel_rfl) (by kernel_rfl) (fun d _ _ _ _ h => by cases d <;> exact h) (wants1 rfl rfl rfl rfl) rfl (run_ldClN rfl rfl (vs := [.int .i64 s1.2.2.2.2.1, .int .i64 s1.2.2.2.2.2.1, .slice x1.2.2.2.1 s1.2.2.2.2.2.2.1.length x1.2.2.2.2, .int .i64 s1.2.2.2.2.2.2.2]) rfl rfl) ?_
       refine T.valS 1 (i := 31) (.agg #[.int .i64 s1.1, .int .i64 s1.2.1, .slice x1.2.1.1 s1.2.2.1.length x1.2.1.2, .int .i64 s1.2.2.2.1]) rfl rfl (by kernel_rfl) (by kernel_rfl) (fun d _ _ _ _ h => by cases d <;> exact h) (wants1 rfl rfl rfl rfl) rfl (run_ldClN rfl rfl (vs := [.int .i64 s1.1, .int .i64 s1.2.1, .slice x1.2.1.1 s1.2.2.1.length x1.2.1.2, .int .i64 s1.2.2.2.1]) rfl rfl) ?_
       refine T.valS 0 (i := 32) (.agg #[.int .i64 s1.2.2.2.2.1, .int .i64 s1.2.2.2.2.2.1, .slice x1.2.2.2.1 s1.2.2.2.2.2.2.1.length x1.2.2.2.2, .int .i64 s1.2.2.2.2.2.2.2]) rfl rfl (by kernel_rfl) (by kernel_rfl) (fun d _ _ _ _ h => by cases d <;> exact h) (wants1 rfl rfl rfl rfl) rfl (run_ldClN rfl rfl (vs := [.int .i64 s1.2.2.2.2.1, .int .i64 s1.2.2.2.2.2.1, .slice x1.2.2.2.1 s1.2.2.2.2.2.2.1.length x1.2.2.2.2, .int .i64 s1.2.2.2.2.2.2.2]) rfl rfl) ?_
       obtain ⟨r9, hg9, hk1⟩ := inv_bind hk1
       refine D.on 30 ?_
       refine D.c2g rfl (by kernel_rfl) rfl rfl rfl rfl rfl rfl Tryd.func16 rfl (fun w hS => entry_Same.c hB hS (i0a := 4) (i1a := 6) (a0 := (s1.1, s1.2.1, s1.2.2.1, s1.2.2.2.1)) (a1 := s1.2.2.2.2) rfl rfl hg9) (fun x11 => ?_)
       refine T.dNext (phi_cons (.inr (Cl.stays 5 rfl)) (phi_cons (.inr (Cl.stays 3 rfl)) phi_nil)) ?_
       obtain ⟨r10, hg10, hk1⟩ := inv_bind hk1
       refine D.on 33 ?_
       refine D.c2g rfl (by kernel_rfl) rfl rfl rfl rfl rfl rfl Tryd.func17 rfl (fun w hS => ref17_Same.c hB hS (i0a := 4) (i1a := 6) (a0 := (s1.1, s1.2.1, s1.2.2.1, s1.2.2.2.1)) (a1 := s1.2.2.2.2) rfl rfl hg10) (fun x12 => ?_)
       refine T.dNext (phi_cons (.inr (Cl.stays 5 rfl)) (phi_cons (.inr (Cl.stays 3 rfl)) phi_nil)) ?_
       refine T.boolNe (.dPure (i := 34) rfl (by kernel_rfl) (fun d _ _ _ _ h => by cases d <;> exact h)) rfl (wants1 rfl rfl rfl rfl) rfl rfl rfl (by kernel_rfl) ?_
       refine D.pf 35 ?_
       refine D.mv 36 ?_
       refine br hk1 (fun hb11 hk1 => ?_) (fun hb11 hk1 => ?_)
       ·refine T.valS 1 (i := 37) (.agg #[.int .i64 s1.1, .int .i64 s1.2.1, .slice x1.2.1.1 s1.2.2.1.length x1.2.1.2, .int .i64 s1.2.2.2.1]) rfl rfl (by kernel_rfl) (by kernel_rfl) (fun d _ _ _ _ h => by cases d <;> exact h) (wants1 rfl rfl rfl (not_t hb11)) rfl (run_ldClN rfl rfl (vs := [.int .i64 s1.1, .int .i64 s1.2.1, .slice x1.2.1.1 s1.2.2.1.length x1.2.1.2, .int .i64 s1.2.2.2.1]) rfl rfl) ?_
        refine T.dAdd 43 (fun w => w.heap[b1]? = some (.cells [.int .i64 a0.1, .int .i64 a0.2.1, .slice A0a a0.2.2.1.length c0a, .int .i64 a0.2.2.2].toArray 36 (0, 0))) (Cl.stays 1 rfl) ?_
        refine T.valS 0 (i := 38) (.agg #[.int .i64 a0.1, .int .i64 a0.2.1, .slice A0a a0.2.2.1.length c0a, .int .i64 a0.2.2.2]) rfl rfl (by kernel_rfl) (by kernel_rfl) (fun d _ _ _ _ h => by cases d <;> exact h) (wants1 rfl rfl rfl (not_t hb11)) rfl (run_ldClN rfl rfl (vs := [.int .i64 a0.1, .int .i64 a0.2.1, .slice A0a a0.2.2.1.length c0a, .int .i64 a0.2.2.2]) rfl rfl) ?_
        obtain ⟨r11, hg11, hk1⟩ := inv_bind hk1
        refine D.on 39 ?_
        refine D.c1g rfl (by kernel_rfl) rfl rfl (not_t hb11) rfl rfl Tryd.func14 rfl (fun w hS => law17_few.c hB hS (i0a := 2) (a0 := a0) rfl hg11) (fun x13 => ?_)
        refine T.dNext (phi_cons (.inr (Cl.stays 2 rfl)) (phi_cons (.inr (Cl.stays 6 rfl)) (phi_cons (.inr (Cl.stays 4 rfl)) phi_nil))) ?_
        obtain ⟨r12, hg12, hk1⟩ := inv_bind hk1
        refine D.on 40 ?_
        refine D.c2g rfl (by kernel_rfl) rfl rfl (not_t hb11) rfl rfl rfl Tryd.func17 rfl (fun w hS => ref17_Same.c hB hS (i0a := 5) (i1a := 0) (a0 := (s1.1, s1.2.1, s1.2.2.1, s1.2.2.2.1)) (a1 := r11) rfl rfl hg12) (fun x14 => ?_)
        refine T.dNext (phi_cons (.inr (Cl.stays 2 rfl)) (phi_cons (.inr (Cl.stays 6 rfl)) (phi_cons (.inr (Cl.stays 4 rfl)) phi_nil))) ?_
        refine T.not (.dPure (i := 41) rfl (by kernel_rfl) (fun d _ _ _ _ h => by cases d <;> exact h)) rfl (wants1 rfl rfl rfl (not_t hb11)) rfl rfl ?_
        refine D.pf 42 ?_
        refine T.dDone (by kernel_rfl) ?_
        refine sx ?_
        exact jn [4, 5, 6, 7, 1] 8 (J2 (!r12) () hk1)
       ·refine D.lv 37 ?_
        refine D.lv 38 ?_
        refine D.lv 39 ?_
        refine D.lv 40 ?_
        refine D.lv 41 ?_
        refine D.pt 42 ?_
        refine T.dDone (by kernel_rfl) ?_
        refine sx ?_
        exact jn [3, 4, 5, 6, 0] 7 (J2 true () hk1)
      ·refine D.mv 18 ?_
       refine T.bin (.dPure (i := 19) rfl (by kernel_rfl) (fun d _ _ _ _ h => by cases d <;> exact h)) rfl (wants1 rfl rfl rfl (not_f hb10)) rfl rfl rfl rfl ?_
       refine D.mv 20 ?_
       refine br hk1 (fun hb12 hk1 => ?_) (fun hb12 hk1 => ?_)
       ·refine D.mv 21 ?_
        refine T.lenSlice (.dPure (i := 22) rfl (by kernel_rfl) (fun d _ _ _ _ h => by cases d <;> exact h)) rfl (wants1 rfl rfl rfl (not_t hb12)) rfl rfl ?_
        refine T.bin (.dPure (i := 23) rfl (by kernel_rfl) (fun d _ _ _ _ h => by cases d <;> exact h)) rfl (wants1 rfl rfl rfl (not_t hb12)) rfl rfl rfl rfl ?_
        refine D.pf 24 ?_
        refine D.pt 25 ?_
        refine D.pf 26 ?_
        refine D.mv 27 ?_
        refine br hk1 (fun hb13 hk1 => ?_) (fun hb13 hk1 => ?_)
        ·refine D.lv 28 ?_
         refine D.lv 29 ?_
         refine D.lv 30 ?_
         refine D.lv 31 ?_
         refine D.lv 32 ?_
         refine D.lv 33 ?_
         refine D.lv 34 ?_
         refine D.pt 35 ?_
         refine D.mv 36 ?_
         refine D.lv 37 ?_
         refine D.lv 38 ?_
         refine D.lv 39 ?_
         refine D.lv 40 ?_
         refine D.lv 41 ?_
         refine D.pt 42 ?_
         refine T.dDone (by kernel_rfl) ?_
         refine sx ?_
         exact jn [3, 4, 5, 6, 0] 7 (J2 true () hk1)
        ·refine T.valS 0 (i := 28) (.agg #[.int .i64 s1.1, .int .i64 s1.2.1, .slice x1.2.1.1 s1.2.2.1.length x1.2.1.2, .int .i64 s1.2.2.2.1]) rfl rfl (by kernel_rfl) (by kernel_rfl) (fun d _ _ _ _ h => by cases d <;> exact h) (wants1 rfl rfl rfl hb13) rfl (run_ldClN rfl rfl (vs := [.int .i64 s1.1, .int .i64 s1.2.1, .slice x1.2.1.1 s1.2.2.1.length x1.2.1.2, .int .i64 s1.2.2.2.1]) rfl rfl) ?_
         refine T.dAdd 43 (fun w => w.heap[x1.2.2.1]? = some (.cells [.int .i64 s1.2.2.2.2.1, .int .i64 s1.2.2.2.2.2.1, .slice x1.2.2.2.1 s1.2.2.2.2.2.2.1.length x1.2.2.2.2, .int .i64 s1.2.2.2.2.2.2.2].toArray 36 (0, 0))) (Cl.stays 5 rfl) ?_
         refine T.valS 0 (i := 29) (.agg #[.int .i64 s1.2.2.2.2.1, .int .i64 s1.2.2.2.2.2.1, .slice x1.2.2.2.1 s1.2.2.2.2.2.2.1.length x1.2.2.2.2, .int .i64 s1.2.2.2.2.2.2.2]) rfl rfl (by kernel_rfl) (by kernel_rfl) (fun d _ _ _ _ h => by cases d <;> exact h) (wants1 rfl rfl rfl hb13) rfl (run_ldClN rfl rfl (vs := [.int .i64 s1.2.2.2.2.1, .int .i64 s1.2.2.2.2.2.1, .slice x1.2.2.2.1 s1.2.2.2.2.2.2.1.length x1.2.2.2.2, .int .i64 s1.2.2.2.2.2.2.2]) rfl rfl) ?_
         refine T.valS 1 (i := 31) (.agg #[.int .i64 s1.1, .int .i64 s1.2.1, .slice x1.2.1.1 s1.2.2.1.length x1.2.1.2, .int .i64 s1.2.2.2.1]) rfl rfl (by kernel_rfl) (by kernel_rfl) (fun d _ _ _ _ h => by cases d <;> exact h) (wants1 rfl rfl rfl hb13) rfl (run_ldClN rfl rfl (vs := [.int .i64 s1.1, .int .i64 s1.2.1, .slice x1.2.1.1 s1.2.2.1.length x1.2.1.2, .int .i64 s1.2.2.2.1]) rfl rfl) ?_
         refine T.valS 0 (i := 32) (.agg #[.int .i64 s1.2.2.2.2.1, .int .i64 s1.2.2.2.2.2.1, .slice x1.2.2.2.1 s1.2.2.2.2.2.2.1.length x1.2.2.2.2, .int .i64 s1.2.2.2.2.2.2.2]) rfl rfl (by kernel_rfl) (by kernel_rfl) (fun d _ _ _ _ h => by cases d <;> exact h) (wants1 rfl rfl rfl hb13) rfl (run_ldClN rfl rfl (vs := [.int .i64 s1.2.2.2.2.1, .int .i64 s1.2.2.2.2.2.1, .slice x1.2.2.2.1 s1.2.2.2.2.2.2.1.length x1.2.2.2.2, .int .i64 s1.2.2.2.2.2.2.2]) rfl rfl) ?_
         obtain ⟨r13, hg13, hk1⟩ := inv_bind hk1
         refine D.on 30 ?_
         refine D.c2g rfl (by kernel_rfl) rfl rfl hb13 rfl rfl rfl Tryd.func16 rfl (fun w hS => entry_Same.c hB hS (i0a := 4) (i1a := 6) (a0 := (s1.1, s1.2.1, s1.2.2.1, s1.2.2.2.1)) (a1 := s1.2.2.2.2) rfl rfl hg13) (fun x15 => ?_)
         refine T.dNext (phi_cons (.inr (Cl.stays 5 rfl)) (phi_cons (.inr (Cl.stays 3 rfl)) phi_nil)) ?_
         obtain ⟨r14, hg14, hk1⟩ := inv_bind hk1
         refine D.on 33 ?_
         refine D.c2g rfl (by kernel_rfl) rfl rfl hb13 rfl rfl rfl Tryd.func17 rfl (fun w hS => ref17_Same.c hB hS (i0a := 4) (i1a := 6) (a0 := (s1.1, s1.2.1, s1.2.2.1, s1.2.2.2.1)) (a1 := s1.2.2.2.2) rfl rfl hg14) (fun x16 => ?_)
         refine T.dNext (phi_cons (.inr (Cl.stays 5 rfl)) (phi_cons (.inr (Cl.stays 3 rfl)) phi_nil)) ?_
         refine T.boolNe (.dPure (i := 34) rfl (by kernel_rfl) (fun d _ _ _ _ h => by cases d <;> exact h)) rfl (wants1 rfl rfl rfl hb13) rfl rfl rfl (by kernel_rfl) ?_
         refine D.pf 35 ?_
         refine D.mv 36 ?_
         refine br hk1 (fun hb14 hk1 => ?_) (fun hb14 hk1 => ?_)
         ·refine T.valS 1 (i := 37) (.agg #[.int .i64 s1.1, .int .i64 s1.2.1, .slice x1.2.1.1 s1.2.2.1.length x1.2.1.2, .int .i64 s1.2.2.2.1]) rfl rfl (by kernel_rfl) (by kernel_rfl) (fun d _ _ _ _ h => by cases d <;> exact h) (wants1 rfl rfl rfl (not_t hb14)) rfl (run_ldClN rfl rfl (vs := [.int .i64 s1.1, .int .i64 s1.2.1, .slice x1.2.1.1 s1.2.2.1.length x1.2.1.2, .int .i64 s1.2.2.2.1]) rfl rfl) ?_
          refine T.dAdd 43 (fun w => w.heap[b1]? = some (.cells [.int .i64 a0.1, .int .i64 a0.2.1, .slice A0a a0.2.2.1.length c0a, .int .i64 a0.2.2.2].toArray 36 (0, 0))) (Cl.stays 1 rfl) ?_
          refine T.valS 0 (i := 38) (.agg #[.int .i64 a0.1, .int .i64 a0.2.1, .slice A0a a0.2.2.1.length c0a, .int .i64 a0.2.2.2]) rfl rfl (by kernel_rfl) (by kernel_rfl) (fun d _ _ _ _ h => by cases d <;> exact h) (wants1 rfl rfl rfl (not_t hb14)) rfl (run_ldClN rfl rfl (vs := [.int .i64 a0.1, .int .i64 a0.2.1, .slice A0a a0.2.2.1.length c0a, .int .i64 a0.2.2.2]) rfl rfl) ?_
          obtain ⟨r15, hg15, hk1⟩ := inv_bind hk1
          refine D.on 39 ?_
          refine D.c1g rfl (by kernel_rfl) rfl rfl (not_t hb14) rfl rfl Tryd.func14 rfl (fun w hS => law17_few.c hB hS (i0a := 2) (a0 := a0) rfl hg15) (fun x17 => ?_)
          refine T.dNext (phi_cons (.inr (Cl.stays 2 rfl)) (phi_cons (.inr (Cl.stays 6 rfl)) (phi_cons (.inr (Cl.stays 4 rfl)) phi_nil))) ?_
          obtain ⟨r16, hg16, hk1⟩ := inv_bind hk1
          refine D.on 40 ?_
          refine D.c2g rfl (by kernel_rfl) rfl rfl (not_t hb14) rfl rfl rfl Tryd.func17 rfl (fun w hS => ref17_Same.c hB hS (i0a := 5) (i1a := 0) (a0 := (s1.1, s1.2.1, s1.2.2.1, s1.2.2.2.1)) (a1 := r15) rfl rfl hg16) (fun x18 => ?_)
          refine T.dNext (phi_cons (.inr (Cl.stays 2 rfl)) (phi_cons (.inr (Cl.stays 6 rfl)) (phi_cons (.inr (Cl.stays 4 rfl)) phi_nil))) ?_
          refine T.not (.dPure (i := 41) rfl (by kernel_rfl) (fun d _ _ _ _ h => by cases d <;> exact h)) rfl (wants1 rfl rfl rfl (not_t hb14)) rfl rfl ?_
          refine D.pf 42 ?_
          refine T.dDone (by kernel_rfl) ?_
          refine sx ?_
          exact jn [4, 5, 6, 7, 1] 8 (J2 (!r16) () hk1)
         ·refine D.lv 37 ?_
          refine D.lv 38 ?_
          refine D.lv 39 ?_
          refine D.lv 40 ?_
          refine D.lv 41 ?_
          refine D.pt 42 ?_
          refine T.dDone (by kernel_rfl) ?_
          refine sx ?_
          exact jn [3, 4, 5, 6, 0] 7 (J2 true () hk1)
       ·refine D.lv 21 ?_
        refine D.lv 22 ?_
        refine D.lv 23 ?_
        refine D.pt 24 ?_
        refine D.pt 25 ?_
        refine D.pf 26 ?_
        refine D.mv 27 ?_
        refine D.lv 28 ?_
        refine D.lv 29 ?_
        refine D.lv 30 ?_
        refine D.lv 31 ?_
        refine D.lv 32 ?_
        refine D.lv 33 ?_
        refine D.lv 34 ?_
        refine D.pt 35 ?_
        refine D.mv 36 ?_
        refine D.lv 37 ?_
        refine D.lv 38 ?_
        refine D.lv 39 ?_
        refine D.lv 40 ?_
        refine D.lv 41 ?_
        refine D.pt 42 ?_
        refine T.dDone (by kernel_rfl) ?_
        refine sx ?_
        exact jn [3, 4, 5, 6, 0] 7 (J2 true () hk1)
     ·refine D.lv 15 ?_
      refine D.lv 16 ?_
      refine D.lv 17 ?_
      refine D.lv 18 ?_
      refine D.lv 19 ?_
      refine D.lv 20 ?_
      refine D.lv 21 ?_
      refine D.lv 22 ?_
      refine D.lv 23 ?_
      refine D.lv 24 ?_
      refine D.lv 25 ?_
      refine D.pt 26 ?_
      refine D.mv 27 ?_
      refine D.lv 28 ?_
      refine D.lv 29 ?_
      refine D.lv 30 ?_
      refine D.lv 31 ?_
      refine D.lv 32 ?_
      refine D.lv 33 ?_
      refine D.lv 34 ?_
      refine D.pt 35 ?_
      refine D.mv 36 ?_
      refine D.lv 37 ?_
      refine D.lv 38 ?_
      refine D.lv 39 ?_
      refine D.lv 40 ?_
      refine D.lv 41 ?_
      refine D.pt 42 ?_
      refine T.dDone (by kernel_rfl) ?_
      refine sx ?_
      exact jn [3, 4, 5, 6, 0] 7 (J2 true () hk1)
    ·refine D.lv 9 ?_
     refine D.lv 10 ?_
     refine D.lv 11 ?_
     refine D.lv 12 ?_
     refine D.pt 13 ?_
     refine D.mv 14 ?_
     refine D.lv 15 ?_
     refine D.lv 16 ?_
     refine D.lv 17 ?_
     refine D.lv 18 ?_
     refine D.lv 19 ?_
     refine D.lv 20 ?_
     refine D.lv 21 ?_
     refine D.lv 22 ?_
     refine D.lv 23 ?_
     refine D.lv 24 ?_
     refine D.lv 25 ?_
     refine D.pt 26 ?_
     refine D.mv 27 ?_
     refine D.lv 28 ?_
     refine D.lv 29 ?_
     refine D.lv 30 ?_
     refine D.lv 31 ?_
     refine D.lv 32 ?_
     refine D.lv 33 ?_
     refine D.lv 34 ?_
     refine D.pt 35 ?_
     refine D.mv 36 ?_
     refine D.lv 37 ?_
     refine D.lv 38 ?_
     refine D.lv 39 ?_
     refine D.lv 40 ?_
     refine D.lv 41 ?_
     refine D.pt 42 ?_
     refine T.dDone (by kernel_rfl) ?_
     refine sx ?_
     exact jn [3, 4, 5, 6, 0] 7 (J2 true () hk1)
   ·refine D.lv 3 ?_
    refine D.lv 4 ?_
    refine D.lv 5 ?_
    refine D.lv 6 ?_
    refine D.pt 7 ?_
    refine D.mv 8 ?_
    refine D.lv 9 ?_
    refine D.lv 10 ?_
    refine D.lv 11 ?_
    refine D.lv 12 ?_
    refine D.pt 13 ?_
    refine D.mv 14 ?_
    refine D.lv 15 ?_
    refine D.lv 16 ?_
    refine D.lv 17 ?_
    refine D.lv 18 ?_
    refine D.lv 19 ?_
    refine D.lv 20 ?_
    refine D.lv 21 ?_
    refine D.lv 22 ?_
    refine D.lv 23 ?_
    refine D.lv 24 ?_
    refine D.lv 25 ?_
    refine D.pt 26 ?_
    refine D.mv 27 ?_
    refine D.lv 28 ?_
    refine D.lv 29 ?_
    refine D.lv 30 ?_
    refine D.lv 31 ?_
    refine D.lv 32 ?_
    refine D.lv 33 ?_
    refine D.lv 34 ?_
    refine D.pt 35 ?_
    refine D.mv 36 ?_
    refine D.lv 37 ?_
    refine D.lv 38 ?_
    refine D.lv 39 ?_
    refine D.lv 40 ?_
    refine D.lv 41 ?_
    refine D.pt 42 ?_
    refine T.dDone (by kernel_rfl) ?_
    refine sx ?_
    exact jn [3, 4, 5, 6, 0] 7 (J2 true () hk1)
 ·refine T.dStart mixed ?_
  refine T.dAdd 8 (fun w => w.heap[b1]? = some (.cells [.int .i64 a0.1, .int .i64 a0.2.1, .slice A0a a0.2.2.1.length c0a, .int .i64 a0.2.2.2].toArray 36 (0, 0))) (Cl.stays 1 rfl) ?_
  refine T.valS 0 (i := 0) (.agg #[.int .i64 a0.1, .int .i64 a0.2.1, .slice A0a a0.2.2.1.length c0a, .int .i64 a0.2.2.2]) rfl rfl (by kernel_rfl) (by kernel_rfl) (fun d _ _ _ _ h => by cases d <;> exact h) (wants0 rfl) rfl (run_ldClN rfl rfl (vs := [.int .i64 a0.1, .int .i64 a0.2.1, .slice A0a a0.2.2.1.length c0a, .int .i64 a0.2.2.2]) rfl rfl) ?_
  refine T.dAdd 8 (fun w => w.heap[b2]? = some (.cells [.int .i64 a1.1, .int .i64 a1.2.1, .slice A1a a1.2.2.1.length c1a, .int .i64 a1.2.2.2].toArray 36 (0, 0))) (Cl.stays 0 rfl) ?_
  refine T.valS 0 (i := 2) (.agg #[.int .i64 a1.1, .int .i64 a1.2.1, .slice A1a a1.2.2.1.length c1a, .int .i64 a1.2.2.2]) rfl rfl (by kernel_rfl) (by kernel_rfl) (fun d _ _ _ _ h => by cases d <;> exact h) (wants0 rfl) rfl (run_ldClN rfl rfl (vs := [.int .i64 a1.1, .int .i64 a1.2.1, .slice A1a a1.2.2.1.length c1a, .int .i64 a1.2.2.2]) rfl rfl) ?_
  obtain ⟨r17, hg17, hr⟩ := inv_bind hr
  obtain ⟨r18, hg18, hr⟩ := inv_bind hr
  refine T.d3 (i := 1) (j := 4) (k := 5) (by kernel_rfl) ?_ ?_ ?_ 
  ·refine D.c1 rfl (by kernel_rfl) rfl rfl Tryd.func14 rfl (fun w hS => law17_few.c hB hS (i0a := 3) (a0 := a0) rfl hg17) (fun x19 => ?_)
   refine T.dNext (phi_cons (.inr (Cl.stays 1 rfl)) (phi_cons (.inr (Cl.stays 2 rfl)) phi_nil)) ?_
   refine T.d3 (i := 3) (j := 4) (k := 5) (by kernel_rfl) ?_ ?_ ?_ 
   ·refine D.c1 rfl (by kernel_rfl) rfl rfl Tryd.func14 rfl (fun w hS => law17_few.c hB hS (i0a := 3) (a0 := a1) rfl hg18) (fun x20 => ?_)
    refine T.dNext (phi_cons (.inr (Cl.stays 2 rfl)) (phi_cons (.inr (Cl.stays 3 rfl)) phi_nil)) ?_
    refine T.d2 (i := 4) (j := 5) (by kernel_rfl) ?_ ?_ 
    ·refine T.allocS (.dOne rfl (by kernel_rfl)) rfl (wants0 rfl) rfl (cs := [.int .i64 0, .int .i64 0, .slice none 0 0, .int .i64 0]) rfl (fun b4 => ?_)
     refine T.dNext (phi_cons (.inr (Cl.stays 3 rfl)) (phi_cons (.inr (Cl.stays 4 rfl)) phi_nil)) ?_
     refine D.on 5 ?_
     refine T.allocS (.dOne rfl (by kernel_rfl)) rfl (wants0 rfl) rfl (cs := [.int .i64 0, .int .i64 0, .slice none 0 0, .int .i64 0]) rfl (fun b5 => ?_)
     refine T.dNext (phi_cons (.inr (Cl.stays 4 rfl)) (phi_cons (.inr (Cl.stays 5 rfl)) phi_nil)) ?_
     refine D.on 6 ?_
     refine T.store (.dOne rfl (by kernel_rfl)) 1 rfl rfl (wants0 rfl) rfl rfl rfl rfl (Nat.le_of_ble_eq_true rfl) rfl (cs' := [.int .i64 r17.1, .int .i64 r17.2.1, .slice x19.1 r17.2.2.1.length x19.2, .int .i64 r17.2.2.2]) rfl rfl ?_
     refine T.dNext (phi_cons (.inr (Cl.stays 4 rfl)) (phi_cons (.inr (Cl.stays 5 rfl)) phi_nil)) ?_
     refine D.on 7 ?_
     refine T.store (.dOne rfl (by kernel_rfl)) 0 rfl rfl (wants0 rfl) rfl rfl rfl rfl (Nat.le_of_ble_eq_true rfl) rfl (cs' := [.int .i64 r18.1, .int .i64 r18.2.1, .slice x20.1 r18.2.2.1.length x20.2, .int .i64 r18.2.2.2]) rfl rfl ?_
     refine T.dNext (phi_cons (.inr (Cl.stays 4 rfl)) (phi_cons (.inr (Cl.stays 5 rfl)) phi_nil)) ?_
     refine T.dDone (by kernel_rfl) ?_
     refine sx ?_
     exact jn [5, 7, 1, 3, 0, 2] 8 (J1 (r17.1, r17.2.1, r17.2.2.1, r17.2.2.2, r18.1, r18.2.1, r18.2.2.1, r18.2.2.2) (b4, (x19.1, x19.2), b5, (x20.1, x20.2)) hr)
    ·refine T.allocS (.dOne rfl (by kernel_rfl)) rfl (wants0 rfl) rfl (cs := [.int .i64 0, .int .i64 0, .slice none 0 0, .int .i64 0]) rfl (fun b5 => ?_)
     refine T.dNext (phi_cons (.inr (Cl.stays 3 rfl)) (phi_cons (.inr (Cl.stays 4 rfl)) phi_nil)) ?_
     refine D.on 4 ?_
     refine T.allocS (.dOne rfl (by kernel_rfl)) rfl (wants0 rfl) rfl (cs := [.int .i64 0, .int .i64 0, .slice none 0 0, .int .i64 0]) rfl (fun b4 => ?_)
     refine T.dNext (phi_cons (.inr (Cl.stays 4 rfl)) (phi_cons (.inr (Cl.stays 5 rfl)) phi_nil)) ?_
     refine D.on 6 ?_
     refine T.store (.dOne rfl (by kernel_rfl)) 0 rfl rfl (wants0 rfl) rfl rfl rfl rfl (Nat.le_of_ble_eq_true rfl) rfl (cs' := [.int .i64 r17.1, .int .i64 r17.2.1, .slice x19.1 r17.2.2.1.length x19.2, .int .i64 r17.2.2.2]) rfl rfl ?_
     refine T.dNext (phi_cons (.inr (Cl.stays 4 rfl)) (phi_cons (.inr (Cl.stays 5 rfl)) phi_nil)) ?_
     refine D.on 7 ?_
     refine T.store (.dOne rfl (by kernel_rfl)) 1 rfl rfl (wants0 rfl) rfl rfl rfl rfl (Nat.le_of_ble_eq_true rfl) rfl (cs' := [.int .i64 r18.1, .int .i64 r18.2.1, .slice x20.1 r18.2.2.1.length x20.2, .int .i64 r18.2.2.2]) rfl rfl ?_
     refine T.dNext (phi_cons (.inr (Cl.stays 4 rfl)) (phi_cons (.inr (Cl.stays 5 rfl)) phi_nil)) ?_
     refine T.dDone (by kernel_rfl) ?_
     refine sx ?_
     exact jn [5, 7, 0, 3, 1, 2] 8 (J1 (r17.1, r17.2.1, r17.2.2.1, r17.2.2.2, r18.1, r18.2.1, r18.2.2.1, r18.2.2.2) (b4, (x19.1, x19.2), b5, (x20.1, x20.2)) hr)
   ·refine T.allocS (.dOne rfl (by kernel_rfl)) rfl (wants0 rfl) rfl (cs := [.int .i64 0, .int .i64 0, .slice none 0 0, .int .i64 0]) rfl (fun b4 => ?_)
    refine T.dNext (phi_cons (.inr (Cl.stays 2 rfl)) (phi_cons (.inr (Cl.stays 3 rfl)) phi_nil)) ?_
    refine T.d2 (i := 3) (j := 5) (by kernel_rfl) ?_ ?_ 
    ·refine D.c1 rfl (by kernel_rfl) rfl rfl Tryd.func14 rfl (fun w hS => law17_few.c hB hS (i0a := 4) (a0 := a1) rfl hg18) (fun x20 => ?_)
     refine T.dNext (phi_cons (.inr (Cl.stays 3 rfl)) (phi_cons (.inr (Cl.stays 4 rfl)) phi_nil)) ?_
     refine D.on 5 ?_
     refine T.allocS (.dOne rfl (by kernel_rfl)) rfl (wants0 rfl) rfl (cs := [.int .i64 0, .int .i64 0, .slice none 0 0, .int .i64 0]) rfl (fun b5 => ?_)
     refine T.dNext (phi_cons (.inr (Cl.stays 4 rfl)) (phi_cons (.inr (Cl.stays 5 rfl)) phi_nil)) ?_
     refine D.on 6 ?_
     refine T.store (.dOne rfl (by kernel_rfl)) 2 rfl rfl (wants0 rfl) rfl rfl rfl rfl (Nat.le_of_ble_eq_true rfl) rfl (cs' := [.int .i64 r17.1, .int .i64 r17.2.1, .slice x19.1 r17.2.2.1.length x19.2, .int .i64 r17.2.2.2]) rfl rfl ?_
     refine T.dNext (phi_cons (.inr (Cl.stays 4 rfl)) (phi_cons (.inr (Cl.stays 5 rfl)) phi_nil)) ?_
     refine D.on 7 ?_
     refine T.store (.dOne rfl (by kernel_rfl)) 0 rfl rfl (wants0 rfl) rfl rfl rfl rfl (Nat.le_of_ble_eq_true rfl) rfl (cs' := [.int .i64 r18.1, .int .i64 r18.2.1, .slice x20.1 r18.2.2.1.length x20.2, .int .i64 r18.2.2.2]) rfl rfl ?_
     refine T.dNext (phi_cons (.inr (Cl.stays 4 rfl)) (phi_cons (.inr (Cl.stays 5 rfl)) phi_nil)) ?_
     refine T.dDone (by kernel_rfl) ?_
     refine sx ?_
     exact jn [5, 7, 2, 3, 0, 1] 8 (J1 (r17.1, r17.2.1, r17.2.2.1, r17.2.2.2, r18.1, r18.2.1, r18.2.2.1, r18.2.2.2) (b4, (x19.1, x19.2), b5, (x20.1, x20.2)) hr)
    ·refine T.allocS (.dOne rfl (by kernel_rfl)) rfl (wants0 rfl) rfl (cs := [.int .i64 0, .int .i64 0, .slice none 0 0, .int .i64 0]) rfl (fun b5 => ?_)
     refine T.dNext (phi_cons (.inr (Cl.stays 3 rfl)) (phi_cons (.inr (Cl.stays 4 rfl)) phi_nil)) ?_
     refine D.on 3 ?_
     refine D.c1 rfl (by kernel_rfl) rfl rfl Tryd.func14 rfl (fun w hS => law17_few.c hB hS (i0a := 5) (a0 := a1) rfl hg18) (fun x20 => ?_)
     refine T.dNext (phi_cons (.inr (Cl.stays 4 rfl)) (phi_cons (.inr (Cl.stays 5 rfl)) phi_nil)) ?_
     refine D.on 6 ?_
     refine T.store (.dOne rfl (by kernel_rfl)) 2 rfl rfl (wants0 rfl) rfl rfl rfl rfl (Nat.le_of_ble_eq_true rfl) rfl (cs' := [.int .i64 r17.1, .int .i64 r17.2.1, .slice x19.1 r17.2.2.1.length x19.2, .int .i64 r17.2.2.2]) rfl rfl ?_
     refine T.dNext (phi_cons (.inr (Cl.stays 4 rfl)) (phi_cons (.inr (Cl.stays 5 rfl)) phi_nil)) ?_
     refine D.on 7 ?_
     refine T.store (.dOne rfl (by kernel_rfl)) 1 rfl rfl (wants0 rfl) rfl rfl rfl rfl (Nat.le_of_ble_eq_true rfl) rfl (cs' := [.int .i64 r18.1, .int .i64 r18.2.1, .slice x20.1 r18.2.2.1.length x20.2, .int .i64 r18.2.2.2]) rfl rfl ?_
     refine T.dNext (phi_cons (.inr (Cl.stays 4 rfl)) (phi_cons (.inr (Cl.stays 5 rfl)) phi_nil)) ?_
     refine T.dDone (by kernel_rfl) ?_
     refine sx ?_
     exact jn [5, 7, 2, 3, 1, 0] 8 (J1 (r17.1, r17.2.1, r17.2.2.1, r17.2.2.2, r18.1, r18.2.1, r18.2.2.1, r18.2.2.2) (b4, (x19.1, x19.2), b5, (x20.1, x20.2)) hr)
   ·refine T.allocS (.dOne rfl (by kernel_rfl)) rfl (wants0 rfl) rfl (cs := [.int .i64 0, .int .i64 0, .slice none 0 0, .int .i64 0]) rfl (fun b5 => ?_)
    refine T.dNext (phi_cons (.inr (Cl.stays 2 rfl)) (phi_cons (.inr (Cl.stays 3 rfl)) phi_nil)) ?_
    refine T.d2 (i := 3) (j := 4) (by kernel_rfl) ?_ ?_ 
    ·refine D.c1 rfl (by kernel_rfl) rfl rfl Tryd.func14 rfl (fun w hS => law17_few.c hB hS (i0a := 4) (a0 := a1) rfl hg18) (fun x20 => ?_)
     refine T.dNext (phi_cons (.inr (Cl.stays 3 rfl)) (phi_cons (.inr (Cl.stays 4 rfl)) phi_nil)) ?_
     refine D.on 4 ?_
     refine T.allocS (.dOne rfl (by kernel_rfl)) rfl (wants0 rfl) rfl (cs := [.int .i64 0, .int .i64 0, .slice none 0 0, .int .i64 0]) rfl (fun b4 => ?_)
     refine T.dNext (phi_cons (.inr (Cl.stays 4 rfl)) (phi_cons (.inr (Cl.stays 5 rfl)) phi_nil)) ?_
     refine D.on 6 ?_
     refine T.store (.dOne rfl (by kernel_rfl)) 0 rfl rfl (wants0 rfl) rfl rfl rfl rfl (Nat.le_of_ble_eq_true rfl) rfl (cs' := [.int .i64 r17.1, .int .i64 r17.2.1, .slice x19.1 r17.2.2.1.length x19.2, .int .i64 r17.2.2.2]) rfl rfl ?_
     refine T.dNext (phi_cons (.inr (Cl.stays 4 rfl)) (phi_cons (.inr (Cl.stays 5 rfl)) phi_nil)) ?_
     refine D.on 7 ?_
     refine T.store (.dOne rfl (by kernel_rfl)) 2 rfl rfl (wants0 rfl) rfl rfl rfl rfl (Nat.le_of_ble_eq_true rfl) rfl (cs' := [.int .i64 r18.1, .int .i64 r18.2.1, .slice x20.1 r18.2.2.1.length x20.2, .int .i64 r18.2.2.2]) rfl rfl ?_
     refine T.dNext (phi_cons (.inr (Cl.stays 4 rfl)) (phi_cons (.inr (Cl.stays 5 rfl)) phi_nil)) ?_
     refine T.dDone (by kernel_rfl) ?_
     refine sx ?_
     exact jn [5, 7, 0, 3, 2, 1] 8 (J1 (r17.1, r17.2.1, r17.2.2.1, r17.2.2.2, r18.1, r18.2.1, r18.2.2.1, r18.2.2.2) (b4, (x19.1, x19.2), b5, (x20.1, x20.2)) hr)
    ·refine T.allocS (.dOne rfl (by kernel_rfl)) rfl (wants0 rfl) rfl (cs := [.int .i64 0, .int .i64 0, .slice none 0 0, .int .i64 0]) rfl (fun b4 => ?_)
     refine T.dNext (phi_cons (.inr (Cl.stays 3 rfl)) (phi_cons (.inr (Cl.stays 4 rfl)) phi_nil)) ?_
     refine D.on 3 ?_
     refine D.c1 rfl (by kernel_rfl) rfl rfl Tryd.func14 rfl (fun w hS => law17_few.c hB hS (i0a := 5) (a0 := a1) rfl hg18) (fun x20 => ?_)
     refine T.dNext (phi_cons (.inr (Cl.stays 4 rfl)) (phi_cons (.inr (Cl.stays 5 rfl)) phi_nil)) ?_
     refine D.on 6 ?_
     refine T.store (.dOne rfl (by kernel_rfl)) 1 rfl rfl (wants0 rfl) rfl rfl rfl rfl (Nat.le_of_ble_eq_true rfl) rfl (cs' := [.int .i64 r17.1, .int .i64 r17.2.1, .slice x19.1 r17.2.2.1.length x19.2, .int .i64 r17.2.2.2]) rfl rfl ?_
     refine T.dNext (phi_cons (.inr (Cl.stays 4 rfl)) (phi_cons (.inr (Cl.stays 5 rfl)) phi_nil)) ?_
     refine D.on 7 ?_
     refine T.store (.dOne rfl (by kernel_rfl)) 2 rfl rfl (wants0 rfl) rfl rfl rfl rfl (Nat.le_of_ble_eq_true rfl) rfl (cs' := [.int .i64 r18.1, .int .i64 r18.2.1, .slice x20.1 r18.2.2.1.length x20.2, .int .i64 r18.2.2.2]) rfl rfl ?_
     refine T.dNext (phi_cons (.inr (Cl.stays 4 rfl)) (phi_cons (.inr (Cl.stays 5 rfl)) phi_nil)) ?_
     refine T.dDone (by kernel_rfl) ?_
     refine sx ?_
     exact jn [5, 7, 1, 3, 2, 0] 8 (J1 (r17.1, r17.2.1, r17.2.2.1, r17.2.2.2, r18.1, r18.2.1, r18.2.2.1, r18.2.2.2) (b4, (x19.1, x19.2), b5, (x20.1, x20.2)) hr)
  ·refine T.allocS (.dOne rfl (by kernel_rfl)) rfl (wants0 rfl) rfl (cs := [.int .i64 0, .int .i64 0, .slice none 0 0, .int .i64 0]) rfl (fun b4 => ?_)
   refine T.dNext (phi_cons (.inr (Cl.stays 1 rfl)) (phi_cons (.inr (Cl.stays 2 rfl)) phi_nil)) ?_
   refine T.d2 (i := 1) (j := 5) (by kernel_rfl) ?_ ?_ 
   ·refine D.c1 rfl (by kernel_rfl) rfl rfl Tryd.func14 rfl (fun w hS => law17_few.c hB hS (i0a := 4) (a0 := a0) rfl hg17) (fun x19 => ?_)
    refine T.dNext (phi_cons (.inr (Cl.stays 2 rfl)) (phi_cons (.inr (Cl.stays 3 rfl)) phi_nil)) ?_
    refine T.d2 (i := 3) (j := 5) (by kernel_rfl) ?_ ?_ 
    ·refine D.c1 rfl (by kernel_rfl) rfl rfl Tryd.func14 rfl (fun w hS => law17_few.c hB hS (i0a := 4) (a0 := a1) rfl hg18) (fun x20 => ?_)
     refine T.dNext (phi_cons (.inr (Cl.stays 3 rfl)) (phi_cons (.inr (Cl.stays 4 rfl)) phi_nil)) ?_
     refine D.on 5 ?_
     refine T.allocS (.dOne rfl (by kernel_rfl)) rfl (wants0 rfl) rfl (cs := [.int .i64 0, .int .i64 0, .slice none 0 0, .int .i64 0]) rfl (fun b5 => ?_)
     refine T.dNext (phi_cons (.inr (Cl.stays 4 rfl)) (phi_cons (.inr (Cl.stays 5 rfl)) phi_nil)) ?_
     refine D.on 6 ?_
     refine T.store (.dOne rfl (by kernel_rfl)) 3 rfl rfl (wants0 rfl) rfl rfl rfl rfl (Nat.le_of_ble_eq_true rfl) rfl (cs' := [.int .i64 r17.1, .int .i64 r17.2.1, .slice x19.1 r17.2.2.1.length x19.2, .int .i64 r17.2.2.2]) rfl rfl ?_
     refine T.dNext (phi_cons (.inr (Cl.stays 4 rfl)) (phi_cons (.inr (Cl.stays 5 rfl)) phi_nil)) ?_
     refine D.on 7 ?_
     refine T.store (.dOne rfl (by kernel_rfl)) 0 rfl rfl (wants0 rfl) rfl rfl rfl rfl (Nat.le_of_ble_eq_true rfl) rfl (cs' := [.int .i64 r18.1, .int .i64 r18.2.1, .slice x20.1 r18.2.2.1.length x20.2, .int .i64 r18.2.2.2]) rfl rfl ?_
     refine T.dNext (phi_cons (.inr (Cl.stays 4 rfl)) (phi_cons (.inr (Cl.stays 5 rfl)) phi_nil)) ?_
     refine T.dDone (by kernel_rfl) ?_
     refine sx ?_
     exact jn [5, 7, 3, 2, 0, 1] 8 (J1 (r17.1, r17.2.1, r17.2.2.1, r17.2.2.2, r18.1, r18.2.1, r18.2.2.1, r18.2.2.2) (b4, (x19.1, x19.2), b5, (x20.1, x20.2)) hr)
    ·refine T.allocS (.dOne rfl (by kernel_rfl)) rfl (wants0 rfl) rfl (cs := [.int .i64 0, .int .i64 0, .slice none 0 0, .int .i64 0]) rfl (fun b5 => ?_)
     refine T.dNext (phi_cons (.inr (Cl.stays 3 rfl)) (phi_cons (.inr (Cl.stays 4 rfl)) phi_nil)) ?_
     refine D.on 3 ?_
     refine D.c1 rfl (by kernel_rfl) rfl rfl Tryd.func14 rfl (fun w hS => law17_few.c hB hS (i0a := 5) (a0 := a1) rfl hg18) (fun x20 => ?_)
     refine T.dNext (phi_cons (.inr (Cl.stays 4 rfl)) (phi_cons (.inr (Cl.stays 5 rfl)) phi_nil)) ?_
     refine D.on 6 ?_
     refine T.store (.dOne rfl (by kernel_rfl)) 3 rfl rfl (wants0 rfl) rfl rfl rfl rfl (Nat.le_of_ble_eq_true rfl) rfl (cs' := [.int .i64 r17.1, .int .i64 r17.2.1, .slice x19.1 r17.2.2.1.length x19.2, .int .i64 r17.2.2.2]) rfl rfl ?_
     refine T.dNext (phi_cons (.inr (Cl.stays 4 rfl)) (phi_cons (.inr (Cl.stays 5 rfl)) phi_nil)) ?_
     refine D.on 7 ?_
     refine T.store (.dOne rfl (by kernel_rfl)) 1 rfl rfl (wants0 rfl) rfl rfl rfl rfl (Nat.le_of_ble_eq_true rfl) rfl (cs' := [.int .i64 r18.1, .int .i64 r18.2.1, .slice x20.1 r18.2.2.1.length x20.2, .int .i64 r18.2.2.2]) rfl rfl ?_
     refine T.dNext (phi_cons (.inr (Cl.stays 4 rfl)) (phi_cons (.inr (Cl.stays 5 rfl)) phi_nil)) ?_
     refine T.dDone (by kernel_rfl) ?_
     refine sx ?_
     exact jn [5, 7, 3, 2, 1, 0] 8 (J1 (r17.1, r17.2.1, r17.2.2.1, r17.2.2.2, r18.1, r18.2.1, r18.2.2.1, r18.2.2.2) (b4, (x19.1, x19.2), b5, (x20.1, x20.2)) hr)
   ·refine T.allocS (.dOne rfl (by kernel_rfl)) rfl (wants0 rfl) rfl (cs := [.int .i64 0, .int .i64 0, .slice none 0 0, .int .i64 0]) rfl (fun b5 => ?_)
    refine T.dNext (phi_cons (.inr (Cl.stays 2 rfl)) (phi_cons (.inr (Cl.stays 3 rfl)) phi_nil)) ?_
    refine D.on 1 ?_
    refine D.c1 rfl (by kernel_rfl) rfl rfl Tryd.func14 rfl (fun w hS => law17_few.c hB hS (i0a := 5) (a0 := a0) rfl hg17) (fun x19 => ?_)
    refine T.dNext (phi_cons (.inr (Cl.stays 3 rfl)) (phi_cons (.inr (Cl.stays 4 rfl)) phi_nil)) ?_
    refine D.on 3 ?_
    refine D.c1 rfl (by kernel_rfl) rfl rfl Tryd.func14 rfl (fun w hS => law17_few.c hB hS (i0a := 5) (a0 := a1) rfl hg18) (fun x20 => ?_)
    refine T.dNext (phi_cons (.inr (Cl.stays 4 rfl)) (phi_cons (.inr (Cl.stays 5 rfl)) phi_nil)) ?_
    refine D.on 6 ?_
    refine T.store (.dOne rfl (by kernel_rfl)) 3 rfl rfl (wants0 rfl) rfl rfl rfl rfl (Nat.le_of_ble_eq_true rfl) rfl (cs' := [.int .i64 r17.1, .int .i64 r17.2.1, .slice x19.1 r17.2.2.1.length x19.2, .int .i64 r17.2.2.2]) rfl rfl ?_
    refine T.dNext (phi_cons (.inr (Cl.stays 4 rfl)) (phi_cons (.inr (Cl.stays 5 rfl)) phi_nil)) ?_
    refine D.on 7 ?_
    refine T.store (.dOne rfl (by kernel_rfl)) 2 rfl rfl (wants0 rfl) rfl rfl rfl rfl (Nat.le_of_ble_eq_true rfl) rfl (cs' := [.int .i64 r18.1, .int .i64 r18.2.1, .slice x20.1 r18.2.2.1.length x20.2, .int .i64 r18.2.2.2]) rfl rfl ?_
    refine T.dNext (phi_cons (.inr (Cl.stays 4 rfl)) (phi_cons (.inr (Cl.stays 5 rfl)) phi_nil)) ?_
    refine T.dDone (by kernel_rfl) ?_
    refine sx ?_
    exact jn [5, 7, 3, 1, 2, 0] 8 (J1 (r17.1, r17.2.1, r17.2.2.1, r17.2.2.2, r18.1, r18.2.1, r18.2.2.1, r18.2.2.2) (b4, (x19.1, x19.2), b5, (x20.1, x20.2)) hr)
  ·refine T.allocS (.dOne rfl (by kernel_rfl)) rfl (wants0 rfl) rfl (cs := [.int .i64 0, .int .i64 0, .slice none 0 0, .int .i64 0]) rfl (fun b5 => ?_)
   refine T.dNext (phi_cons (.inr (Cl.stays 1 rfl)) (phi_cons (.inr (Cl.stays 2 rfl)) phi_nil)) ?_
   refine T.d2 (i := 1) (j := 4) (by kernel_rfl) ?_ ?_ 
   ·refine D.c1 rfl (by kernel_rfl) rfl rfl Tryd.func14 rfl (fun w hS => law17_few.c hB hS (i0a := 4) (a0 := a0) rfl hg17) (fun x19 => ?_)
    refine T.dNext (phi_cons (.inr (Cl.stays 2 rfl)) (phi_cons (.inr (Cl.stays 3 rfl)) phi_nil)) ?_
    refine T.d2 (i := 3) (j := 4) (by kernel_rfl) ?_ ?_ 
    ·refine D.c1 rfl (by kernel_rfl) rfl rfl Tryd.func14 rfl (fun w hS => law17_few.c hB hS (i0a := 4) (a0 := a1) rfl hg18) (fun x20 => ?_)
     refine T.dNext (phi_cons (.inr (Cl.stays 3 rfl)) (phi_cons (.inr (Cl.stays 4 rfl)) phi_nil)) ?_
     refine D.on 4 ?_
     refine T.allocS (.dOne rfl (by kernel_rfl)) rfl (wants0 rfl) rfl (cs := [.int .i64 0, .int .i64 0, .slice none 0 0, .int .i64 0]) rfl (fun b4 => ?_)
     refine T.dNext (phi_cons (.inr (Cl.stays 4 rfl)) (phi_cons (.inr (Cl.stays 5 rfl)) phi_nil)) ?_
     refine D.on 6 ?_
     refine T.store (.dOne rfl (by kernel_rfl)) 0 rfl rfl (wants0 rfl) rfl rfl rfl rfl (Nat.le_of_ble_eq_true rfl) rfl (cs' := [.int .i64 r17.1, .int .i64 r17.2.1, .slice x19.1 r17.2.2.1.length x19.2, .int .i64 r17.2.2.2]) rfl rfl ?_
     refine T.dNext (phi_cons (.inr (Cl.stays 4 rfl)) (phi_cons (.inr (Cl.stays 5 rfl)) phi_nil)) ?_
     refine D.on 7 ?_
     refine T.store (.dOne rfl (by kernel_rfl)) 3 rfl rfl (wants0 rfl) rfl rfl rfl rfl (Nat.le_of_ble_eq_true rfl) rfl (cs' := [.int .i64 r18.1, .int .i64 r18.2.1, .slice x20.1 r18.2.2.1.length x20.2, .int .i64 r18.2.2.2]) rfl rfl ?_
     refine T.dNext (phi_cons (.inr (Cl.stays 4 rfl)) (phi_cons (.inr (Cl.stays 5 rfl)) phi_nil)) ?_
     refine T.dDone (by kernel_rfl) ?_
     refine sx ?_
     exact jn [5, 7, 0, 2, 3, 1] 8 (J1 (r17.1, r17.2.1, r17.2.2.1, r17.2.2.2, r18.1, r18.2.1, r18.2.2.1, r18.2.2.2) (b4, (x19.1, x19.2), b5, (x20.1, x20.2)) hr)
    ·refine T.allocS (.dOne rfl (by kernel_rfl)) rfl (wants0 rfl) rfl (cs := [.int .i64 0, .int .i64 0, .slice none 0 0, .int .i64 0]) rfl (fun b4 => ?_)
     refine T.dNext (phi_cons (.inr (Cl.stays 3 rfl)) (phi_cons (.inr (Cl.stays 4 rfl)) phi_nil)) ?_
     refine D.on 3 ?_
     refine D.c1 rfl (by kernel_rfl) rfl rfl Tryd.func14 rfl (fun w hS => law17_few.c hB hS (i0a := 5) (a0 := a1) rfl hg18) (fun x20 => ?_)
     refine T.dNext (phi_cons (.inr (Cl.stays 4 rfl)) (phi_cons (.inr (Cl.stays 5 rfl)) phi_nil)) ?_
     refine D.on 6 ?_
     refine T.store (.dOne rfl (by kernel_rfl)) 1 rfl rfl (wants0 rfl) rfl rfl rfl rfl (Nat.le_of_ble_eq_true rfl) rfl (cs' := [.int .i64 r17.1, .int .i64 r17.2.1, .slice x19.1 r17.2.2.1.length x19.2, .int .i64 r17.2.2.2]) rfl rfl ?_
     refine T.dNext (phi_cons (.inr (Cl.stays 4 rfl)) (phi_cons (.inr (Cl.stays 5 rfl)) phi_nil)) ?_
     refine D.on 7 ?_
     refine T.store (.dOne rfl (by kernel_rfl)) 3 rfl rfl (wants0 rfl) rfl rfl rfl rfl (Nat.le_of_ble_eq_true rfl) rfl (cs' := [.int .i64 r18.1, .int .i64 r18.2.1, .slice x20.1 r18.2.2.1.length x20.2, .int .i64 r18.2.2.2]) rfl rfl ?_
     refine T.dNext (phi_cons (.inr (Cl.stays 4 rfl)) (phi_cons (.inr (Cl.stays 5 rfl)) phi_nil)) ?_
     refine T.dDone (by kernel_rfl) ?_
     refine sx ?_
     exact jn [5, 7, 1, 2, 3, 0] 8 (J1 (r17.1, r17.2.1, r17.2.2.1, r17.2.2.2, r18.1, r18.2.1, r18.2.2.1, r18.2.2.2) (b4, (x19.1, x19.2), b5, (x20.1, x20.2)) hr)
   ·refine T.allocS (.dOne rfl (by kernel_rfl)) rfl (wants0 rfl) rfl (cs := [.int .i64 0, .int .i64 0, .slice none 0 0, .int .i64 0]) rfl (fun b4 => ?_)
    refine T.dNext (phi_cons (.inr (Cl.stays 2 rfl)) (phi_cons (.inr (Cl.stays 3 rfl)) phi_nil)) ?_
    refine D.on 1 ?_
    refine D.c1 rfl (by kernel_rfl) rfl rfl Tryd.func14 rfl (fun w hS => law17_few.c hB hS (i0a := 5) (a0 := a0) rfl hg17) (fun x19 => ?_)
    refine T.dNext (phi_cons (.inr (Cl.stays 3 rfl)) (phi_cons (.inr (Cl.stays 4 rfl)) phi_nil)) ?_
    refine D.on 3 ?_
    refine D.c1 rfl (by kernel_rfl) rfl rfl Tryd.func14 rfl (fun w hS => law17_few.c hB hS (i0a := 5) (a0 := a1) rfl hg18) (fun x20 => ?_)
    refine T.dNext (phi_cons (.inr (Cl.stays 4 rfl)) (phi_cons (.inr (Cl.stays 5 rfl)) phi_nil)) ?_
    refine D.on 6 ?_
    refine T.store (.dOne rfl (by kernel_rfl)) 2 rfl rfl (wants0 rfl) rfl rfl rfl rfl (Nat.le_of_ble_eq_true rfl) rfl (cs' := [.int .i64 r17.1, .int .i64 r17.2.1, .slice x19.1 r17.2.2.1.length x19.2, .int .i64 r17.2.2.2]) rfl rfl ?_
    refine T.dNext (phi_cons (.inr (Cl.stays 4 rfl)) (phi_cons (.inr (Cl.stays 5 rfl)) phi_nil)) ?_
    refine D.on 7 ?_
    refine T.store (.dOne rfl (by kernel_rfl)) 3 rfl rfl (wants0 rfl) rfl rfl rfl rfl (Nat.le_of_ble_eq_true rfl) rfl (cs' := [.int .i64 r18.1, .int .i64 r18.2.1, .slice x20.1 r18.2.2.1.length x20.2, .int .i64 r18.2.2.2]) rfl rfl ?_
    refine T.dNext (phi_cons (.inr (Cl.stays 4 rfl)) (phi_cons (.inr (Cl.stays 5 rfl)) phi_nil)) ?_
    refine T.dDone (by kernel_rfl) ?_
    refine sx ?_
    exact jn [5, 7, 2, 1, 3, 0] 8 (J1 (r17.1, r17.2.1, r17.2.2.1, r17.2.2.2, r18.1, r18.2.1, r18.2.2.1, r18.2.2.2) (b4, (x19.1, x19.2), b5, (x20.1, x20.2)) hr)
end Go.Proofs.YtpogdeibkghhaaaDoor
