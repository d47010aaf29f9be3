/- DiskK: what the functions compute, and that the program computes it; printed by a program of ours. -/
import Derived.Test.YtfdogeebkbaadaaDiskT
import Derived.Test.YtfdogeebkbaadaaOwn
set_option linter.unusedVariables false
set_option linter.unusedSimpArgs false
namespace Go.Proofs.Ytfdogeebkbaadaa
open Go.RowKit
noncomputable def law3_at.impl (l0 : List UInt8) (a1 : Int) : Option Int :=
  (if ((decide (a1 < ((l0.length : Int))))) = true then chk (0 ≤ a1 ∧ a1 < (l0.length : Int)) (some (((l0).getD (a1 : Int).toNat default).toNat : Int)) else some 0)
set_option maxRecDepth 100000 in
set_option maxHeartbeats 4000000 in
theorem law3_at.c {B : World} {hs : List MP} {w : World} {l0 : List UInt8} {a1 : Int} (hS : St B (hs) w) {r : Int} (hr : law3_at.impl l0 a1 = some r) :
    Calls Try.prog 18 #[str l0, .int .i64 a1] w fun e w' => ∃ x : Unit, e = .returned (.int .u8 r) ∧ St B (hs) w' := by
 unfold law3_at.impl at hr
 refine calls_T Try.func18 rfl rfl rfl hS ?_
 refine T.seq ?_
 refine T.region ?_
 refine T.assign .list rfl (wants0 rfl) rfl rfl ?_
 refine T.nil ?_
 refine T.then_normal ?_
 refine T.seq ?_
 refine T.seq ?_
 refine T.region ?_
 refine T.move .list rfl (wants0 rfl) rfl rfl ?_
 refine T.move .list rfl (wants0 rfl) rfl rfl ?_
 refine T.lenStr .list rfl (wants0 rfl) rfl (l := l0) rfl ?_
 refine T.bin .list rfl (wants0 rfl) rfl rfl rfl rfl ?_
 refine T.nil ?_
 refine T.then_normal ?_
 refine T.cond rfl (fun hb1 => ?_) (fun hb1 => ?_)
 ·replace hr := inv_posB hb1 hr
  refine T.seq ?_
  refine T.region ?_
  refine T.move .list rfl (wants0 rfl) rfl rfl ?_
  refine T.move .list rfl (wants0 rfl) rfl rfl ?_
  obtain ⟨hc1, hr⟩ := inv_chk hr
  refine T.byteAt .list rfl (wants0 rfl) rfl (l := l0) rfl rfl hc1.1 hc1.2 ?_
  refine T.assign .list rfl (wants0 rfl) rfl rfl ?_
  refine T.nil ?_
  refine T.then_normal ?_
  refine T.ret ?_
  refine T.then_ret ?_
  obtain rfl := inv_some hr
  refine T.pick [] 0 rfl rfl (Nat.le_add_left _ _) rfl ?_
  refine T.ret1 rfl rfl (fun w hS => ⟨(), rfl, hS⟩)
 ·replace hr := inv_negB hb1 hr
  refine T.skip ?_
  refine T.then_normal ?_
  refine T.seq ?_
  refine T.region ?_
  refine T.assign .list rfl (wants0 rfl) rfl rfl ?_
  refine T.nil ?_
  refine T.then_normal ?_
  refine T.ret ?_
  obtain rfl := inv_some hr
  refine T.pick [] 0 rfl rfl (Nat.le_add_left _ _) rfl ?_
  refine T.ret1 rfl rfl (fun w hS => ⟨(), rfl, hS⟩)

noncomputable def law3_could.k1 (s1 : Unit) : Option Bool :=
  some true
noncomputable def law3_could.k2 (s2 : Int) (s3 : Unit) : Option (Int ⊕ (Bool ⊕ Unit)) :=
  some (.inl (IntKind.i64.wrap (s2 + 1)))
noncomputable def law3_could.k3 (s2 : Int) (s4 : Bool) : Option (Int ⊕ (Bool ⊕ Unit)) :=
  (if ((!s4)) = true then some (.inr (.inl false)) else law3_could.k2 s2 ())
noncomputable def law3_could.k4 (s2 : Int) (l0 : List UInt8) (s5 : Bool × Int) (l2 : List (List UInt8)) (s6 : Bool) : Option ((Bool × Int) ⊕ Bool) :=
  (if s6 = true then chk (0 ≤ s2 ∧ s2 < (l0.length : Int)) (chk (0 ≤ s5.2 ∧ s5.2 < (l2.length : Int)) ((law3_at.impl (((l2).getD (s5.2 : Int).toNat default)) s2).bind fun r2 => some (.inl ((decide ((((((l0).getD (s2 : Int).toNat default).toNat : Int))) = r2)), IntKind.i64.wrap (s5.2 + 1))))) else some (.inr s5.1))
noncomputable def law3_could.st2 (l2 : List (List UInt8)) (s2 : Int) (l0 : List UInt8) (s5 : Bool × Int) : Option ((Bool × Int) ⊕ Bool) :=
  (if ((decide (s5.2 < ((l2.length : Int))))) = true then law3_could.k4 s2 l0 s5 l2 (!s5.1) else law3_could.k4 s2 l0 s5 l2 false)
noncomputable def law3_could.st1 (l0 : List UInt8) (l1 : List UInt8) (l2 : List (List UInt8)) (s2 : Int) : Option (Int ⊕ (Bool ⊕ Unit)) :=
  (if ((decide (s2 < ((l0.length : Int))))) = true then chk (0 ≤ s2 ∧ s2 < (l0.length : Int)) ((law3_at.impl l1 s2).bind fun r1 => (loop (law3_could.st2 l2 s2 l0) ((decide ((((((l0).getD (s2 : Int).toNat default).toNat : Int))) = r1)), 0)).bind (fun e2 => law3_could.k3 s2 e2)) else some (.inr (.inr ())))
noncomputable def law3_could.impl (l0 : List UInt8) (l1 : List UInt8) (l2 : List (List UInt8)) : Option Bool :=
  (loop (law3_could.st1 l0 l1 l2) 0).bind (fun e1 => match e1 with | .inl v => some v | .inr v => law3_could.k1 v)
set_option maxRecDepth 100000 in
set_option maxHeartbeats 4000000 in
theorem law3_could.c {B : World} {hs : List MP} {w : World} {i0 c0 : Nat} {A0 : Option Addr} {l0 : List UInt8} {l1 : List UInt8} {i2 c2 : Nat} {A2 : Option Addr} {l2 : List (List UInt8)} (hS : St B (hs) w) (h0 : (hs)[i0]? = some (Ro E8 A0 c0 l0)) (h2 : (hs)[i2]? = some (Ro EStr A2 c2 l2)) {r : Bool} (hr : law3_could.impl l0 l1 l2 = some r) :
    Calls Try.prog 15 #[.slice A0 l0.length c0, str l1, .slice A2 l2.length c2] w fun e w' => ∃ x : Unit, e = .returned (.bool r) ∧ St B (hs) w' := by
 unfold law3_could.impl at hr
 refine calls_T Try.func15 rfl rfl rfl hS ?_
 refine T.front i0 h0 ?_
 refine T.front (i2 + 1) h2 ?_
 refine T.seq ?_
 refine T.region ?_
 refine T.assign .list rfl (wants0 rfl) rfl rfl ?_
 refine T.nil ?_
 refine T.then_normal ?_
 refine T.seqJ (fun (s1 : Unit) (x1 : Unit) => []) (fun s1 x1 => hs) (fun s1 => law3_could.k1 s1 = some r) (fun s1 x1 hk1 => ?_) (fun J1 => ?_)
 ·unfold law3_could.k1 at hk1
  refine T.seq ?_
  refine T.region ?_
  refine T.assign .list rfl (wants0 rfl) rfl rfl ?_
  refine T.nil ?_
  refine T.then_normal ?_
  refine T.ret ?_
  obtain rfl := inv_some hk1
  refine T.pick [] 0 rfl rfl (Nat.le_add_left _ _) rfl ?_
  refine T.ret1 rfl rfl (fun w hS => ⟨(), rfl, hS⟩)
 ·refine T.seq ?_
  refine T.region ?_
  refine T.assign .list rfl (wants0 rfl) rfl rfl ?_
  refine T.nil ?_
  refine T.then_normal ?_
  refine T.block ?_
  obtain ⟨e1, hl1, hr⟩ := inv_bind hr
  refine T.le (EnvLe.cons rfl (EnvLe.cons rfl (EnvLe.cons rfl (EnvLe.cons rfl EnvLe.nil)))) (T.pick [1, 0] 2 rfl rfl (Nat.le_add_left _ _) rfl (T.loop (s0 := 0) (env := fun s2 x2 => [(0, .slice A0 l0.length c0), (1, str l1), (2, .slice A2 l2.length c2), (7, .int .i64 s2)]) (hs := fun (s2 : Int) (x2 : Unit) => Ro E8 A0 c0 l0 :: Ro EStr A2 c2 l2 :: hs) hl1 () (fun K1 s2 x2 o1 he1 hm1 hx1 => ?_)))
  unfold law3_could.st1 at he1
  refine T.seq ?_
  refine T.seq ?_
  refine T.region ?_
  refine T.move .list rfl (wants0 rfl) rfl rfl ?_
  refine T.move .list rfl (wants0 rfl) rfl rfl ?_
  refine T.lenSlice .list rfl (wants0 rfl) rfl rfl ?_
  refine T.bin .list rfl (wants0 rfl) rfl rfl rfl rfl ?_
  refine T.nil ?_
  refine T.then_normal ?_
  refine T.cond rfl (fun hb1 => ?_) (fun hb1 => ?_)
  ·replace he1 := inv_posB hb1 he1
   refine T.skip ?_
   refine T.then_normal ?_
   refine T.seqJ (fun (s3 : Unit) (x3 : Unit) => [(0, .slice A0 l0.length c0), (1, str l1), (2, .slice A2 l2.length c2), (7, .int .i64 s2)]) (fun s3 x3 => Ro E8 A0 c0 l0 :: Ro EStr A2 c2 l2 :: hs) (fun s3 => law3_could.k2 s2 s3 = some o1) (fun s3 x3 hk2 => ?_) (fun J2 => ?_)
   ·unfold law3_could.k2 at hk2
    refine T.region ?_
    refine T.move .list rfl (wants0 rfl) rfl rfl ?_
    refine T.bin .list rfl (wants0 rfl) rfl rfl rfl rfl ?_
    refine T.assign .list rfl (wants0 rfl) rfl rfl ?_
    refine T.nil ?_
    refine T.then_normal ?_
    obtain rfl := inv_some hk2
    exact T.le (EnvLe.cons rfl (EnvLe.cons rfl (EnvLe.cons rfl (EnvLe.cons rfl EnvLe.nil)))) (T.pick [0, 1] 2 rfl rfl (Nat.le_add_left _ _) rfl (hm1 (IntKind.i64.wrap (s2 + 1)) rfl ()))
   ·refine T.block ?_
    refine T.seq ?_
    refine T.dStart mixed ?_
    refine T.move (.dPure (i := 0) rfl (by kernel_rfl) (fun d _ _ _ _ h => by cases d <;> exact h)) rfl (wants0 rfl) rfl rfl ?_
    refine T.move (.dPure (i := 1) rfl (by kernel_rfl) (fun d _ _ _ _ h => by cases d <;> exact h)) rfl (wants0 rfl) rfl rfl ?_
    obtain ⟨hc1, he1⟩ := inv_chk he1
    refine T.idxRo (.dPure (i := 2) rfl (by kernel_rfl) (fun d _ _ _ _ h => by cases d <;> exact h)) 0 rfl rfl (wants0 rfl) rfl rfl rfl hc1.1 hc1.2 (Nat.le_refl _) ?_
    refine T.move (.dPure (i := 4) rfl (by kernel_rfl) (fun d _ _ _ _ h => by cases d <;> exact h)) rfl (wants0 rfl) rfl rfl ?_
    refine T.move (.dPure (i := 5) rfl (by kernel_rfl) (fun d _ _ _ _ h => by cases d <;> exact h)) rfl (wants0 rfl) rfl rfl ?_
    refine T.keep (fun z1 hk3 => ?_)
    refine T.dAdd 9 (fun w => PH.le z1 (PH.of w)) (Kp.le 0 rfl) ?_
    refine T.valS 0 (i := 3) (.int .u8 ((((l0).getD (s2 : Int).toNat default).toNat : Int))) rfl rfl (by kernel_rfl) (by kernel_rfl) (fun d _ _ _ _ h => by cases d <;> exact h) (wants0 rfl) rfl (run_ldRo1 (hk3 0 rfl).1 rfl rfl hc1.1 hc1.2) ?_
    obtain ⟨r1, hg1, he1⟩ := inv_bind he1
    refine T.dOnly (i := 6) (by kernel_rfl) ?_
    refine T.call (.dOne rfl (by kernel_rfl)) (wants0 rfl) rfl (run_callF (vs := [_, _]) rfl Try.func18 rfl (by decide) rfl) (fun w hS => law3_at.c hS  hg1) (fun x4 => ?_)
    refine T.dNext (phi_cons (.inr (Kp.le 0 rfl)) phi_nil) ?_
    refine T.bin (.dPure (i := 7) rfl (by kernel_rfl) (fun d _ _ _ _ h => by cases d <;> exact h)) rfl (wants0 rfl) rfl rfl rfl rfl ?_
    refine T.assign (.dPure (i := 8) rfl (by kernel_rfl) (fun d _ _ _ _ h => by cases d <;> exact h)) rfl (wants0 rfl) rfl rfl ?_
    refine T.dDone (by kernel_rfl) ?_
    refine T.then_normal ?_
    refine T.seqJ (fun (s4 : Bool) (x5 : Unit) => [(0, .slice A0 l0.length c0), (1, str l1), (2, .slice A2 l2.length c2), (7, .int .i64 s2), (8, .bool s4)]) (fun s4 x5 => Ro E8 A0 c0 l0 :: Ro EStr A2 c2 l2 :: hs) (fun s4 => law3_could.k3 s2 s4 = some o1) (fun s4 x5 hk4 => ?_) (fun J3 => ?_)
    ·unfold law3_could.k3 at hk4
     refine T.seq ?_
     refine T.region ?_
     refine T.move .list rfl (wants0 rfl) rfl rfl ?_
     refine T.not .list rfl (wants0 rfl) rfl rfl ?_
     refine T.nil ?_
     refine T.then_normal ?_
     refine T.cond rfl (fun hb2 => ?_) (fun hb2 => ?_)
     ·replace hk4 := inv_posB hb2 hk4
      refine T.seq ?_
      refine T.region ?_
      refine T.assign .list rfl (wants0 rfl) rfl rfl ?_
      refine T.nil ?_
      refine T.then_normal ?_
      refine T.ret ?_
      refine T.in_ret ?_
      refine T.then_ret ?_
      refine T.then_ret ?_
      obtain rfl := inv_some hk4
      obtain rfl := hx1 _ rfl
      refine T.in_ret ?_
      refine T.then_ret ?_
      obtain rfl := inv_some hr
      refine T.pick [] 2 rfl rfl (Nat.le_add_left _ _) rfl ?_
      refine T.ret1 rfl rfl (fun w hS => ⟨(), rfl, hS⟩)
     ·replace hk4 := inv_negB hb2 hk4
      refine T.skip ?_
      refine T.in_normal ?_
      refine T.then_normal ?_
      exact T.le (EnvLe.cons rfl (EnvLe.cons rfl (EnvLe.cons rfl (EnvLe.cons rfl EnvLe.nil)))) (T.pick [0, 1] 2 rfl rfl (Nat.le_add_left _ _) rfl (J2 () () hk4))
    ·refine T.seq ?_
     refine T.region ?_
     refine T.assign .list rfl (wants0 rfl) rfl rfl ?_
     refine T.nil ?_
     refine T.then_normal ?_
     refine T.block ?_
     obtain ⟨e2, hl2, he1⟩ := inv_bind he1
     refine T.le (EnvLe.cons rfl (EnvLe.cons rfl (EnvLe.cons rfl (EnvLe.cons rfl (EnvLe.cons rfl (EnvLe.cons rfl EnvLe.nil)))))) (T.pick [1, 2] 3 rfl rfl (Nat.le_add_left _ _) rfl (T.loop (s0 := ((decide ((((((l0).getD (s2 : Int).toNat default).toNat : Int))) = r1)), 0)) (env := fun s5 x6 => [(0, .slice A0 l0.length c0), (1, str l1), (2, .slice A2 l2.length c2), (7, .int .i64 s2), (8, .bool s5.1), (9, .int .i64 s5.2)]) (hs := fun (s5 : Bool × Int) (x6 : Unit) => Ro E8 A0 c0 l0 :: Ro EStr A2 c2 l2 :: hs) hl2 () (fun K2 s5 x6 o2 he2 hm2 hx2 => ?_)))
     unfold law3_could.st2 at he2
     refine T.seq ?_
     refine T.seqJ (fun (s6 : Bool) (x7 : Unit) => [(0, .slice A0 l0.length c0), (1, str l1), (2, .slice A2 l2.length c2), (7, .int .i64 s2), (8, .bool s5.1), (9, .int .i64 s5.2), (31, .bool s6)]) (fun s6 x7 => Ro E8 A0 c0 l0 :: Ro EStr A2 c2 l2 :: hs) (fun s6 => law3_could.k4 s2 l0 s5 l2 s6 = some o2) (fun s6 x7 hk5 => ?_) (fun J4 => ?_)
     ·unfold law3_could.k4 at hk5
      refine T.cond rfl (fun hb3 => ?_) (fun hb3 => ?_)
      ·replace hk5 := inv_posB hb3 hk5
       refine T.skip ?_
       refine T.then_normal ?_
       refine T.seq ?_
       refine T.block ?_
       refine T.dStart mixed ?_
       refine T.move (.dPure (i := 0) rfl (by kernel_rfl) (fun d _ _ _ _ h => by cases d <;> exact h)) rfl (wants0 rfl) rfl rfl ?_
       refine T.move (.dPure (i := 1) rfl (by kernel_rfl) (fun d _ _ _ _ h => by cases d <;> exact h)) rfl (wants0 rfl) rfl rfl ?_
       obtain ⟨hc2, hk5⟩ := inv_chk hk5
       refine T.idxRo (.dPure (i := 2) rfl (by kernel_rfl) (fun d _ _ _ _ h => by cases d <;> exact h)) 0 rfl rfl (wants0 rfl) rfl rfl rfl hc2.1 hc2.2 (Nat.le_refl _) ?_
       refine T.move (.dPure (i := 4) rfl (by kernel_rfl) (fun d _ _ _ _ h => by cases d <;> exact h)) rfl (wants0 rfl) rfl rfl ?_
       refine T.move (.dPure (i := 5) rfl (by kernel_rfl) (fun d _ _ _ _ h => by cases d <;> exact h)) rfl (wants0 rfl) rfl rfl ?_
       obtain ⟨hc3, hk5⟩ := inv_chk hk5
       refine T.idxRo (.dPure (i := 6) rfl (by kernel_rfl) (fun d _ _ _ _ h => by cases d <;> exact h)) 1 rfl rfl (wants0 rfl) rfl rfl rfl hc3.1 hc3.2 (Nat.le_refl _) ?_
       refine T.move (.dPure (i := 8) rfl (by kernel_rfl) (fun d _ _ _ _ h => by cases d <;> exact h)) rfl (wants0 rfl) rfl rfl ?_
       refine T.keep (fun z2 hk6 => ?_)
       refine T.dAdd 12 (fun w => PH.le z2 (PH.of w)) (Kp.le 0 rfl) ?_
       refine T.valS 0 (i := 3) (.int .u8 ((((l0).getD (s2 : Int).toNat default).toNat : Int))) rfl rfl (by kernel_rfl) (by kernel_rfl) (fun d _ _ _ _ h => by cases d <;> exact h) (wants0 rfl) rfl (run_ldRo1 (hk6 0 rfl).1 rfl rfl hc2.1 hc2.2) ?_
       refine T.valS 0 (i := 7) (str (((l2).getD (s5.2 : Int).toNat default))) rfl rfl (by kernel_rfl) (by kernel_rfl) (fun d _ _ _ _ h => by cases d <;> exact h) (wants0 rfl) rfl (run_ldRo1 (hk6 1 rfl).1 rfl rfl hc3.1 hc3.2) ?_
       obtain ⟨r2, hg2, hk5⟩ := inv_bind hk5
       refine T.dOnly (i := 9) (by kernel_rfl) ?_
       refine T.call (.dOne rfl (by kernel_rfl)) (wants0 rfl) rfl (run_callF (vs := [_, _]) rfl Try.func18 rfl (by decide) rfl) (fun w hS => law3_at.c hS  hg2) (fun x8 => ?_)
       refine T.dNext (phi_cons (.inr (Kp.le 0 rfl)) phi_nil) ?_
       refine T.bin (.dPure (i := 10) rfl (by kernel_rfl) (fun d _ _ _ _ h => by cases d <;> exact h)) rfl (wants0 rfl) rfl rfl rfl rfl ?_
       refine T.assign (.dPure (i := 11) rfl (by kernel_rfl) (fun d _ _ _ _ h => by cases d <;> exact h)) rfl (wants0 rfl) rfl rfl ?_
       refine T.dDone (by kernel_rfl) ?_
       refine T.in_normal ?_
       refine T.then_normal ?_
       refine T.region ?_
       refine T.move .list rfl (wants0 rfl) rfl rfl ?_
       refine T.bin .list rfl (wants0 rfl) rfl rfl rfl rfl ?_
       refine T.assign .list rfl (wants0 rfl) rfl rfl ?_
       refine T.nil ?_
       refine T.then_normal ?_
       obtain rfl := inv_some hk5
       exact T.le (EnvLe.cons rfl (EnvLe.cons rfl (EnvLe.cons rfl (EnvLe.cons rfl (EnvLe.cons rfl (EnvLe.cons rfl EnvLe.nil)))))) (T.pick [1, 2] 3 rfl rfl (Nat.le_add_left _ _) rfl (hm2 ((decide ((((((l0).getD (s2 : Int).toNat default).toNat : Int))) = r2)), IntKind.i64.wrap (s5.2 + 1)) rfl ()))
      ·replace hk5 := inv_negB hb3 hk5
       refine T.exit ?_
       refine T.then_exit ?_
       refine T.then_exit ?_
       obtain rfl := inv_some hk5
       obtain rfl := hx2 _ rfl
       refine T.in_hit ?_
       refine T.then_normal ?_
       exact T.le (EnvLe.cons rfl (EnvLe.cons rfl (EnvLe.cons rfl (EnvLe.cons rfl (EnvLe.cons rfl EnvLe.nil))))) (T.pick [0, 1] 2 rfl rfl (Nat.le_add_left _ _) rfl (J3 s5.1 () he1))
     ·refine T.region ?_
      refine T.move .list rfl (wants0 rfl) rfl rfl ?_
      refine T.move .list rfl (wants0 rfl) rfl rfl ?_
      refine T.lenSlice .list rfl (wants0 rfl) rfl rfl ?_
      refine T.bin .list rfl (wants0 rfl) rfl rfl rfl rfl ?_
      refine T.move .list rfl (wants0 rfl) rfl rfl ?_
      refine T.bool (b := (decide (s5.2 < ((l2.length : Int))))) (fun hb4 => ?_) (fun hb4 => ?_)
      ·replace he2 := inv_posB hb4 he2
       refine T.move .list rfl (wants1 rfl rfl rfl hb4) rfl rfl ?_
       refine T.not .list rfl (wants1 rfl rfl rfl hb4) rfl rfl ?_
       refine T.pickT .list rfl (wants0 rfl) rfl rfl hb4 rfl ?_
       refine T.nil ?_
       refine T.then_normal ?_
       exact T.le (EnvLe.cons rfl (EnvLe.cons rfl (EnvLe.cons rfl (EnvLe.cons rfl (EnvLe.cons rfl (EnvLe.cons rfl (EnvLe.cons rfl EnvLe.nil))))))) (T.pick [0, 1] 2 rfl rfl (Nat.le_add_left _ _) rfl (J4 (!s5.1) () he2))
      ·replace he2 := inv_negB hb4 he2
       refine T.leave .list (wantsNot rfl rfl rfl hb4) rfl ?_
       refine T.leave .list (wantsNot rfl rfl rfl hb4) rfl ?_
       refine T.pickF .list rfl (wants0 rfl) rfl rfl hb4 rfl ?_
       refine T.nil ?_
       refine T.then_normal ?_
       exact T.le (EnvLe.cons rfl (EnvLe.cons rfl (EnvLe.cons rfl (EnvLe.cons rfl (EnvLe.cons rfl (EnvLe.cons rfl (EnvLe.cons rfl EnvLe.nil))))))) (T.pick [0, 1] 2 rfl rfl (Nat.le_add_left _ _) rfl (J4 false () he2))
  ·replace he1 := inv_negB hb1 he1
   refine T.exit ?_
   refine T.then_exit ?_
   refine T.then_exit ?_
   obtain rfl := inv_some he1
   obtain rfl := hx1 _ rfl
   refine T.in_hit ?_
   refine T.then_normal ?_
   exact T.le EnvLe.nil (T.pick [] 2 rfl rfl (Nat.le_add_left _ _) rfl (J1 () () hr))

noncomputable def law3_DiskKeeps.k2 (s2 : Unit) : Option Bool :=
  (law3_told.impl ).bind fun r4 => some r4
noncomputable def law3_DiskKeeps.k3 (s3 : Int) (s4 : Bool) : Option (Int ⊕ (Bool ⊕ Unit)) :=
  (if s4 = true then some (.inr (.inl false)) else some (.inl (IntKind.i64.wrap (s3 + 1))))
noncomputable def law3_DiskKeeps.st1 (r3 : (Int × Bool × Int × Int × Int × Int × Int)) (r2 : (Int × Bool × Int × Int × Int × Int × Int) × (List (Int × (List UInt8))) × (List (Int × (List UInt8)))) (s1 : Int × (List (Int × (List UInt8))) × (List (Int × (List UInt8))) × Bool × Int × Int × Int × Int × Int × List (List UInt8) × List (List (List UInt8))) (s3 : Int) : Option (Int ⊕ (Bool ⊕ Unit)) :=
  (if ((decide (s3 < 4))) = true then (disk_Disk_Read.impl ((r3.1, r3.2.1, r3.2.2.1, r3.2.2.2.1, r3.2.2.2.2.1, r3.2.2.2.2.2.1, r3.2.2.2.2.2.2)) r2.2.1 r2.2.2 s3).bind fun r5 => (if ((decide (r5.2 = 0))) = true then (if ((decide ((((r5.1.length : Int))) = 8192))) = true then chk (0 ≤ s3 ∧ s3 < 4) (chk (0 ≤ s3 ∧ s3 < 4) (chk ((0 + (s3 : Int).toNat * 1) < s1.2.2.2.2.2.2.2.2.2.1.length) (chk ((0 + (s3 : Int).toNat * 1) < s1.2.2.2.2.2.2.2.2.2.2.length) ((law3_could.impl r5.1 (((s1.2.2.2.2.2.2.2.2.2.1).getD ((0 + (s3 : Int).toNat * 1)) default)) ((s1.2.2.2.2.2.2.2.2.2.2.getD ((0 + (s3 : Int).toNat * 1)) default))).bind fun r6 => law3_DiskKeeps.k3 s3 (!r6))))) else law3_DiskKeeps.k3 s3 true) else law3_DiskKeeps.k3 s3 true) else some (.inr (.inr ())))
noncomputable def law3_DiskKeeps.k1 (a1 : Int × Int × Int × Int) (s1 : Int × (List (Int × (List UInt8))) × (List (Int × (List UInt8))) × Bool × Int × Int × Int × Int × Int × List (List UInt8) × List (List (List UInt8))) : Option Bool :=
  (disk_Disk_Cut.impl ((s1.1, s1.2.2.2.1, s1.2.2.2.2.1, s1.2.2.2.2.2.1, s1.2.2.2.2.2.2.1, s1.2.2.2.2.2.2.2.1, s1.2.2.2.2.2.2.2.2.1)) s1.2.1 s1.2.2.1 ((a1.1, a1.2.1, a1.2.2.1, a1.2.2.2))).bind fun r2 => (disk_Disk_Restart.impl ((r2.1.1, r2.1.2.1, r2.1.2.2.1, r2.1.2.2.2.1, r2.1.2.2.2.2.1, r2.1.2.2.2.2.2.1, r2.1.2.2.2.2.2.2)) r2.2.1 r2.2.2).bind fun r3 => (loop (law3_DiskKeeps.st1 r3 r2 s1) 0).bind (fun e1 => match e1 with | .inl v => some v | .inr v => law3_DiskKeeps.k2 v)
noncomputable def law3_DiskKeeps.k5 (s5 : Int × (List (Int × (List UInt8))) × (List (Int × (List UInt8))) × Bool × Int × Int × Int × Int × Int × List (List UInt8) × List (List (List UInt8)) × Int) (s7 : Int × (List (Int × (List UInt8))) × (List (Int × (List UInt8))) × Bool × Int × Int × Int × Int × Int × List (List UInt8) × List (List (List UInt8))) : Option ((Int × (List (Int × (List UInt8))) × (List (Int × (List UInt8))) × Bool × Int × Int × Int × Int × Int × List (List UInt8) × List (List (List UInt8)) × Int) ⊕ (Bool ⊕ (Int × (List (Int × (List UInt8))) × (List (Int × (List UInt8))) × Bool × Int × Int × Int × Int × Int × List (List UInt8) × List (List (List UInt8))))) :=
  some (.inl (s7.1, s7.2.1, s7.2.2.1, s7.2.2.2.1, s7.2.2.2.2.1, s7.2.2.2.2.2.1, s7.2.2.2.2.2.2.1, s7.2.2.2.2.2.2.2.1, s7.2.2.2.2.2.2.2.2.1, s7.2.2.2.2.2.2.2.2.2.1, s7.2.2.2.2.2.2.2.2.2.2, IntKind.i64.wrap (s5.2.2.2.2.2.2.2.2.2.2.2 + 1)))
noncomputable def law3_DiskKeeps.k6 (l0 : List (Int × Int × Int × (List UInt8) × (Int × Int × Int × Int))) (s5 : Int × (List (Int × (List UInt8))) × (List (Int × (List UInt8))) × Bool × Int × Int × Int × Int × Int × List (List UInt8) × List (List (List UInt8)) × Int) (s8 : Unit) : Option ((Int × (List (Int × (List UInt8))) × (List (Int × (List UInt8))) × Bool × Int × Int × Int × Int × Int × List (List UInt8) × List (List (List UInt8)) × Int) ⊕ (Bool ⊕ (Int × (List (Int × (List UInt8))) × (List (Int × (List UInt8))) × Bool × Int × Int × Int × Int × Int × List (List UInt8) × List (List (List UInt8))))) :=
  chk (0 ≤ (min (((((((l0).getD (s5.2.2.2.2.2.2.2.2.2.2.2 : Int).toNat default)).2.2.2.1)).length : Int)) 40) ∧ (min (((((((l0).getD (s5.2.2.2.2.2.2.2.2.2.2.2 : Int).toNat default)).2.2.2.1)).length : Int)) 40) ≤ ((((((l0).getD (s5.2.2.2.2.2.2.2.2.2.2.2 : Int).toNat default)).2.2.2.1)).length : Int)) ((disk_Disk_Write.impl ((s5.1, s5.2.2.2.1, s5.2.2.2.2.1, s5.2.2.2.2.2.1, s5.2.2.2.2.2.2.1, s5.2.2.2.2.2.2.2.1, s5.2.2.2.2.2.2.2.2.1)) s5.2.1 s5.2.2.1 (bitsOf .and .i64 (((((l0).getD (s5.2.2.2.2.2.2.2.2.2.2.2 : Int).toNat default)).2.1)) 3) (subl (((((l0).getD (s5.2.2.2.2.2.2.2.2.2.2.2 : Int).toNat default)).2.2.2.1)) 0 (min (((((((l0).getD (s5.2.2.2.2.2.2.2.2.2.2.2 : Int).toNat default)).2.2.2.1)).length : Int)) 40))).bind fun r7 => (if ((!(decide (r7.1 = 0)))) = true then some (.inr (.inl false)) else chk (0 ≤ (bitsOf .and .i64 (((((l0).getD (s5.2.2.2.2.2.2.2.2.2.2.2 : Int).toNat default)).2.1)) 3) ∧ (bitsOf .and .i64 (((((l0).getD (s5.2.2.2.2.2.2.2.2.2.2.2 : Int).toNat default)).2.1)) 3) < 4) (chk ((0 + (bitsOf .and .i64 (((((l0).getD (s5.2.2.2.2.2.2.2.2.2.2.2 : Int).toNat default)).2.1)) 3 : Int).toNat * 1) < s5.2.2.2.2.2.2.2.2.2.2.1.length) (chk ((((s5.2.2.2.2.2.2.2.2.2.2.1.getD ((0 + (bitsOf .and .i64 (((((l0).getD (s5.2.2.2.2.2.2.2.2.2.2.2 : Int).toNat default)).2.1)) 3 : Int).toNat * 1)) default)).length + (([(subl (((((l0).getD (s5.2.2.2.2.2.2.2.2.2.2.2 : Int).toNat default)).2.2.2.1)) 0 (min (((((((l0).getD (s5.2.2.2.2.2.2.2.2.2.2.2 : Int).toNat default)).2.2.2.1)).length : Int)) 40))] : List (List UInt8))).length) * 16 ≤ 140737488355328) (chk (0 ≤ (bitsOf .and .i64 (((((l0).getD (s5.2.2.2.2.2.2.2.2.2.2.2 : Int).toNat default)).2.1)) 3) ∧ (bitsOf .and .i64 (((((l0).getD (s5.2.2.2.2.2.2.2.2.2.2.2 : Int).toNat default)).2.1)) 3) < 4) (chk ((0 + (bitsOf .and .i64 (((((l0).getD (s5.2.2.2.2.2.2.2.2.2.2.2 : Int).toNat default)).2.1)) 3 : Int).toNat * 1) < s5.2.2.2.2.2.2.2.2.2.2.1.length) (law3_DiskKeeps.k5 s5 (r7.2.1.1, r7.2.2.1, r7.2.2.2, r7.2.1.2.1, r7.2.1.2.2.1, r7.2.1.2.2.2.1, r7.2.1.2.2.2.2.1, r7.2.1.2.2.2.2.2.1, r7.2.1.2.2.2.2.2.2, s5.2.2.2.2.2.2.2.2.2.1, (s5.2.2.2.2.2.2.2.2.2.2.1.set ((0 + (bitsOf .and .i64 (((((l0).getD (s5.2.2.2.2.2.2.2.2.2.2.2 : Int).toNat default)).2.1)) 3 : Int).toNat * 1)) ((((s5.2.2.2.2.2.2.2.2.2.2.1.getD ((0 + (bitsOf .and .i64 (((((l0).getD (s5.2.2.2.2.2.2.2.2.2.2.2 : Int).toNat default)).2.1)) 3 : Int).toNat * 1)) default)) ++ (([(subl (((((l0).getD (s5.2.2.2.2.2.2.2.2.2.2.2 : Int).toNat default)).2.2.2.1)) 0 (min (((((((l0).getD (s5.2.2.2.2.2.2.2.2.2.2.2 : Int).toNat default)).2.2.2.1)).length : Int)) 40))] : List (List UInt8))))))))))))))
noncomputable def law3_DiskKeeps.k7 (s5 : Int × (List (Int × (List UInt8))) × (List (Int × (List UInt8))) × Bool × Int × Int × Int × Int × Int × List (List UInt8) × List (List (List UInt8)) × Int) (r8 : Int × (Int × Bool × Int × Int × Int × Int × Int) × (List (Int × (List UInt8))) × (List (Int × (List UInt8)))) (s9 : List (List UInt8) × List (List (List UInt8))) : Option ((Int × (List (Int × (List UInt8))) × (List (Int × (List UInt8))) × Bool × Int × Int × Int × Int × Int × List (List UInt8) × List (List (List UInt8)) × Int) ⊕ (Bool ⊕ (Int × (List (Int × (List UInt8))) × (List (Int × (List UInt8))) × Bool × Int × Int × Int × Int × Int × List (List UInt8) × List (List (List UInt8))))) :=
  law3_DiskKeeps.k5 s5 (r8.2.1.1, r8.2.2.1, r8.2.2.2, r8.2.1.2.1, r8.2.1.2.2.1, r8.2.1.2.2.2.1, r8.2.1.2.2.2.2.1, r8.2.1.2.2.2.2.2.1, r8.2.1.2.2.2.2.2.2, s9.1, s9.2)
noncomputable def law3_DiskKeeps.k8 (s10 : List (List UInt8) × List (List (List UInt8)) × Int) (s11 : List (List UInt8)) : Option ((List (List UInt8) × List (List (List UInt8)) × Int) ⊕ (List (List UInt8) × List (List (List UInt8)))) :=
  chk (0 ≤ s10.2.2 ∧ s10.2.2 < 4) (chk ((0 + (s10.2.2 : Int).toNat * 1) < s10.2.1.length) (some (.inl (s11, (s10.2.1.set ((0 + (s10.2.2 : Int).toNat * 1)) []), IntKind.i64.wrap (s10.2.2 + 1)))))
noncomputable def law3_DiskKeeps.st3 (s10 : List (List UInt8) × List (List (List UInt8)) × Int) : Option ((List (List UInt8) × List (List (List UInt8)) × Int) ⊕ (List (List UInt8) × List (List (List UInt8)))) :=
  (if ((decide (s10.2.2 < 4))) = true then chk (0 ≤ s10.2.2 ∧ s10.2.2 < 4) (chk ((0 + (s10.2.2 : Int).toNat * 1) < s10.2.1.length) ((if ((decide ((0 : Int) < ((((s10.2.1.getD ((0 + (s10.2.2 : Int).toNat * 1)) default)).length : Int))))) = true then chk (0 ≤ s10.2.2 ∧ s10.2.2 < 4) (chk (0 ≤ s10.2.2 ∧ s10.2.2 < 4) (chk ((0 + (s10.2.2 : Int).toNat * 1) < s10.2.1.length) (chk ((0 + (s10.2.2 : Int).toNat * 1) < s10.2.1.length) (chk (0 ≤ (IntKind.i64.wrap (((((s10.2.1.getD ((0 + (s10.2.2 : Int).toNat * 1)) default)).length : Int)) - 1)) ∧ (IntKind.i64.wrap (((((s10.2.1.getD ((0 + (s10.2.2 : Int).toNat * 1)) default)).length : Int)) - 1)) < (((s10.2.1.getD ((0 + (s10.2.2 : Int).toNat * 1)) default)).length : Int)) (chk (0 ≤ s10.2.2 ∧ s10.2.2 < 4) (chk ((0 + (s10.2.2 : Int).toNat * 1) < s10.1.length) (law3_DiskKeeps.k8 s10 ((s10.1).set ((0 + (s10.2.2 : Int).toNat * 1)) ((((s10.2.1.getD ((0 + (s10.2.2 : Int).toNat * 1)) default)).getD (IntKind.i64.wrap (((((s10.2.1.getD ((0 + (s10.2.2 : Int).toNat * 1)) default)).length : Int)) - 1) : Int).toNat default)))))))))) else law3_DiskKeeps.k8 s10 s10.1))) else some (.inr (s10.1, s10.2.1)))
noncomputable def law3_DiskKeeps.k4 (s5 : Int × (List (Int × (List UInt8))) × (List (Int × (List UInt8))) × Bool × Int × Int × Int × Int × Int × List (List UInt8) × List (List (List UInt8)) × Int) (l0 : List (Int × Int × Int × (List UInt8) × (Int × Int × Int × Int))) (s6 : Bool) : Option ((Int × (List (Int × (List UInt8))) × (List (Int × (List UInt8))) × Bool × Int × Int × Int × Int × Int × List (List UInt8) × List (List (List UInt8)) × Int) ⊕ (Bool ⊕ (Int × (List (Int × (List UInt8))) × (List (Int × (List UInt8))) × Bool × Int × Int × Int × Int × Int × List (List UInt8) × List (List (List UInt8))))) :=
  (if s6 = true then chk (0 ≤ s5.2.2.2.2.2.2.2.2.2.2.2 ∧ s5.2.2.2.2.2.2.2.2.2.2.2 < (l0.length : Int)) ((if ((decide (((((((l0).getD (s5.2.2.2.2.2.2.2.2.2.2.2 : Int).toNat default)).1))) = 1))) = true then (disk_Disk_Flush.impl ((s5.1, s5.2.2.2.1, s5.2.2.2.2.1, s5.2.2.2.2.2.1, s5.2.2.2.2.2.2.1, s5.2.2.2.2.2.2.2.1, s5.2.2.2.2.2.2.2.2.1)) s5.2.1 s5.2.2.1).bind fun r8 => (if ((!(decide (r8.1 = 0)))) = true then some (.inr (.inl false)) else (loop (law3_DiskKeeps.st3) (s5.2.2.2.2.2.2.2.2.2.1, s5.2.2.2.2.2.2.2.2.2.2.1, 0)).bind (fun e3 => law3_DiskKeeps.k7 s5 r8 e3)) else law3_DiskKeeps.k6 l0 s5 ())) else some (.inr (.inr (s5.1, s5.2.1, s5.2.2.1, s5.2.2.2.1, s5.2.2.2.2.1, s5.2.2.2.2.2.1, s5.2.2.2.2.2.2.1, s5.2.2.2.2.2.2.2.1, s5.2.2.2.2.2.2.2.2.1, s5.2.2.2.2.2.2.2.2.2.1, s5.2.2.2.2.2.2.2.2.2.2.1))))
noncomputable def law3_DiskKeeps.st2 (l0 : List (Int × Int × Int × (List UInt8) × (Int × Int × Int × Int))) (s5 : Int × (List (Int × (List UInt8))) × (List (Int × (List UInt8))) × Bool × Int × Int × Int × Int × Int × List (List UInt8) × List (List (List UInt8)) × Int) : Option ((Int × (List (Int × (List UInt8))) × (List (Int × (List UInt8))) × Bool × Int × Int × Int × Int × Int × List (List UInt8) × List (List (List UInt8)) × Int) ⊕ (Bool ⊕ (Int × (List (Int × (List UInt8))) × (List (Int × (List UInt8))) × Bool × Int × Int × Int × Int × Int × List (List UInt8) × List (List (List UInt8))))) :=
  (if ((decide (s5.2.2.2.2.2.2.2.2.2.2.2 < ((l0.length : Int))))) = true then law3_DiskKeeps.k4 s5 l0 (decide (s5.2.2.2.2.2.2.2.2.2.2.2 < 30)) else law3_DiskKeeps.k4 s5 l0 false)
noncomputable def law3_DiskKeeps.impl (l0 : List (Int × Int × Int × (List UInt8) × (Int × Int × Int × Int))) (a1 : Int × Int × Int × Int) : Option Bool :=
  (disk_New.impl 4).bind fun r1 => (match r1 with | (none, r1p1) => (some false) | (some r1p0, r1p1) => ((if ((!(decide (r1p1 = 0)))) = true then some false else (loop (law3_DiskKeeps.st2 l0) (r1p0.1.1, r1p0.2.1, r1p0.2.2, r1p0.1.2.1, r1p0.1.2.2.1, r1p0.1.2.2.2.1, r1p0.1.2.2.2.2.1, r1p0.1.2.2.2.2.2.1, r1p0.1.2.2.2.2.2.2, List.replicate 4 ([] : List UInt8), List.replicate 4 ([] : List (List UInt8)), 0)).bind (fun e2 => match e2 with | .inl v => some v | .inr v => law3_DiskKeeps.k1 a1 v))))
set_option maxRecDepth 100000 in
set_option maxHeartbeats 4000000 in
theorem law3_DiskKeeps.c {B : World} {hs : List MP} {w : World} {i0 c0 : Nat} {A0 : Option Addr} {l0 : List (Int × Int × Int × (List UInt8) × (Int × Int × Int × Int))} {a1 : Int × Int × Int × Int} (hS : St B (hs) w) (h0 : (hs)[i0]? = some (Ro (Elt.pair E64 (Elt.pair E64 (Elt.pair E64 (Elt.pair (Elt.slice E8) (Elt.pair E64 (Elt.pair EU64 (Elt.pair E64 E64))))))) A0 c0 l0)) {r : Bool} (hr : law3_DiskKeeps.impl l0 a1 = some r) :
    Calls Try.prog 3 #[.slice A0 l0.length c0, .agg #[.int .i64 a1.1, .int .u64 a1.2.1, .int .i64 a1.2.2.1, .int .i64 a1.2.2.2]] w fun e w' => ∃ x : Unit, e = .returned (.bool r) ∧ St B (hs) w' := by
 unfold law3_DiskKeeps.impl at hr
 refine calls_T Try.func3 rfl rfl rfl hS ?_
 refine T.front i0 h0 ?_
 refine T.seq ?_
 refine T.region ?_
 refine T.boxS .list rfl (wants0 rfl) rfl rfl (cs := [.int .i64 a1.1, .int .u64 a1.2.1, .int .i64 a1.2.2.1, .int .i64 a1.2.2.2]) rfl (fun b1 => ?_)
 refine T.assign .list rfl (wants0 rfl) rfl rfl ?_
 refine T.nil ?_
 refine T.then_normal ?_
 refine T.seq ?_
 refine T.region ?_
 obtain ⟨r1, hg1, hr⟩ := inv_bind hr
 rcases r1 with ⟨_ | r1p0, r1p1⟩
 ·dsimp only at hr
  refine T.call (v := fun (x1 : (Nat) × (Nat) × (Option Addr × Nat)) => .tuple #[.pointer none, .int .i64 r1p1]) (hs' := fun x1 => Cl b1 25 [.int .i64 a1.1, .int .u64 a1.2.1, .int .i64 a1.2.2.1, .int .i64 a1.2.2.2] :: Ro (Elt.pair E64 (Elt.pair E64 (Elt.pair E64 (Elt.pair (Elt.slice E8) (Elt.pair E64 (Elt.pair EU64 (Elt.pair E64 E64))))))) A0 c0 l0 :: hs) .list (wants0 rfl) rfl (run_callF (vs := [_]) rfl Try.func9 rfl (by decide) rfl) (fun w hS => disk_New.c hS  hg1) (fun x1 => ?_)
  refine T.move .list rfl (wants0 rfl) rfl rfl ?_
  refine T.extract .list rfl (wants0 rfl) rfl rfl rfl ?_
  refine T.extract .list rfl (wants0 rfl) rfl rfl rfl ?_
  refine T.assign .list rfl (wants0 rfl) rfl rfl ?_
  refine T.assign .list rfl (wants0 rfl) rfl rfl ?_
  refine T.nil ?_
  refine T.then_normal ?_
  refine T.seq ?_
  refine T.seq ?_
  refine T.region ?_
  refine T.move .list rfl (wants0 rfl) rfl rfl ?_
  refine T.ptrEq (pt := 69) .list rfl (wants0 rfl) rfl rfl rfl (by kernel_rfl) (.inr rfl) rfl ?_
  refine T.move .list rfl (wants0 rfl) rfl rfl ?_
  refine T.leave .list (wantsNot rfl rfl rfl rfl) rfl ?_
  refine T.leave .list (wantsNot rfl rfl rfl rfl) rfl ?_
  refine T.pickT .list rfl (wants0 rfl) rfl rfl rfl rfl ?_
  refine T.nil ?_
  refine T.then_normal ?_
  refine T.condT rfl rfl ?_
  refine T.seq ?_
  refine T.region ?_
  refine T.assign .list rfl (wants0 rfl) rfl rfl ?_
  refine T.nil ?_
  refine T.then_normal ?_
  refine T.ret ?_
  refine T.then_ret ?_
  obtain rfl := inv_some hr
  refine T.pick [] 2 rfl rfl (Nat.le_add_left _ _) rfl ?_
  refine T.ret1 rfl rfl (fun w hS => ⟨(), rfl, hS⟩)
 ·dsimp only at hr
  refine T.call (v := fun (x2 : (Nat) × (Nat) × (Option Addr × Nat)) => .tuple #[.pointer (some ⟨x2.1, 0, none⟩), .int .i64 r1p1]) (hs' := fun x2 => Cl x2.1 69 [.int .i64 r1p0.1.1, .map (some x2.2.1), .slice x2.2.2.1 r1p0.2.2.length x2.2.2.2, .bool r1p0.1.2.1, .int .i64 r1p0.1.2.2.1, .int .i64 r1p0.1.2.2.2.1, .int .u64 r1p0.1.2.2.2.2.1, .int .i64 r1p0.1.2.2.2.2.2.1, .int .i64 r1p0.1.2.2.2.2.2.2] :: Mp (Elt.slice E8) x2.2.1 r1p0.2.1 :: Bf (Elt.pair E64 (Elt.slice E8)) 71 x2.2.2.1 x2.2.2.2 r1p0.2.2 :: Cl b1 25 [.int .i64 a1.1, .int .u64 a1.2.1, .int .i64 a1.2.2.1, .int .i64 a1.2.2.2] :: Ro (Elt.pair E64 (Elt.pair E64 (Elt.pair E64 (Elt.pair (Elt.slice E8) (Elt.pair E64 (Elt.pair EU64 (Elt.pair E64 E64))))))) A0 c0 l0 :: hs) .list (wants0 rfl) rfl (run_callF (vs := [_]) rfl Try.func9 rfl (by decide) rfl) (fun w hS => disk_New.c hS  hg1) (fun x2 => ?_)
  refine T.move .list rfl (wants0 rfl) rfl rfl ?_
  refine T.extract .list rfl (wants0 rfl) rfl rfl rfl ?_
  refine T.extract .list rfl (wants0 rfl) rfl rfl rfl ?_
  refine T.assign .list rfl (wants0 rfl) rfl rfl ?_
  refine T.assign .list rfl (wants0 rfl) rfl rfl ?_
  refine T.nil ?_
  refine T.then_normal ?_
  refine T.seq ?_
  refine T.seq ?_
  refine T.region ?_
  refine T.move .list rfl (wants0 rfl) rfl rfl ?_
  refine T.ptrEq (pt := 69) .list rfl (wants0 rfl) rfl rfl rfl (by kernel_rfl) (.inr rfl) rfl ?_
  refine T.move .list rfl (wants0 rfl) rfl rfl ?_
  refine T.move .list rfl (wants1 rfl rfl rfl rfl) rfl rfl ?_
  refine T.bin .list rfl (wants1 rfl rfl rfl rfl) rfl rfl rfl rfl ?_
  refine T.pickF .list rfl (wants0 rfl) rfl rfl rfl rfl ?_
  refine T.nil ?_
  refine T.then_normal ?_
  refine T.cond rfl (fun hb1 => ?_) (fun hb1 => ?_)
  ·replace hr := inv_posB hb1 hr
   refine T.seq ?_
   refine T.region ?_
   refine T.assign .list rfl (wants0 rfl) rfl rfl ?_
   refine T.nil ?_
   refine T.then_normal ?_
   refine T.ret ?_
   refine T.then_ret ?_
   obtain rfl := inv_some hr
   refine T.pick [] 5 rfl rfl (Nat.le_add_left _ _) rfl ?_
   refine T.ret1 rfl rfl (fun w hS => ⟨(), rfl, hS⟩)
  ·replace hr := inv_negB hb1 hr
   refine T.skip ?_
   refine T.then_normal ?_
   refine T.seq ?_
   refine T.region ?_
   refine T.allocArr 4 str ([] : List UInt8) .list rfl (wants0 rfl) rfl (fun b2 => ?_)
   refine T.nil ?_
   refine T.then_normal ?_
   refine T.seq ?_
   refine T.region ?_
   refine T.allocOw 4 EStr 9 .list rfl (wants0 rfl) rfl (fun b3 => ?_)
   refine T.nil ?_
   refine T.then_normal ?_
   refine T.seqJ (fun (s1 : Int × (List (Int × (List UInt8))) × (List (Int × (List UInt8))) × Bool × Int × Int × Int × Int × Int × List (List UInt8) × List (List (List UInt8))) (x3 : (Option Addr × Nat) × (Ads)) => [(3, .pointer (some ⟨b1, 0, none⟩)), (5, .pointer (some ⟨x2.1, 0, none⟩)), (7, .pointer (some ⟨b2, 0, none⟩)), (8, .pointer (some ⟨b3, 0, none⟩))]) (fun s1 x3 => Cl b1 25 [.int .i64 a1.1, .int .u64 a1.2.1, .int .i64 a1.2.2.1, .int .i64 a1.2.2.2] :: Cl x2.1 69 [.int .i64 s1.1, .map (some x2.2.1), .slice x3.1.1 s1.2.2.1.length x3.1.2, .bool s1.2.2.2.1, .int .i64 s1.2.2.2.2.1, .int .i64 s1.2.2.2.2.2.1, .int .u64 s1.2.2.2.2.2.2.1, .int .i64 s1.2.2.2.2.2.2.2.1, .int .i64 s1.2.2.2.2.2.2.2.2.1] :: Mp (Elt.slice E8) x2.2.1 s1.2.1 :: Bf (Elt.pair E64 (Elt.slice E8)) 71 x3.1.1 x3.1.2 s1.2.2.1 :: Cl b2 30 (s1.2.2.2.2.2.2.2.2.2.1.map str) :: Cl b3 32 (heads x3.2 s1.2.2.2.2.2.2.2.2.2.2) :: Bfs EStr 9 x3.2 s1.2.2.2.2.2.2.2.2.2.2 :: hs) (fun s1 => law3_DiskKeeps.k1 a1 s1 = some r) (fun s1 x3 hk1 => ?_) (fun J1 => ?_)
   ·unfold law3_DiskKeeps.k1 at hk1
    refine T.seq ?_
    refine T.region ?_
    refine T.move .list rfl (wants0 rfl) rfl rfl ?_
    refine T.loadN .list 0 rfl rfl (wants0 rfl) rfl rfl (vs := [.int .i64 a1.1, .int .u64 a1.2.1, .int .i64 a1.2.2.1, .int .i64 a1.2.2.2]) rfl rfl ?_
    refine T.pick [1, 2, 3, 0, 4, 5, 6] 7 rfl rfl (Nat.le_add_left _ _) (hs' := Cl x2.1 69 [.int .i64 s1.1, .map (some x2.2.1), .slice x3.1.1 s1.2.2.1.length x3.1.2, .bool s1.2.2.2.1, .int .i64 s1.2.2.2.2.1, .int .i64 s1.2.2.2.2.2.1, .int .u64 s1.2.2.2.2.2.2.1, .int .i64 s1.2.2.2.2.2.2.2.1, .int .i64 s1.2.2.2.2.2.2.2.2.1] :: Mp (Elt.slice E8) x2.2.1 s1.2.1 :: Bf (Elt.pair E64 (Elt.slice E8)) 71 x3.1.1 x3.1.2 s1.2.2.1 :: Cl b1 25 [.int .i64 a1.1, .int .u64 a1.2.1, .int .i64 a1.2.2.1, .int .i64 a1.2.2.2] :: Cl b2 30 (s1.2.2.2.2.2.2.2.2.2.1.map str) :: Cl b3 32 (heads x3.2 s1.2.2.2.2.2.2.2.2.2.2) :: Bfs EStr 9 x3.2 s1.2.2.2.2.2.2.2.2.2.2 :: hs) rfl ?_
    obtain ⟨r2, hg2, hk1⟩ := inv_bind hk1
    refine T.call .list (wants0 rfl) rfl (run_callF (vs := [_, _]) rfl Try.func12 rfl (by decide) rfl) (fun w hS => disk_Disk_Cut.c hS (o0 := (s1.1, s1.2.2.2.1, s1.2.2.2.2.1, s1.2.2.2.2.2.1, s1.2.2.2.2.2.2.1, s1.2.2.2.2.2.2.2.1, s1.2.2.2.2.2.2.2.2.1)) (q0b := s1.2.1) (q0c := s1.2.2.1) (a1 := (a1.1, a1.2.1, a1.2.2.1, a1.2.2.2))  hg2) (fun x4 => ?_)
    refine T.nil ?_
    refine T.then_normal ?_
    refine T.seq ?_
    refine T.region ?_
    refine T.move .list rfl (wants0 rfl) rfl rfl ?_
    refine T.pick [0, 1, 2, 3, 4, 5, 6] 7 rfl rfl (Nat.le_add_left _ _) (hs' := Cl x2.1 69 [.int .i64 r2.1.1, .map (some x2.2.1), .slice x4.1 r2.2.2.length x4.2, .bool r2.1.2.1, .int .i64 r2.1.2.2.1, .int .i64 r2.1.2.2.2.1, .int .u64 r2.1.2.2.2.2.1, .int .i64 r2.1.2.2.2.2.2.1, .int .i64 r2.1.2.2.2.2.2.2] :: Mp (Elt.slice E8) x2.2.1 r2.2.1 :: Bf (Elt.pair E64 (Elt.slice E8)) 71 x4.1 x4.2 r2.2.2 :: Cl b1 25 [.int .i64 a1.1, .int .u64 a1.2.1, .int .i64 a1.2.2.1, .int .i64 a1.2.2.2] :: Cl b2 30 (s1.2.2.2.2.2.2.2.2.2.1.map str) :: Cl b3 32 (heads x3.2 s1.2.2.2.2.2.2.2.2.2.2) :: Bfs EStr 9 x3.2 s1.2.2.2.2.2.2.2.2.2.2 :: hs) rfl ?_
    obtain ⟨r3, hg3, hk1⟩ := inv_bind hk1
    refine T.call .list (wants0 rfl) rfl (run_callF (vs := [_]) rfl Try.func13 rfl (by decide) rfl) (fun w hS => disk_Disk_Restart.c hS (o0 := (r2.1.1, r2.1.2.1, r2.1.2.2.1, r2.1.2.2.2.1, r2.1.2.2.2.2.1, r2.1.2.2.2.2.2.1, r2.1.2.2.2.2.2.2)) (q0b := r2.2.1) (q0c := r2.2.2)  hg3) (fun x5 => ?_)
    refine T.nil ?_
    refine T.then_normal ?_
    refine T.seqJ (fun (s2 : Unit) (x6 : Unit) => []) (fun s2 x6 => hs) (fun s2 => law3_DiskKeeps.k2 s2 = some r) (fun s2 x6 hk2 => ?_) (fun J2 => ?_)
    ·unfold law3_DiskKeeps.k2 at hk2
     refine T.seq ?_
     refine T.region ?_
     obtain ⟨r4, hg4, hk2⟩ := inv_bind hk2
     refine T.call .list (wants0 rfl) rfl (run_callF (vs := []) rfl Try.func16 rfl (by decide) rfl) (fun w hS => law3_told.c hS  hg4) (fun x7 => ?_)
     refine T.assign .list rfl (wants0 rfl) rfl rfl ?_
     refine T.nil ?_
     refine T.then_normal ?_
     refine T.ret ?_
     obtain rfl := inv_some hk2
     refine T.pick [] 0 rfl rfl (Nat.le_add_left _ _) rfl ?_
     refine T.ret1 rfl rfl (fun w hS => ⟨(), rfl, hS⟩)
    ·refine T.seq ?_
     refine T.region ?_
     refine T.assign .list rfl (wants0 rfl) rfl rfl ?_
     refine T.nil ?_
     refine T.then_normal ?_
     refine T.block ?_
     obtain ⟨e1, hl1, hk1⟩ := inv_bind hk1
     refine T.le (EnvLe.cons rfl (EnvLe.cons rfl (EnvLe.cons rfl (EnvLe.cons rfl EnvLe.nil)))) (T.pick [0, 1, 2, 4, 5, 6] 7 rfl rfl (Nat.le_add_left _ _) rfl (T.loop (s0 := 0) (env := fun s3 x8 => [(5, .pointer (some ⟨x2.1, 0, none⟩)), (7, .pointer (some ⟨b2, 0, none⟩)), (8, .pointer (some ⟨b3, 0, none⟩)), (14, .int .i64 s3)]) (hs := fun (s3 : Int) (x8 : Unit) => Cl x2.1 69 [.int .i64 r3.1, .map (some x2.2.1), .slice x4.1 r2.2.2.length x4.2, .bool r3.2.1, .int .i64 r3.2.2.1, .int .i64 r3.2.2.2.1, .int .u64 r3.2.2.2.2.1, .int .i64 r3.2.2.2.2.2.1, .int .i64 r3.2.2.2.2.2.2] :: Mp (Elt.slice E8) x2.2.1 r2.2.1 :: Bf (Elt.pair E64 (Elt.slice E8)) 71 x4.1 x4.2 r2.2.2 :: Cl b2 30 (s1.2.2.2.2.2.2.2.2.2.1.map str) :: Cl b3 32 (heads x3.2 s1.2.2.2.2.2.2.2.2.2.2) :: Bfs EStr 9 x3.2 s1.2.2.2.2.2.2.2.2.2.2 :: hs) hl1 () (fun K1 s3 x8 o1 he1 hm1 hx1 => ?_)))
     unfold law3_DiskKeeps.st1 at he1
     refine T.seq ?_
     refine T.seq ?_
     refine T.region ?_
     refine T.move .list rfl (wants0 rfl) rfl rfl ?_
     refine T.bin .list rfl (wants0 rfl) rfl rfl rfl rfl ?_
     refine T.nil ?_
     refine T.then_normal ?_
     refine T.cond rfl (fun hb2 => ?_) (fun hb2 => ?_)
     ·replace he1 := inv_posB hb2 he1
      refine T.skip ?_
      refine T.then_normal ?_
      refine T.seq ?_
      refine T.block ?_
      refine T.seq ?_
      refine T.region ?_
      refine T.move .list rfl (wants0 rfl) rfl rfl ?_
      refine T.move .list rfl (wants0 rfl) rfl rfl ?_
      refine T.pick [0, 1, 2, 3, 4, 5] 6 rfl rfl (Nat.le_add_left _ _) (hs' := Cl x2.1 69 [.int .i64 r3.1, .map (some x2.2.1), .slice x4.1 r2.2.2.length x4.2, .bool r3.2.1, .int .i64 r3.2.2.1, .int .i64 r3.2.2.2.1, .int .u64 r3.2.2.2.2.1, .int .i64 r3.2.2.2.2.2.1, .int .i64 r3.2.2.2.2.2.2] :: Mp (Elt.slice E8) x2.2.1 r2.2.1 :: Bf (Elt.pair E64 (Elt.slice E8)) 71 x4.1 x4.2 r2.2.2 :: Cl b2 30 (s1.2.2.2.2.2.2.2.2.2.1.map str) :: Cl b3 32 (heads x3.2 s1.2.2.2.2.2.2.2.2.2.2) :: Bfs EStr 9 x3.2 s1.2.2.2.2.2.2.2.2.2.2 :: hs) rfl ?_
      obtain ⟨r5, hg5, he1⟩ := inv_bind he1
      refine T.call .list (wants0 rfl) rfl (run_callF (vs := [_, _]) rfl Try.func14 rfl (by decide) rfl) (fun w hS => disk_Disk_Read.c hS (o0 := (r3.1, r3.2.1, r3.2.2.1, r3.2.2.2.1, r3.2.2.2.2.1, r3.2.2.2.2.2.1, r3.2.2.2.2.2.2)) (q0b := r2.2.1) (q0c := r2.2.2)  hg5) (fun x9 => ?_)
      refine T.move .list rfl (wants0 rfl) rfl rfl ?_
      refine T.extract .list rfl (wants0 rfl) rfl rfl rfl ?_
      refine T.extract .list rfl (wants0 rfl) rfl rfl rfl ?_
      refine T.assign .list rfl (wants0 rfl) rfl rfl ?_
      refine T.assign .list rfl (wants0 rfl) rfl rfl ?_
      refine T.nil ?_
      refine T.then_normal ?_
      refine T.seqJ (fun (s4 : Bool) (x10 : Unit) => [(5, .pointer (some ⟨x2.1, 0, none⟩)), (7, .pointer (some ⟨b2, 0, none⟩)), (8, .pointer (some ⟨b3, 0, none⟩)), (14, .int .i64 s3), (127, .bool s4)]) (fun s4 x10 => Cl x2.1 69 [.int .i64 r3.1, .map (some x2.2.1), .slice x4.1 r2.2.2.length x4.2, .bool r3.2.1, .int .i64 r3.2.2.1, .int .i64 r3.2.2.2.1, .int .u64 r3.2.2.2.2.1, .int .i64 r3.2.2.2.2.2.1, .int .i64 r3.2.2.2.2.2.2] :: Mp (Elt.slice E8) x2.2.1 r2.2.1 :: Bf (Elt.pair E64 (Elt.slice E8)) 71 x4.1 x4.2 r2.2.2 :: Cl b2 30 (s1.2.2.2.2.2.2.2.2.2.1.map str) :: Cl b3 32 (heads x3.2 s1.2.2.2.2.2.2.2.2.2.2) :: Bfs EStr 9 x3.2 s1.2.2.2.2.2.2.2.2.2.2 :: hs) (fun s4 => law3_DiskKeeps.k3 s3 s4 = some o1) (fun s4 x10 hk3 => ?_) (fun J3 => ?_)
      ·unfold law3_DiskKeeps.k3 at hk3
       refine T.cond rfl (fun hb3 => ?_) (fun hb3 => ?_)
       ·replace hk3 := inv_posB hb3 hk3
        refine T.seq ?_
        refine T.region ?_
        refine T.assign .list rfl (wants0 rfl) rfl rfl ?_
        refine T.nil ?_
        refine T.then_normal ?_
        refine T.ret ?_
        refine T.in_ret ?_
        refine T.then_ret ?_
        refine T.then_ret ?_
        obtain rfl := inv_some hk3
        obtain rfl := hx1 _ rfl
        refine T.in_ret ?_
        refine T.then_ret ?_
        obtain rfl := inv_some hk1
        refine T.pick [] 6 rfl rfl (Nat.le_add_left _ _) rfl ?_
        refine T.ret1 rfl rfl (fun w hS => ⟨(), rfl, hS⟩)
       ·replace hk3 := inv_negB hb3 hk3
        refine T.skip ?_
        refine T.in_normal ?_
        refine T.then_normal ?_
        refine T.region ?_
        refine T.move .list rfl (wants0 rfl) rfl rfl ?_
        refine T.bin .list rfl (wants0 rfl) rfl rfl rfl rfl ?_
        refine T.assign .list rfl (wants0 rfl) rfl rfl ?_
        refine T.nil ?_
        refine T.then_normal ?_
        obtain rfl := inv_some hk3
        exact T.le (EnvLe.cons rfl (EnvLe.cons rfl (EnvLe.cons rfl (EnvLe.cons rfl EnvLe.nil)))) (T.pick [0, 1, 2, 3, 4, 5] 6 rfl rfl (Nat.le_add_left _ _) rfl (hm1 (IntKind.i64.wrap (s3 + 1)) rfl ()))
      ·refine T.plan [(0, 0), (1, 0), (2, 0), (3, 0), (4, 0), (5, 0), (6, 0), (7, 0), (8, 0), (9, 0), (10, 0), (12, 0), (13, 0), (11, 1), (14, 1), (15, 2), (16, 0), (17, 0)] mixed (by kernel_rfl) (by kernel_rfl) rfl (fun d _ _ _ _ h => by cases d <;> exact h) ?_
       refine T.move (.plan rfl) rfl (wants0 rfl) rfl rfl ?_
       refine T.bin (.plan rfl) rfl (wants0 rfl) rfl rfl rfl rfl ?_
       refine T.move (.plan rfl) rfl (wants0 rfl) rfl rfl ?_
       refine T.bool (b := (decide (r5.2 = 0))) (fun hb4 => ?_) (fun hb4 => ?_)
       ·replace he1 := inv_posB hb4 he1
        refine T.move (.plan rfl) rfl (wants1 rfl rfl rfl (not_t hb4)) rfl rfl ?_
        refine T.lenSlice (.plan rfl) rfl (wants1 rfl rfl rfl (not_t hb4)) rfl rfl ?_
        refine T.bin (.plan rfl) rfl (wants1 rfl rfl rfl (not_t hb4)) rfl rfl rfl rfl ?_
        refine T.pickF (.plan rfl) rfl (wants0 rfl) rfl rfl (not_t hb4) rfl ?_
        refine T.move (.plan rfl) rfl (wants0 rfl) rfl rfl ?_
        refine T.bool (b := (decide ((((r5.1.length : Int))) = 8192))) (fun hb5 => ?_) (fun hb5 => ?_)
        ·replace he1 := inv_posB hb5 he1
         refine T.move (.plan rfl) rfl (wants1 rfl rfl rfl (not_t hb5)) rfl rfl ?_
         refine T.move (.plan rfl) rfl (wants1 rfl rfl rfl (not_t hb5)) rfl rfl ?_
         obtain ⟨hc1, he1⟩ := inv_chk he1
         refine T.idxArr (.plan rfl) rfl (wants1 rfl rfl rfl (not_t hb5)) rfl rfl rfl hc1.1 hc1.2 ?_
         refine T.move (.plan rfl) rfl (wants1 rfl rfl rfl (not_t hb5)) rfl rfl ?_
         obtain ⟨hc2, he1⟩ := inv_chk he1
         refine T.idxArr (.plan rfl) rfl (wants1 rfl rfl rfl (not_t hb5)) rfl rfl rfl hc2.1 hc2.2 ?_
         obtain ⟨hc3, he1⟩ := inv_chk he1
         refine T.ldArr (.plan rfl) 4 rfl rfl (wants1 rfl rfl rfl (not_t hb5)) rfl rfl hc3 ?_
         obtain ⟨hc4, he1⟩ := inv_chk he1
         refine T.ldOw (.plan rfl) 5 rfl rfl (wants1 rfl rfl rfl (not_t hb5)) rfl rfl hc4 ?_
         refine T.focus 6 ((0 + (s3 : Int).toNat * 1)) rfl hc4 rfl ?_
         obtain ⟨r6, hg6, he1⟩ := inv_bind he1
         refine T.call (.plan rfl) (wants1 rfl rfl rfl (not_t hb5)) rfl (run_callF (vs := [_, _, _]) rfl Try.func15 rfl (by decide) rfl) (fun w hS => (law3_could.c (St.borrow (ros := [Ro E8 x9.1 x9.2 r5.1, Ro EStr ((x3.2 ((0 + (s3 : Int).toNat * 1))).1) ((x3.2 ((0 + (s3 : Int).toNat * 1))).2) ((s1.2.2.2.2.2.2.2.2.2.2.getD ((0 + (s3 : Int).toNat * 1)) default))]) (Ros.cons (hS.roBf 1 rfl rfl) (Ros.cons (hS.roBf 0 rfl rfl) Ros.nil))) (i0 := 0) (i2 := 1) rfl rfl hg6).mono fun e w' ⟨x, he, h1⟩ => ⟨x, he, hS.unborrow (post := []) h1 Frees.nil⟩) (fun x11 => ?_)
         refine T.not (.plan rfl) rfl (wants1 rfl rfl rfl (not_t hb5)) rfl rfl ?_
         refine T.pickF (.plan rfl) rfl (wants0 rfl) rfl rfl (not_t hb5) rfl ?_
         refine T.planEnd ?_
         refine T.then_normal ?_
         refine T.pick [0, 7, 1, 2, 3, 4, 5, 6] 8 rfl rfl (Nat.le_add_left _ _) (hs' := Bf EStr 9 ((x3.2 ((0 + (s3 : Int).toNat * 1))).1) ((x3.2 ((0 + (s3 : Int).toNat * 1))).2) ((s1.2.2.2.2.2.2.2.2.2.2.getD ((0 + (s3 : Int).toNat * 1)) default)) :: Bfs EStr 9 (upd x3.2 ((0 + (s3 : Int).toNat * 1)) (none, 0)) (s1.2.2.2.2.2.2.2.2.2.2.set ((0 + (s3 : Int).toNat * 1)) []) :: Bf E8 5 x9.1 x9.2 r5.1 :: Cl x2.1 69 [.int .i64 r3.1, .map (some x2.2.1), .slice x4.1 r2.2.2.length x4.2, .bool r3.2.1, .int .i64 r3.2.2.1, .int .i64 r3.2.2.2.1, .int .u64 r3.2.2.2.2.1, .int .i64 r3.2.2.2.2.2.1, .int .i64 r3.2.2.2.2.2.2] :: Mp (Elt.slice E8) x2.2.1 r2.2.1 :: Bf (Elt.pair E64 (Elt.slice E8)) 71 x4.1 x4.2 r2.2.2 :: Cl b2 30 (s1.2.2.2.2.2.2.2.2.2.1.map str) :: Cl b3 32 (heads x3.2 s1.2.2.2.2.2.2.2.2.2.2) :: hs) rfl ?_
         refine T.unfocus ((0 + (s3 : Int).toNat * 1)) hc4 ?_
         exact T.le (EnvLe.cons rfl (EnvLe.cons rfl (EnvLe.cons rfl (EnvLe.cons rfl (EnvLe.cons rfl EnvLe.nil))))) (T.pick [2, 3, 4, 5, 6, 0] 7 rfl rfl (Nat.le_add_left _ _) rfl (J3 (!r6) () he1))
        ·replace he1 := inv_negB hb5 he1
         refine T.leave (.plan rfl) (wantsNot rfl rfl rfl (not_f hb5)) rfl ?_
         refine T.leave (.plan rfl) (wantsNot rfl rfl rfl (not_f hb5)) rfl ?_
         refine T.leave (.plan rfl) (wantsNot rfl rfl rfl (not_f hb5)) rfl ?_
         refine T.leave (.plan rfl) (wantsNot rfl rfl rfl (not_f hb5)) rfl ?_
         refine T.leave (.plan rfl) (wantsNot rfl rfl rfl (not_f hb5)) rfl ?_
         refine T.leave (.plan rfl) (wantsNot rfl rfl rfl (not_f hb5)) rfl ?_
         refine T.leave (.plan rfl) (wantsNot rfl rfl rfl (not_f hb5)) rfl ?_
         refine T.leave (.plan rfl) (wantsNot rfl rfl rfl (not_f hb5)) rfl ?_
         refine T.leave (.plan rfl) (wantsNot rfl rfl rfl (not_f hb5)) rfl ?_
         refine T.pickT (.plan rfl) rfl (wants0 rfl) rfl rfl (not_f hb5) rfl ?_
         refine T.planEnd ?_
         refine T.then_normal ?_
         exact T.le (EnvLe.cons rfl (EnvLe.cons rfl (EnvLe.cons rfl (EnvLe.cons rfl (EnvLe.cons rfl EnvLe.nil))))) (T.pick [1, 2, 3, 4, 5, 6] 7 rfl rfl (Nat.le_add_left _ _) rfl (J3 true () he1))
       ·replace he1 := inv_negB hb4 he1
        refine T.leave (.plan rfl) (wantsNot rfl rfl rfl (not_f hb4)) rfl ?_
        refine T.leave (.plan rfl) (wantsNot rfl rfl rfl (not_f hb4)) rfl ?_
        refine T.leave (.plan rfl) (wantsNot rfl rfl rfl (not_f hb4)) rfl ?_
        refine T.pickT (.plan rfl) rfl (wants0 rfl) rfl rfl (not_f hb4) rfl ?_
        refine T.move (.plan rfl) rfl (wants0 rfl) rfl rfl ?_
        refine T.leave (.plan rfl) (wantsNot rfl rfl rfl rfl) rfl ?_
        refine T.leave (.plan rfl) (wantsNot rfl rfl rfl rfl) rfl ?_
        refine T.leave (.plan rfl) (wantsNot rfl rfl rfl rfl) rfl ?_
        refine T.leave (.plan rfl) (wantsNot rfl rfl rfl rfl) rfl ?_
        refine T.leave (.plan rfl) (wantsNot rfl rfl rfl rfl) rfl ?_
        refine T.leave (.plan rfl) (wantsNot rfl rfl rfl rfl) rfl ?_
        refine T.leave (.plan rfl) (wantsNot rfl rfl rfl rfl) rfl ?_
        refine T.leave (.plan rfl) (wantsNot rfl rfl rfl rfl) rfl ?_
        refine T.leave (.plan rfl) (wantsNot rfl rfl rfl rfl) rfl ?_
        refine T.pickT (.plan rfl) rfl (wants0 rfl) rfl rfl rfl rfl ?_
        refine T.planEnd ?_
        refine T.then_normal ?_
        exact T.le (EnvLe.cons rfl (EnvLe.cons rfl (EnvLe.cons rfl (EnvLe.cons rfl (EnvLe.cons rfl EnvLe.nil))))) (T.pick [1, 2, 3, 4, 5, 6] 7 rfl rfl (Nat.le_add_left _ _) rfl (J3 true () he1))
     ·replace he1 := inv_negB hb2 he1
      refine T.exit ?_
      refine T.then_exit ?_
      refine T.then_exit ?_
      obtain rfl := inv_some he1
      obtain rfl := hx1 _ rfl
      refine T.in_hit ?_
      refine T.then_normal ?_
      exact T.le EnvLe.nil (T.pick [] 6 rfl rfl (Nat.le_add_left _ _) rfl (J2 () () hk1))
   ·refine T.seq ?_
    refine T.region ?_
    refine T.assign .list rfl (wants0 rfl) rfl rfl ?_
    refine T.nil ?_
    refine T.then_normal ?_
    refine T.block ?_
    obtain ⟨e2, hl2, hr⟩ := inv_bind hr
    refine T.le (EnvLe.cons rfl (EnvLe.cons rfl (EnvLe.cons rfl (EnvLe.cons rfl (EnvLe.cons rfl (EnvLe.cons rfl EnvLe.nil)))))) (T.pick [7, 6, 3, 4, 5, 2, 0, 1] 8 rfl rfl (Nat.le_add_left _ _) rfl (T.loop (s0 := (r1p0.1.1, r1p0.2.1, r1p0.2.2, r1p0.1.2.1, r1p0.1.2.2.1, r1p0.1.2.2.2.1, r1p0.1.2.2.2.2.1, r1p0.1.2.2.2.2.2.1, r1p0.1.2.2.2.2.2.2, List.replicate 4 ([] : List UInt8), List.replicate 4 ([] : List (List UInt8)), 0)) (env := fun s5 x12 => [(0, .slice A0 l0.length c0), (3, .pointer (some ⟨b1, 0, none⟩)), (5, .pointer (some ⟨x2.1, 0, none⟩)), (7, .pointer (some ⟨b2, 0, none⟩)), (8, .pointer (some ⟨b3, 0, none⟩)), (9, .int .i64 s5.2.2.2.2.2.2.2.2.2.2.2)]) (hs := fun (s5 : Int × (List (Int × (List UInt8))) × (List (Int × (List UInt8))) × Bool × Int × Int × Int × Int × Int × List (List UInt8) × List (List (List UInt8)) × Int) (x12 : (Option Addr × Nat) × (Ads)) => Ro (Elt.pair E64 (Elt.pair E64 (Elt.pair E64 (Elt.pair (Elt.slice E8) (Elt.pair E64 (Elt.pair EU64 (Elt.pair E64 E64))))))) A0 c0 l0 :: Cl b1 25 [.int .i64 a1.1, .int .u64 a1.2.1, .int .i64 a1.2.2.1, .int .i64 a1.2.2.2] :: Cl x2.1 69 [.int .i64 s5.1, .map (some x2.2.1), .slice x12.1.1 s5.2.2.1.length x12.1.2, .bool s5.2.2.2.1, .int .i64 s5.2.2.2.2.1, .int .i64 s5.2.2.2.2.2.1, .int .u64 s5.2.2.2.2.2.2.1, .int .i64 s5.2.2.2.2.2.2.2.1, .int .i64 s5.2.2.2.2.2.2.2.2.1] :: Mp (Elt.slice E8) x2.2.1 s5.2.1 :: Bf (Elt.pair E64 (Elt.slice E8)) 71 x12.1.1 x12.1.2 s5.2.2.1 :: Cl b2 30 (s5.2.2.2.2.2.2.2.2.2.1.map str) :: Cl b3 32 (heads x12.2 s5.2.2.2.2.2.2.2.2.2.2.1) :: Bfs EStr 9 x12.2 s5.2.2.2.2.2.2.2.2.2.2.1 :: hs) hl2 ((x2.2.2.1, x2.2.2.2), noAds) (fun K2 s5 x12 o2 he2 hm2 hx2 => ?_)))
    unfold law3_DiskKeeps.st2 at he2
    refine T.seq ?_
    refine T.seqJ (fun (s6 : Bool) (x13 : Unit) => [(0, .slice A0 l0.length c0), (3, .pointer (some ⟨b1, 0, none⟩)), (5, .pointer (some ⟨x2.1, 0, none⟩)), (7, .pointer (some ⟨b2, 0, none⟩)), (8, .pointer (some ⟨b3, 0, none⟩)), (9, .int .i64 s5.2.2.2.2.2.2.2.2.2.2.2), (34, .bool s6)]) (fun s6 x13 => Ro (Elt.pair E64 (Elt.pair E64 (Elt.pair E64 (Elt.pair (Elt.slice E8) (Elt.pair E64 (Elt.pair EU64 (Elt.pair E64 E64))))))) A0 c0 l0 :: Cl b1 25 [.int .i64 a1.1, .int .u64 a1.2.1, .int .i64 a1.2.2.1, .int .i64 a1.2.2.2] :: Cl x2.1 69 [.int .i64 s5.1, .map (some x2.2.1), .slice x12.1.1 s5.2.2.1.length x12.1.2, .bool s5.2.2.2.1, .int .i64 s5.2.2.2.2.1, .int .i64 s5.2.2.2.2.2.1, .int .u64 s5.2.2.2.2.2.2.1, .int .i64 s5.2.2.2.2.2.2.2.1, .int .i64 s5.2.2.2.2.2.2.2.2.1] :: Mp (Elt.slice E8) x2.2.1 s5.2.1 :: Bf (Elt.pair E64 (Elt.slice E8)) 71 x12.1.1 x12.1.2 s5.2.2.1 :: Cl b2 30 (s5.2.2.2.2.2.2.2.2.2.1.map str) :: Cl b3 32 (heads x12.2 s5.2.2.2.2.2.2.2.2.2.2.1) :: Bfs EStr 9 x12.2 s5.2.2.2.2.2.2.2.2.2.2.1 :: hs) (fun s6 => law3_DiskKeeps.k4 s5 l0 s6 = some o2) (fun s6 x13 hk4 => ?_) (fun J4 => ?_)
    ·unfold law3_DiskKeeps.k4 at hk4
     refine T.cond rfl (fun hb6 => ?_) (fun hb6 => ?_)
     ·replace hk4 := inv_posB hb6 hk4
      refine T.skip ?_
      refine T.then_normal ?_
      refine T.seqJ (fun (s7 : Int × (List (Int × (List UInt8))) × (List (Int × (List UInt8))) × Bool × Int × Int × Int × Int × Int × List (List UInt8) × List (List (List UInt8))) (x14 : (Option Addr × Nat) × (Ads)) => [(0, .slice A0 l0.length c0), (3, .pointer (some ⟨b1, 0, none⟩)), (5, .pointer (some ⟨x2.1, 0, none⟩)), (7, .pointer (some ⟨b2, 0, none⟩)), (8, .pointer (some ⟨b3, 0, none⟩)), (9, .int .i64 s5.2.2.2.2.2.2.2.2.2.2.2)]) (fun s7 x14 => Ro (Elt.pair E64 (Elt.pair E64 (Elt.pair E64 (Elt.pair (Elt.slice E8) (Elt.pair E64 (Elt.pair EU64 (Elt.pair E64 E64))))))) A0 c0 l0 :: Cl b1 25 [.int .i64 a1.1, .int .u64 a1.2.1, .int .i64 a1.2.2.1, .int .i64 a1.2.2.2] :: Cl x2.1 69 [.int .i64 s7.1, .map (some x2.2.1), .slice x14.1.1 s7.2.2.1.length x14.1.2, .bool s7.2.2.2.1, .int .i64 s7.2.2.2.2.1, .int .i64 s7.2.2.2.2.2.1, .int .u64 s7.2.2.2.2.2.2.1, .int .i64 s7.2.2.2.2.2.2.2.1, .int .i64 s7.2.2.2.2.2.2.2.2.1] :: Mp (Elt.slice E8) x2.2.1 s7.2.1 :: Bf (Elt.pair E64 (Elt.slice E8)) 71 x14.1.1 x14.1.2 s7.2.2.1 :: Cl b2 30 (s7.2.2.2.2.2.2.2.2.2.1.map str) :: Cl b3 32 (heads x14.2 s7.2.2.2.2.2.2.2.2.2.2) :: Bfs EStr 9 x14.2 s7.2.2.2.2.2.2.2.2.2.2 :: hs) (fun s7 => law3_DiskKeeps.k5 s5 s7 = some o2) (fun s7 x14 hk5 => ?_) (fun J5 => ?_)
      ·unfold law3_DiskKeeps.k5 at hk5
       refine T.region ?_
       refine T.move .list rfl (wants0 rfl) rfl rfl ?_
       refine T.bin .list rfl (wants0 rfl) rfl rfl rfl rfl ?_
       refine T.assign .list rfl (wants0 rfl) rfl rfl ?_
       refine T.nil ?_
       refine T.then_normal ?_
       obtain rfl := inv_some hk5
       exact T.le (EnvLe.cons rfl (EnvLe.cons rfl (EnvLe.cons rfl (EnvLe.cons rfl (EnvLe.cons rfl (EnvLe.cons rfl EnvLe.nil)))))) (T.pick [0, 1, 2, 3, 4, 5, 6, 7] 8 rfl rfl (Nat.le_add_left _ _) rfl (hm2 (s7.1, s7.2.1, s7.2.2.1, s7.2.2.2.1, s7.2.2.2.2.1, s7.2.2.2.2.2.1, s7.2.2.2.2.2.2.1, s7.2.2.2.2.2.2.2.1, s7.2.2.2.2.2.2.2.2.1, s7.2.2.2.2.2.2.2.2.2.1, s7.2.2.2.2.2.2.2.2.2.2, IntKind.i64.wrap (s5.2.2.2.2.2.2.2.2.2.2.2 + 1)) rfl ((x14.1.1, x14.1.2), x14.2)))
      ·refine T.block ?_
       refine T.seq ?_
       refine T.region ?_
       refine T.move .list rfl (wants0 rfl) rfl rfl ?_
       refine T.move .list rfl (wants0 rfl) rfl rfl ?_
       obtain ⟨hc5, hk4⟩ := inv_chk hk4
       refine T.idxRo .list 0 rfl rfl (wants0 rfl) rfl rfl rfl hc5.1 hc5.2 (Nat.le_refl _) ?_
       refine T.ldFRo 0 .list Fd.self (Sh.pair Sh.sc (Sh.pair Sh.sc (Sh.pair Sh.sc (Sh.pair Sh.slice (Sh.pair Sh.sc (Sh.pair Sh.sc (Sh.pair Sh.sc Sh.sc))))))) rfl (.inl rfl) rfl rfl hc5.1 hc5.2 rfl (wants0 rfl) rfl rfl rfl (v := fun x15 => .agg #[.int .i64 (((((l0).getD (s5.2.2.2.2.2.2.2.2.2.2.2 : Int).toNat default)).1)), .int .i64 (((((l0).getD (s5.2.2.2.2.2.2.2.2.2.2.2 : Int).toNat default)).2.1)), .int .i64 (((((l0).getD (s5.2.2.2.2.2.2.2.2.2.2.2 : Int).toNat default)).2.2.1)), .slice x15.2.2.2.1.1 ((((((l0).getD (s5.2.2.2.2.2.2.2.2.2.2.2 : Int).toNat default)).2.2.2.1)).length) x15.2.2.2.1.2, .int .i64 ((((((l0).getD (s5.2.2.2.2.2.2.2.2.2.2.2 : Int).toNat default)).2.2.2.2).1)), .int .u64 ((((((l0).getD (s5.2.2.2.2.2.2.2.2.2.2.2 : Int).toNat default)).2.2.2.2).2.1)), .int .i64 ((((((l0).getD (s5.2.2.2.2.2.2.2.2.2.2.2 : Int).toNat default)).2.2.2.2).2.2.1)), .int .i64 ((((((l0).getD (s5.2.2.2.2.2.2.2.2.2.2.2 : Int).toNat default)).2.2.2.2).2.2.2))]) (hs' := fun x15 => Ro E8 x15.2.2.2.1.1 x15.2.2.2.1.2 (((((l0).getD (s5.2.2.2.2.2.2.2.2.2.2.2 : Int).toNat default)).2.2.2.1)) :: Ro (Elt.pair E64 (Elt.pair E64 (Elt.pair E64 (Elt.pair (Elt.slice E8) (Elt.pair E64 (Elt.pair EU64 (Elt.pair E64 E64))))))) A0 c0 l0 :: Cl b1 25 [.int .i64 a1.1, .int .u64 a1.2.1, .int .i64 a1.2.2.1, .int .i64 a1.2.2.2] :: Cl x2.1 69 [.int .i64 s5.1, .map (some x2.2.1), .slice x12.1.1 s5.2.2.1.length x12.1.2, .bool s5.2.2.2.1, .int .i64 s5.2.2.2.2.1, .int .i64 s5.2.2.2.2.2.1, .int .u64 s5.2.2.2.2.2.2.1, .int .i64 s5.2.2.2.2.2.2.2.1, .int .i64 s5.2.2.2.2.2.2.2.2.1] :: Mp (Elt.slice E8) x2.2.1 s5.2.1 :: Bf (Elt.pair E64 (Elt.slice E8)) 71 x12.1.1 x12.1.2 s5.2.2.1 :: Cl b2 30 (s5.2.2.2.2.2.2.2.2.2.1.map str) :: Cl b3 32 (heads x12.2 s5.2.2.2.2.2.2.2.2.2.2.1) :: Bfs EStr 9 x12.2 s5.2.2.2.2.2.2.2.2.2.2.1 :: hs) (fun _ => rfl) (fun _ => rfl) (fun x15 => ?_)
       refine T.allocS .list rfl (wants0 rfl) rfl (cs := [.int .i64 0, .int .i64 0, .int .i64 0, .slice none 0 0, .int .i64 0, .int .u64 0, .int .i64 0, .int .i64 0]) rfl (fun b4 => ?_)
       refine T.store .list 0 rfl rfl (wants0 rfl) rfl rfl rfl rfl (Nat.le_of_ble_eq_true rfl) rfl (cs' := [.int .i64 (((((l0).getD (s5.2.2.2.2.2.2.2.2.2.2.2 : Int).toNat default)).1)), .int .i64 (((((l0).getD (s5.2.2.2.2.2.2.2.2.2.2.2 : Int).toNat default)).2.1)), .int .i64 (((((l0).getD (s5.2.2.2.2.2.2.2.2.2.2.2 : Int).toNat default)).2.2.1)), .slice x15.2.2.2.1.1 ((((((l0).getD (s5.2.2.2.2.2.2.2.2.2.2.2 : Int).toNat default)).2.2.2.1)).length) x15.2.2.2.1.2, .int .i64 ((((((l0).getD (s5.2.2.2.2.2.2.2.2.2.2.2 : Int).toNat default)).2.2.2.2).1)), .int .u64 ((((((l0).getD (s5.2.2.2.2.2.2.2.2.2.2.2 : Int).toNat default)).2.2.2.2).2.1)), .int .i64 ((((((l0).getD (s5.2.2.2.2.2.2.2.2.2.2.2 : Int).toNat default)).2.2.2.2).2.2.1)), .int .i64 ((((((l0).getD (s5.2.2.2.2.2.2.2.2.2.2.2 : Int).toNat default)).2.2.2.2).2.2.2))]) rfl rfl ?_
       refine T.nil ?_
       refine T.then_normal ?_
       refine T.seqJ (fun (s8 : Unit) (x16 : Unit) => [(0, .slice A0 l0.length c0), (3, .pointer (some ⟨b1, 0, none⟩)), (5, .pointer (some ⟨x2.1, 0, none⟩)), (7, .pointer (some ⟨b2, 0, none⟩)), (8, .pointer (some ⟨b3, 0, none⟩)), (9, .int .i64 s5.2.2.2.2.2.2.2.2.2.2.2), (10, .pointer (some ⟨b4, 0, none⟩))]) (fun s8 x16 => Ro (Elt.pair E64 (Elt.pair E64 (Elt.pair E64 (Elt.pair (Elt.slice E8) (Elt.pair E64 (Elt.pair EU64 (Elt.pair E64 E64))))))) A0 c0 l0 :: Cl b1 25 [.int .i64 a1.1, .int .u64 a1.2.1, .int .i64 a1.2.2.1, .int .i64 a1.2.2.2] :: Cl x2.1 69 [.int .i64 s5.1, .map (some x2.2.1), .slice x12.1.1 s5.2.2.1.length x12.1.2, .bool s5.2.2.2.1, .int .i64 s5.2.2.2.2.1, .int .i64 s5.2.2.2.2.2.1, .int .u64 s5.2.2.2.2.2.2.1, .int .i64 s5.2.2.2.2.2.2.2.1, .int .i64 s5.2.2.2.2.2.2.2.2.1] :: Mp (Elt.slice E8) x2.2.1 s5.2.1 :: Bf (Elt.pair E64 (Elt.slice E8)) 71 x12.1.1 x12.1.2 s5.2.2.1 :: Cl b2 30 (s5.2.2.2.2.2.2.2.2.2.1.map str) :: Cl b3 32 (heads x12.2 s5.2.2.2.2.2.2.2.2.2.2.1) :: Bfs EStr 9 x12.2 s5.2.2.2.2.2.2.2.2.2.2.1 :: Cl b4 35 [.int .i64 (((((l0).getD (s5.2.2.2.2.2.2.2.2.2.2.2 : Int).toNat default)).1)), .int .i64 (((((l0).getD (s5.2.2.2.2.2.2.2.2.2.2.2 : Int).toNat default)).2.1)), .int .i64 (((((l0).getD (s5.2.2.2.2.2.2.2.2.2.2.2 : Int).toNat default)).2.2.1)), .slice x15.2.2.2.1.1 ((((((l0).getD (s5.2.2.2.2.2.2.2.2.2.2.2 : Int).toNat default)).2.2.2.1)).length) x15.2.2.2.1.2, .int .i64 ((((((l0).getD (s5.2.2.2.2.2.2.2.2.2.2.2 : Int).toNat default)).2.2.2.2).1)), .int .u64 ((((((l0).getD (s5.2.2.2.2.2.2.2.2.2.2.2 : Int).toNat default)).2.2.2.2).2.1)), .int .i64 ((((((l0).getD (s5.2.2.2.2.2.2.2.2.2.2.2 : Int).toNat default)).2.2.2.2).2.2.1)), .int .i64 ((((((l0).getD (s5.2.2.2.2.2.2.2.2.2.2.2 : Int).toNat default)).2.2.2.2).2.2.2))] :: Ro E8 x15.2.2.2.1.1 x15.2.2.2.1.2 (((((l0).getD (s5.2.2.2.2.2.2.2.2.2.2.2 : Int).toNat default)).2.2.2.1)) :: hs) (fun s8 => law3_DiskKeeps.k6 l0 s5 s8 = some o2) (fun s8 x16 hk6 => ?_) (fun J6 => ?_)
       ·unfold law3_DiskKeeps.k6 at hk6
        refine T.seq ?_
        refine T.region ?_
        refine T.field .list rfl (wants0 rfl) rfl rfl ?_
        refine T.load .list 8 rfl rfl (wants0 rfl) rfl rfl rfl ?_
        refine T.bin .list rfl (wants0 rfl) rfl rfl rfl rfl ?_
        refine T.assign .list rfl (wants0 rfl) rfl rfl ?_
        refine T.nil ?_
        refine T.then_normal ?_
        refine T.seq ?_
        refine T.region ?_
        refine T.field .list rfl (wants0 rfl) rfl rfl ?_
        refine T.load .list 8 rfl rfl (wants0 rfl) rfl rfl rfl ?_
        refine T.field .list rfl (wants0 rfl) rfl rfl ?_
        refine T.load .list 8 rfl rfl (wants0 rfl) rfl rfl rfl ?_
        refine T.lenSlice .list rfl (wants0 rfl) rfl rfl ?_
        refine T.min2 .list rfl (wants0 rfl) rfl rfl rfl ?_
        obtain ⟨hc6, hk6⟩ := inv_chk hk6
        refine T.cut0 .list 9 rfl rfl rfl (wants0 rfl) rfl rfl (.inl rfl) (.inr ⟨_, _, rfl, rfl⟩) hc6.1 hc6.2 ?_
        refine T.strRo .list 0 rfl rfl (wants0 rfl) rfl rfl rfl ?_
        refine T.assign .list rfl (wants0 rfl) rfl rfl ?_
        refine T.nil ?_
        refine T.then_normal ?_
        refine T.seq ?_
        refine T.seq ?_
        refine T.region ?_
        refine T.move .list rfl (wants0 rfl) rfl rfl ?_
        refine T.move .list rfl (wants0 rfl) rfl rfl ?_
        refine T.move .list rfl (wants0 rfl) rfl rfl ?_
        refine T.bytesOf .list rfl (wants0 rfl) rfl (l := (subl (((((l0).getD (s5.2.2.2.2.2.2.2.2.2.2.2 : Int).toNat default)).2.2.2.1)) 0 (min (((((((l0).getD (s5.2.2.2.2.2.2.2.2.2.2.2 : Int).toNat default)).2.2.2.1)).length : Int)) 40))) rfl (fun q1 => ?_)
        refine T.pick [4, 5, 6, 0, 1, 2, 3, 7, 8, 9, 10, 11] 12 rfl rfl (Nat.le_add_left _ _) (hs' := Cl x2.1 69 [.int .i64 s5.1, .map (some x2.2.1), .slice x12.1.1 s5.2.2.1.length x12.1.2, .bool s5.2.2.2.1, .int .i64 s5.2.2.2.2.1, .int .i64 s5.2.2.2.2.2.1, .int .u64 s5.2.2.2.2.2.2.1, .int .i64 s5.2.2.2.2.2.2.2.1, .int .i64 s5.2.2.2.2.2.2.2.2.1] :: Mp (Elt.slice E8) x2.2.1 s5.2.1 :: Bf (Elt.pair E64 (Elt.slice E8)) 71 x12.1.1 x12.1.2 s5.2.2.1 :: Ro E8 (some ⟨q1.1, 0, none⟩) q1.2 (subl (((((l0).getD (s5.2.2.2.2.2.2.2.2.2.2.2 : Int).toNat default)).2.2.2.1)) 0 (min (((((((l0).getD (s5.2.2.2.2.2.2.2.2.2.2.2 : Int).toNat default)).2.2.2.1)).length : Int)) 40)) :: Ro E8 x15.2.2.2.1.1 x15.2.2.2.1.2 (subl (((((l0).getD (s5.2.2.2.2.2.2.2.2.2.2.2 : Int).toNat default)).2.2.2.1)) 0 (min (((((((l0).getD (s5.2.2.2.2.2.2.2.2.2.2.2 : Int).toNat default)).2.2.2.1)).length : Int)) 40)) :: Ro (Elt.pair E64 (Elt.pair E64 (Elt.pair E64 (Elt.pair (Elt.slice E8) (Elt.pair E64 (Elt.pair EU64 (Elt.pair E64 E64))))))) A0 c0 l0 :: Cl b1 25 [.int .i64 a1.1, .int .u64 a1.2.1, .int .i64 a1.2.2.1, .int .i64 a1.2.2.2] :: Cl b2 30 (s5.2.2.2.2.2.2.2.2.2.1.map str) :: Cl b3 32 (heads x12.2 s5.2.2.2.2.2.2.2.2.2.2.1) :: Bfs EStr 9 x12.2 s5.2.2.2.2.2.2.2.2.2.2.1 :: Cl b4 35 [.int .i64 (((((l0).getD (s5.2.2.2.2.2.2.2.2.2.2.2 : Int).toNat default)).1)), .int .i64 (((((l0).getD (s5.2.2.2.2.2.2.2.2.2.2.2 : Int).toNat default)).2.1)), .int .i64 (((((l0).getD (s5.2.2.2.2.2.2.2.2.2.2.2 : Int).toNat default)).2.2.1)), .slice x15.2.2.2.1.1 ((((((l0).getD (s5.2.2.2.2.2.2.2.2.2.2.2 : Int).toNat default)).2.2.2.1)).length) x15.2.2.2.1.2, .int .i64 ((((((l0).getD (s5.2.2.2.2.2.2.2.2.2.2.2 : Int).toNat default)).2.2.2.2).1)), .int .u64 ((((((l0).getD (s5.2.2.2.2.2.2.2.2.2.2.2 : Int).toNat default)).2.2.2.2).2.1)), .int .i64 ((((((l0).getD (s5.2.2.2.2.2.2.2.2.2.2.2 : Int).toNat default)).2.2.2.2).2.2.1)), .int .i64 ((((((l0).getD (s5.2.2.2.2.2.2.2.2.2.2.2 : Int).toNat default)).2.2.2.2).2.2.2))] :: Ro E8 x15.2.2.2.1.1 x15.2.2.2.1.2 (((((l0).getD (s5.2.2.2.2.2.2.2.2.2.2.2 : Int).toNat default)).2.2.2.1)) :: hs) rfl ?_
        obtain ⟨r7, hg7, hk6⟩ := inv_bind hk6
        refine T.call .list (wants0 rfl) rfl (run_callF (vs := [_, _, _]) rfl Try.func11 rfl (by decide) rfl) (fun w hS => disk_Disk_Write.c hS (i2 := 3) (o0 := (s5.1, s5.2.2.2.1, s5.2.2.2.2.1, s5.2.2.2.2.2.1, s5.2.2.2.2.2.2.1, s5.2.2.2.2.2.2.2.1, s5.2.2.2.2.2.2.2.2.1)) (q0b := s5.2.1) (q0c := s5.2.2.1) rfl hg7) (fun x17 => ?_)
        refine T.bin .list rfl (wants0 rfl) rfl rfl rfl rfl ?_
        refine T.nil ?_
        refine T.then_normal ?_
        refine T.cond rfl (fun hb7 => ?_) (fun hb7 => ?_)
        ·replace hk6 := inv_posB hb7 hk6
         refine T.seq ?_
         refine T.region ?_
         refine T.assign .list rfl (wants0 rfl) rfl rfl ?_
         refine T.nil ?_
         refine T.then_normal ?_
         refine T.ret ?_
         refine T.then_ret ?_
         refine T.in_ret ?_
         refine T.then_ret ?_
         refine T.then_ret ?_
         obtain rfl := inv_some hk6
         obtain rfl := hx2 _ rfl
         refine T.in_ret ?_
         refine T.then_ret ?_
         obtain rfl := inv_some hr
         refine T.pick [] 12 rfl rfl (Nat.le_add_left _ _) rfl ?_
         refine T.ret1 rfl rfl (fun w hS => ⟨(), rfl, hS⟩)
        ·replace hk6 := inv_negB hb7 hk6
         refine T.skip ?_
         refine T.then_normal ?_
         refine T.region ?_
         refine T.move .list rfl (wants0 rfl) rfl rfl ?_
         refine T.move .list rfl (wants0 rfl) rfl rfl ?_
         obtain ⟨hc7, hk6⟩ := inv_chk hk6
         refine T.idxArr .list rfl (wants0 rfl) rfl rfl rfl hc7.1 hc7.2 ?_
         obtain ⟨hc8, hk6⟩ := inv_chk hk6
         refine T.ldOw .list 8 rfl rfl (wants0 rfl) rfl rfl hc8 ?_
         refine T.focus 9 ((0 + (bitsOf .and .i64 (((((l0).getD (s5.2.2.2.2.2.2.2.2.2.2.2 : Int).toNat default)).2.1)) 3 : Int).toNat * 1)) rfl hc8 rfl ?_
         refine T.move .list rfl (wants0 rfl) rfl rfl ?_
         refine T.lit (E := EStr) .list (vals := [(0, str (subl (((((l0).getD (s5.2.2.2.2.2.2.2.2.2.2.2 : Int).toNat default)).2.2.2.1)) 0 (min (((((((l0).getD (s5.2.2.2.2.2.2.2.2.2.2.2 : Int).toNat default)).2.2.2.1)).length : Int)) 40)))]) (cells := #[str (subl (((((l0).getD (s5.2.2.2.2.2.2.2.2.2.2.2 : Int).toNat default)).2.2.2.1)) 0 (min (((((((l0).getD (s5.2.2.2.2.2.2.2.2.2.2.2 : Int).toNat default)).2.2.2.1)).length : Int)) 40))]) rfl (wants0 rfl) rfl rfl rfl rfl rfl (by kernel_rfl) ([(subl (((((l0).getD (s5.2.2.2.2.2.2.2.2.2.2.2 : Int).toNat default)).2.2.2.1)) 0 (min (((((((l0).getD (s5.2.2.2.2.2.2.2.2.2.2.2 : Int).toNat default)).2.2.2.1)).length : Int)) 40))] : List (List UInt8)) rfl (fun _ _ _ _ _ => (Encs.c1 (enc := str) (h1 := fun _ => rfl) rfl rfl)) (fun b5 => ?_)
         obtain ⟨hc9, hk6⟩ := inv_chk hk6
         refine T.appBf .list 1 0 rfl rfl rfl rfl rfl (wants0 rfl) rfl rfl rfl rfl rfl rfl hc9 (fun _ _ => rfl) (fun A3 c3 => ?_)
         obtain ⟨hc10, hk6⟩ := inv_chk hk6
         refine T.idxArr .list rfl (wants0 rfl) rfl rfl rfl hc10.1 hc10.2 ?_
         obtain ⟨hc11, hk6⟩ := inv_chk hk6
         refine T.stOw .list 10 (l := (((s5.2.2.2.2.2.2.2.2.2.2.1.getD ((0 + (bitsOf .and .i64 (((((l0).getD (s5.2.2.2.2.2.2.2.2.2.2.2 : Int).toNat default)).2.1)) 3 : Int).toNat * 1)) default)) ++ (([(subl (((((l0).getD (s5.2.2.2.2.2.2.2.2.2.2.2 : Int).toNat default)).2.2.2.1)) 0 (min (((((((l0).getD (s5.2.2.2.2.2.2.2.2.2.2.2 : Int).toNat default)).2.2.2.1)).length : Int)) 40))] : List (List UInt8))))) rfl rfl (wants0 rfl) rfl rfl rfl rfl hc11 rfl ?_
         refine T.pick [1, 11, 0, 2, 3, 4, 5, 6, 7, 8, 9, 10, 12, 13] 14 rfl rfl (Nat.le_add_left _ _) (hs' := Bf EStr 9 A3 c3 ((((s5.2.2.2.2.2.2.2.2.2.2.1.getD ((0 + (bitsOf .and .i64 (((((l0).getD (s5.2.2.2.2.2.2.2.2.2.2.2 : Int).toNat default)).2.1)) 3 : Int).toNat * 1)) default)) ++ (([(subl (((((l0).getD (s5.2.2.2.2.2.2.2.2.2.2.2 : Int).toNat default)).2.2.2.1)) 0 (min (((((((l0).getD (s5.2.2.2.2.2.2.2.2.2.2.2 : Int).toNat default)).2.2.2.1)).length : Int)) 40))] : List (List UInt8))))) :: Bfs EStr 9 (upd x12.2 ((0 + (bitsOf .and .i64 (((((l0).getD (s5.2.2.2.2.2.2.2.2.2.2.2 : Int).toNat default)).2.1)) 3 : Int).toNat * 1)) (none, 0)) (s5.2.2.2.2.2.2.2.2.2.2.1.set ((0 + (bitsOf .and .i64 (((((l0).getD (s5.2.2.2.2.2.2.2.2.2.2.2 : Int).toNat default)).2.1)) 3 : Int).toNat * 1)) []) :: Bf EStr 9 (some ⟨b5, 0, none⟩) 1 (([(subl (((((l0).getD (s5.2.2.2.2.2.2.2.2.2.2.2 : Int).toNat default)).2.2.2.1)) 0 (min (((((((l0).getD (s5.2.2.2.2.2.2.2.2.2.2.2 : Int).toNat default)).2.2.2.1)).length : Int)) 40))] : List (List UInt8))) :: Cl x2.1 69 [.int .i64 r7.2.1.1, .map (some x2.2.1), .slice x17.1 r7.2.2.2.length x17.2, .bool r7.2.1.2.1, .int .i64 r7.2.1.2.2.1, .int .i64 r7.2.1.2.2.2.1, .int .u64 r7.2.1.2.2.2.2.1, .int .i64 r7.2.1.2.2.2.2.2.1, .int .i64 r7.2.1.2.2.2.2.2.2] :: Mp (Elt.slice E8) x2.2.1 r7.2.2.1 :: Bf (Elt.pair E64 (Elt.slice E8)) 71 x17.1 x17.2 r7.2.2.2 :: Ro E8 (some ⟨q1.1, 0, none⟩) q1.2 (subl (((((l0).getD (s5.2.2.2.2.2.2.2.2.2.2.2 : Int).toNat default)).2.2.2.1)) 0 (min (((((((l0).getD (s5.2.2.2.2.2.2.2.2.2.2.2 : Int).toNat default)).2.2.2.1)).length : Int)) 40)) :: Ro E8 x15.2.2.2.1.1 x15.2.2.2.1.2 (subl (((((l0).getD (s5.2.2.2.2.2.2.2.2.2.2.2 : Int).toNat default)).2.2.2.1)) 0 (min (((((((l0).getD (s5.2.2.2.2.2.2.2.2.2.2.2 : Int).toNat default)).2.2.2.1)).length : Int)) 40)) :: Ro (Elt.pair E64 (Elt.pair E64 (Elt.pair E64 (Elt.pair (Elt.slice E8) (Elt.pair E64 (Elt.pair EU64 (Elt.pair E64 E64))))))) A0 c0 l0 :: Cl b1 25 [.int .i64 a1.1, .int .u64 a1.2.1, .int .i64 a1.2.2.1, .int .i64 a1.2.2.2] :: Cl b2 30 (s5.2.2.2.2.2.2.2.2.2.1.map str) :: Cl b3 32 (heads ((upd x12.2 ((0 + (bitsOf .and .i64 (((((l0).getD (s5.2.2.2.2.2.2.2.2.2.2.2 : Int).toNat default)).2.1)) 3 : Int).toNat * 1)) (A3, c3))) ((s5.2.2.2.2.2.2.2.2.2.2.1.set ((0 + (bitsOf .and .i64 (((((l0).getD (s5.2.2.2.2.2.2.2.2.2.2.2 : Int).toNat default)).2.1)) 3 : Int).toNat * 1)) ((((s5.2.2.2.2.2.2.2.2.2.2.1.getD ((0 + (bitsOf .and .i64 (((((l0).getD (s5.2.2.2.2.2.2.2.2.2.2.2 : Int).toNat default)).2.1)) 3 : Int).toNat * 1)) default)) ++ (([(subl (((((l0).getD (s5.2.2.2.2.2.2.2.2.2.2.2 : Int).toNat default)).2.2.2.1)) 0 (min (((((((l0).getD (s5.2.2.2.2.2.2.2.2.2.2.2 : Int).toNat default)).2.2.2.1)).length : Int)) 40))] : List (List UInt8)))))))) :: Cl b4 35 [.int .i64 (((((l0).getD (s5.2.2.2.2.2.2.2.2.2.2.2 : Int).toNat default)).1)), .int .i64 (((((l0).getD (s5.2.2.2.2.2.2.2.2.2.2.2 : Int).toNat default)).2.1)), .int .i64 (((((l0).getD (s5.2.2.2.2.2.2.2.2.2.2.2 : Int).toNat default)).2.2.1)), .slice x15.2.2.2.1.1 ((((((l0).getD (s5.2.2.2.2.2.2.2.2.2.2.2 : Int).toNat default)).2.2.2.1)).length) x15.2.2.2.1.2, .int .i64 ((((((l0).getD (s5.2.2.2.2.2.2.2.2.2.2.2 : Int).toNat default)).2.2.2.2).1)), .int .u64 ((((((l0).getD (s5.2.2.2.2.2.2.2.2.2.2.2 : Int).toNat default)).2.2.2.2).2.1)), .int .i64 ((((((l0).getD (s5.2.2.2.2.2.2.2.2.2.2.2 : Int).toNat default)).2.2.2.2).2.2.1)), .int .i64 ((((((l0).getD (s5.2.2.2.2.2.2.2.2.2.2.2 : Int).toNat default)).2.2.2.2).2.2.2))] :: Ro E8 x15.2.2.2.1.1 x15.2.2.2.1.2 (((((l0).getD (s5.2.2.2.2.2.2.2.2.2.2.2 : Int).toNat default)).2.2.2.1)) :: hs) rfl ?_
         refine T.fillIn ((0 + (bitsOf .and .i64 (((((l0).getD (s5.2.2.2.2.2.2.2.2.2.2.2 : Int).toNat default)).2.1)) 3 : Int).toNat * 1)) hc11 ?_
         refine T.nil ?_
         refine T.in_normal ?_
         refine T.then_normal ?_
         exact T.le (EnvLe.cons rfl (EnvLe.cons rfl (EnvLe.cons rfl (EnvLe.cons rfl (EnvLe.cons rfl (EnvLe.cons rfl EnvLe.nil)))))) (T.pick [7, 8, 2, 3, 4, 9, 10, 0] 13 rfl rfl (Nat.le_add_left _ _) rfl (J5 (r7.2.1.1, r7.2.2.1, r7.2.2.2, r7.2.1.2.1, r7.2.1.2.2.1, r7.2.1.2.2.2.1, r7.2.1.2.2.2.2.1, r7.2.1.2.2.2.2.2.1, r7.2.1.2.2.2.2.2.2, s5.2.2.2.2.2.2.2.2.2.1, (s5.2.2.2.2.2.2.2.2.2.2.1.set ((0 + (bitsOf .and .i64 (((((l0).getD (s5.2.2.2.2.2.2.2.2.2.2.2 : Int).toNat default)).2.1)) 3 : Int).toNat * 1)) ((((s5.2.2.2.2.2.2.2.2.2.2.1.getD ((0 + (bitsOf .and .i64 (((((l0).getD (s5.2.2.2.2.2.2.2.2.2.2.2 : Int).toNat default)).2.1)) 3 : Int).toNat * 1)) default)) ++ (([(subl (((((l0).getD (s5.2.2.2.2.2.2.2.2.2.2.2 : Int).toNat default)).2.2.2.1)) 0 (min (((((((l0).getD (s5.2.2.2.2.2.2.2.2.2.2.2 : Int).toNat default)).2.2.2.1)).length : Int)) 40))] : List (List UInt8))))))) ((x17.1, x17.2), (upd x12.2 ((0 + (bitsOf .and .i64 (((((l0).getD (s5.2.2.2.2.2.2.2.2.2.2.2 : Int).toNat default)).2.1)) 3 : Int).toNat * 1)) (A3, c3))) hk6))
       ·refine T.seq ?_
        refine T.region ?_
        refine T.field .list rfl (wants0 rfl) rfl rfl ?_
        refine T.load .list 0 rfl rfl (wants0 rfl) rfl rfl rfl ?_
        refine T.bin .list rfl (wants0 rfl) rfl rfl rfl rfl ?_
        refine T.nil ?_
        refine T.then_normal ?_
        refine T.cond rfl (fun hb8 => ?_) (fun hb8 => ?_)
        ·replace hk4 := inv_posB hb8 hk4
         refine T.seq ?_
         refine T.seq ?_
         refine T.region ?_
         refine T.move .list rfl (wants0 rfl) rfl rfl ?_
         refine T.pick [4, 5, 6, 0, 1, 2, 3, 7, 8, 9] 10 rfl rfl (Nat.le_add_left _ _) (hs' := Cl x2.1 69 [.int .i64 s5.1, .map (some x2.2.1), .slice x12.1.1 s5.2.2.1.length x12.1.2, .bool s5.2.2.2.1, .int .i64 s5.2.2.2.2.1, .int .i64 s5.2.2.2.2.2.1, .int .u64 s5.2.2.2.2.2.2.1, .int .i64 s5.2.2.2.2.2.2.2.1, .int .i64 s5.2.2.2.2.2.2.2.2.1] :: Mp (Elt.slice E8) x2.2.1 s5.2.1 :: Bf (Elt.pair E64 (Elt.slice E8)) 71 x12.1.1 x12.1.2 s5.2.2.1 :: Cl b4 35 [.int .i64 (((((l0).getD (s5.2.2.2.2.2.2.2.2.2.2.2 : Int).toNat default)).1)), .int .i64 (((((l0).getD (s5.2.2.2.2.2.2.2.2.2.2.2 : Int).toNat default)).2.1)), .int .i64 (((((l0).getD (s5.2.2.2.2.2.2.2.2.2.2.2 : Int).toNat default)).2.2.1)), .slice x15.2.2.2.1.1 ((((((l0).getD (s5.2.2.2.2.2.2.2.2.2.2.2 : Int).toNat default)).2.2.2.1)).length) x15.2.2.2.1.2, .int .i64 ((((((l0).getD (s5.2.2.2.2.2.2.2.2.2.2.2 : Int).toNat default)).2.2.2.2).1)), .int .u64 ((((((l0).getD (s5.2.2.2.2.2.2.2.2.2.2.2 : Int).toNat default)).2.2.2.2).2.1)), .int .i64 ((((((l0).getD (s5.2.2.2.2.2.2.2.2.2.2.2 : Int).toNat default)).2.2.2.2).2.2.1)), .int .i64 ((((((l0).getD (s5.2.2.2.2.2.2.2.2.2.2.2 : Int).toNat default)).2.2.2.2).2.2.2))] :: Ro E8 x15.2.2.2.1.1 x15.2.2.2.1.2 (((((l0).getD (s5.2.2.2.2.2.2.2.2.2.2.2 : Int).toNat default)).2.2.2.1)) :: Ro (Elt.pair E64 (Elt.pair E64 (Elt.pair E64 (Elt.pair (Elt.slice E8) (Elt.pair E64 (Elt.pair EU64 (Elt.pair E64 E64))))))) A0 c0 l0 :: Cl b1 25 [.int .i64 a1.1, .int .u64 a1.2.1, .int .i64 a1.2.2.1, .int .i64 a1.2.2.2] :: Cl b2 30 (s5.2.2.2.2.2.2.2.2.2.1.map str) :: Cl b3 32 (heads x12.2 s5.2.2.2.2.2.2.2.2.2.2.1) :: Bfs EStr 9 x12.2 s5.2.2.2.2.2.2.2.2.2.2.1 :: hs) rfl ?_
         obtain ⟨r8, hg8, hk4⟩ := inv_bind hk4
         refine T.call .list (wants0 rfl) rfl (run_callF (vs := [_]) rfl Try.func10 rfl (by decide) rfl) (fun w hS => disk_Disk_Flush.c hS (o0 := (s5.1, s5.2.2.2.1, s5.2.2.2.2.1, s5.2.2.2.2.2.1, s5.2.2.2.2.2.2.1, s5.2.2.2.2.2.2.2.1, s5.2.2.2.2.2.2.2.2.1)) (q0b := s5.2.1) (q0c := s5.2.2.1)  hg8) (fun x18 => ?_)
         refine T.bin .list rfl (wants0 rfl) rfl rfl rfl rfl ?_
         refine T.nil ?_
         refine T.then_normal ?_
         refine T.cond rfl (fun hb9 => ?_) (fun hb9 => ?_)
         ·replace hk4 := inv_posB hb9 hk4
          refine T.seq ?_
          refine T.region ?_
          refine T.assign .list rfl (wants0 rfl) rfl rfl ?_
          refine T.nil ?_
          refine T.then_normal ?_
          refine T.ret ?_
          refine T.then_ret ?_
          refine T.then_ret ?_
          refine T.in_ret ?_
          refine T.then_ret ?_
          refine T.then_ret ?_
          obtain rfl := inv_some hk4
          obtain rfl := hx2 _ rfl
          refine T.in_ret ?_
          refine T.then_ret ?_
          obtain rfl := inv_some hr
          refine T.pick [] 10 rfl rfl (Nat.le_add_left _ _) rfl ?_
          refine T.ret1 rfl rfl (fun w hS => ⟨(), rfl, hS⟩)
         ·replace hk4 := inv_negB hb9 hk4
          refine T.skip ?_
          refine T.then_normal ?_
          refine T.seqJ (fun (s9 : List (List UInt8) × List (List (List UInt8))) (x19 : (Ads)) => [(0, .slice A0 l0.length c0), (3, .pointer (some ⟨b1, 0, none⟩)), (5, .pointer (some ⟨x2.1, 0, none⟩)), (7, .pointer (some ⟨b2, 0, none⟩)), (8, .pointer (some ⟨b3, 0, none⟩)), (9, .int .i64 s5.2.2.2.2.2.2.2.2.2.2.2)]) (fun s9 x19 => Ro (Elt.pair E64 (Elt.pair E64 (Elt.pair E64 (Elt.pair (Elt.slice E8) (Elt.pair E64 (Elt.pair EU64 (Elt.pair E64 E64))))))) A0 c0 l0 :: Cl b1 25 [.int .i64 a1.1, .int .u64 a1.2.1, .int .i64 a1.2.2.1, .int .i64 a1.2.2.2] :: Cl x2.1 69 [.int .i64 r8.2.1.1, .map (some x2.2.1), .slice x18.1 r8.2.2.2.length x18.2, .bool r8.2.1.2.1, .int .i64 r8.2.1.2.2.1, .int .i64 r8.2.1.2.2.2.1, .int .u64 r8.2.1.2.2.2.2.1, .int .i64 r8.2.1.2.2.2.2.2.1, .int .i64 r8.2.1.2.2.2.2.2.2] :: Mp (Elt.slice E8) x2.2.1 r8.2.2.1 :: Bf (Elt.pair E64 (Elt.slice E8)) 71 x18.1 x18.2 r8.2.2.2 :: Cl b2 30 (s9.1.map str) :: Cl b3 32 (heads x19 s9.2) :: Bfs EStr 9 x19 s9.2 :: hs) (fun s9 => law3_DiskKeeps.k7 s5 r8 s9 = some o2) (fun s9 x19 hk7 => ?_) (fun J7 => ?_)
          ·unfold law3_DiskKeeps.k7 at hk7
           refine T.exit ?_
           refine T.then_exit ?_
           refine T.in_hit ?_
           refine T.then_normal ?_
           exact T.le (EnvLe.cons rfl (EnvLe.cons rfl (EnvLe.cons rfl (EnvLe.cons rfl (EnvLe.cons rfl (EnvLe.cons rfl EnvLe.nil)))))) (T.pick [0, 1, 2, 3, 4, 5, 6, 7] 8 rfl rfl (Nat.le_add_left _ _) rfl (J5 (r8.2.1.1, r8.2.2.1, r8.2.2.2, r8.2.1.2.1, r8.2.1.2.2.1, r8.2.1.2.2.2.1, r8.2.1.2.2.2.2.1, r8.2.1.2.2.2.2.2.1, r8.2.1.2.2.2.2.2.2, s9.1, s9.2) ((x18.1, x18.2), x19) hk7))
          ·refine T.seq ?_
           refine T.region ?_
           refine T.assign .list rfl (wants0 rfl) rfl rfl ?_
           refine T.nil ?_
           refine T.then_normal ?_
           refine T.block ?_
           obtain ⟨e3, hl3, hk4⟩ := inv_bind hk4
           refine T.le (EnvLe.cons rfl (EnvLe.cons rfl (EnvLe.cons rfl (EnvLe.cons rfl (EnvLe.cons rfl (EnvLe.cons rfl (EnvLe.cons rfl EnvLe.nil))))))) (T.pick [5, 6, 0, 1, 2, 7, 8, 9] 10 rfl rfl (Nat.le_add_left _ _) rfl (T.loop (s0 := (s5.2.2.2.2.2.2.2.2.2.1, s5.2.2.2.2.2.2.2.2.2.2.1, 0)) (env := fun s10 x20 => [(0, .slice A0 l0.length c0), (3, .pointer (some ⟨b1, 0, none⟩)), (5, .pointer (some ⟨x2.1, 0, none⟩)), (7, .pointer (some ⟨b2, 0, none⟩)), (8, .pointer (some ⟨b3, 0, none⟩)), (9, .int .i64 s5.2.2.2.2.2.2.2.2.2.2.2), (11, .int .i64 s10.2.2)]) (hs := fun (s10 : List (List UInt8) × List (List (List UInt8)) × Int) (x20 : (Ads)) => Ro (Elt.pair E64 (Elt.pair E64 (Elt.pair E64 (Elt.pair (Elt.slice E8) (Elt.pair E64 (Elt.pair EU64 (Elt.pair E64 E64))))))) A0 c0 l0 :: Cl b1 25 [.int .i64 a1.1, .int .u64 a1.2.1, .int .i64 a1.2.2.1, .int .i64 a1.2.2.2] :: Cl x2.1 69 [.int .i64 r8.2.1.1, .map (some x2.2.1), .slice x18.1 r8.2.2.2.length x18.2, .bool r8.2.1.2.1, .int .i64 r8.2.1.2.2.1, .int .i64 r8.2.1.2.2.2.1, .int .u64 r8.2.1.2.2.2.2.1, .int .i64 r8.2.1.2.2.2.2.2.1, .int .i64 r8.2.1.2.2.2.2.2.2] :: Mp (Elt.slice E8) x2.2.1 r8.2.2.1 :: Bf (Elt.pair E64 (Elt.slice E8)) 71 x18.1 x18.2 r8.2.2.2 :: Cl b2 30 (s10.1.map str) :: Cl b3 32 (heads x20 s10.2.1) :: Bfs EStr 9 x20 s10.2.1 :: hs) hl3 x12.2 (fun K3 s10 x20 o3 he3 hm3 hx3 => ?_)))
           unfold law3_DiskKeeps.st3 at he3
           refine T.seq ?_
           refine T.seq ?_
           refine T.region ?_
           refine T.move .list rfl (wants0 rfl) rfl rfl ?_
           refine T.bin .list rfl (wants0 rfl) rfl rfl rfl rfl ?_
           refine T.nil ?_
           refine T.then_normal ?_
           refine T.cond rfl (fun hb10 => ?_) (fun hb10 => ?_)
           ·replace he3 := inv_posB hb10 he3
            refine T.skip ?_
            refine T.then_normal ?_
            refine T.seq ?_
            refine T.block ?_
            refine T.seqJ (fun (s11 : List (List UInt8)) (x21 : Unit) => [(0, .slice A0 l0.length c0), (3, .pointer (some ⟨b1, 0, none⟩)), (5, .pointer (some ⟨x2.1, 0, none⟩)), (7, .pointer (some ⟨b2, 0, none⟩)), (8, .pointer (some ⟨b3, 0, none⟩)), (9, .int .i64 s5.2.2.2.2.2.2.2.2.2.2.2), (11, .int .i64 s10.2.2)]) (fun s11 x21 => Ro (Elt.pair E64 (Elt.pair E64 (Elt.pair E64 (Elt.pair (Elt.slice E8) (Elt.pair E64 (Elt.pair EU64 (Elt.pair E64 E64))))))) A0 c0 l0 :: Cl b1 25 [.int .i64 a1.1, .int .u64 a1.2.1, .int .i64 a1.2.2.1, .int .i64 a1.2.2.2] :: Cl x2.1 69 [.int .i64 r8.2.1.1, .map (some x2.2.1), .slice x18.1 r8.2.2.2.length x18.2, .bool r8.2.1.2.1, .int .i64 r8.2.1.2.2.1, .int .i64 r8.2.1.2.2.2.1, .int .u64 r8.2.1.2.2.2.2.1, .int .i64 r8.2.1.2.2.2.2.2.1, .int .i64 r8.2.1.2.2.2.2.2.2] :: Mp (Elt.slice E8) x2.2.1 r8.2.2.1 :: Bf (Elt.pair E64 (Elt.slice E8)) 71 x18.1 x18.2 r8.2.2.2 :: Cl b2 30 (s11.map str) :: Cl b3 32 (heads x20 s10.2.1) :: Bfs EStr 9 x20 s10.2.1 :: hs) (fun s11 => law3_DiskKeeps.k8 s10 s11 = some o3) (fun s11 x21 hk8 => ?_) (fun J8 => ?_)
            ·unfold law3_DiskKeeps.k8 at hk8
             refine T.region ?_
             refine T.move .list rfl (wants0 rfl) rfl rfl ?_
             obtain ⟨hc12, hk8⟩ := inv_chk hk8
             refine T.idxArr .list rfl (wants0 rfl) rfl rfl rfl hc12.1 hc12.2 ?_
             obtain ⟨hc13, hk8⟩ := inv_chk hk8
             refine T.focus 7 ((0 + (s10.2.2 : Int).toNat * 1)) rfl hc13 rfl ?_
             refine T.stOw .list 7 (l := ([] : List (List UInt8))) rfl rfl (wants0 rfl) rfl rfl rfl rfl hc13 rfl ?_
             refine T.pick [1, 2, 3, 4, 5, 6, 7, 8] 9 rfl rfl (Nat.le_add_left _ _) (hs' := Ro (Elt.pair E64 (Elt.pair E64 (Elt.pair E64 (Elt.pair (Elt.slice E8) (Elt.pair E64 (Elt.pair EU64 (Elt.pair E64 E64))))))) A0 c0 l0 :: Cl b1 25 [.int .i64 a1.1, .int .u64 a1.2.1, .int .i64 a1.2.2.1, .int .i64 a1.2.2.2] :: Cl x2.1 69 [.int .i64 r8.2.1.1, .map (some x2.2.1), .slice x18.1 r8.2.2.2.length x18.2, .bool r8.2.1.2.1, .int .i64 r8.2.1.2.2.1, .int .i64 r8.2.1.2.2.2.1, .int .u64 r8.2.1.2.2.2.2.1, .int .i64 r8.2.1.2.2.2.2.2.1, .int .i64 r8.2.1.2.2.2.2.2.2] :: Mp (Elt.slice E8) x2.2.1 r8.2.2.1 :: Bf (Elt.pair E64 (Elt.slice E8)) 71 x18.1 x18.2 r8.2.2.2 :: Cl b2 30 (s11.map str) :: Cl b3 32 (heads ((upd x20 ((0 + (s10.2.2 : Int).toNat * 1)) (none, 0))) ((s10.2.1.set ((0 + (s10.2.2 : Int).toNat * 1)) []))) :: Bfs EStr 9 (upd x20 ((0 + (s10.2.2 : Int).toNat * 1)) (none, 0)) (s10.2.1.set ((0 + (s10.2.2 : Int).toNat * 1)) []) :: hs) rfl ?_
             refine T.nil ?_
             refine T.in_normal ?_
             refine T.then_normal ?_
             refine T.region ?_
             refine T.move .list rfl (wants0 rfl) rfl rfl ?_
             refine T.bin .list rfl (wants0 rfl) rfl rfl rfl rfl ?_
             refine T.assign .list rfl (wants0 rfl) rfl rfl ?_
             refine T.nil ?_
             refine T.then_normal ?_
             obtain rfl := inv_some hk8
             exact T.le (EnvLe.cons rfl (EnvLe.cons rfl (EnvLe.cons rfl (EnvLe.cons rfl (EnvLe.cons rfl (EnvLe.cons rfl (EnvLe.cons rfl EnvLe.nil))))))) (T.pick [0, 1, 2, 3, 4, 5, 6, 7] 8 rfl rfl (Nat.le_add_left _ _) rfl (hm3 (s11, (s10.2.1.set ((0 + (s10.2.2 : Int).toNat * 1)) []), IntKind.i64.wrap (s10.2.2 + 1)) rfl (upd x20 ((0 + (s10.2.2 : Int).toNat * 1)) (none, 0))))
            ·refine T.seq ?_
             refine T.region ?_
             refine T.move .list rfl (wants0 rfl) rfl rfl ?_
             obtain ⟨hc14, he3⟩ := inv_chk he3
             refine T.idxArr .list rfl (wants0 rfl) rfl rfl rfl hc14.1 hc14.2 ?_
             obtain ⟨hc15, he3⟩ := inv_chk he3
             refine T.ldOw .list 6 rfl rfl (wants0 rfl) rfl rfl hc15 ?_
             refine T.focus 7 ((0 + (s10.2.2 : Int).toNat * 1)) rfl hc15 rfl ?_
             refine T.lenSlice .list rfl (wants0 rfl) rfl rfl ?_
             refine T.bin .list rfl (wants0 rfl) rfl rfl rfl rfl ?_
             refine T.nil ?_
             refine T.then_normal ?_
             refine T.cond rfl (fun hb11 => ?_) (fun hb11 => ?_)
             ·replace he3 := inv_posB hb11 he3
              refine T.plan [(0, 0), (1, 0), (2, 0), (4, 0), (5, 0), (3, 1), (6, 1), (7, 0), (8, 0), (9, 0), (10, 1), (11, 0), (12, 2)] mixed (by kernel_rfl) (by kernel_rfl) rfl (fun d _ _ _ _ h => by cases d <;> exact h) ?_
              refine T.move (.plan rfl) rfl (wants0 rfl) rfl rfl ?_
              refine T.move (.plan rfl) rfl (wants0 rfl) rfl rfl ?_
              obtain ⟨hc16, he3⟩ := inv_chk he3
              refine T.idxArr (.plan rfl) rfl (wants0 rfl) rfl rfl rfl hc16.1 hc16.2 ?_
              refine T.move (.plan rfl) rfl (wants0 rfl) rfl rfl ?_
              obtain ⟨hc17, he3⟩ := inv_chk he3
              refine T.idxArr (.plan rfl) rfl (wants0 rfl) rfl rfl rfl hc17.1 hc17.2 ?_
              obtain ⟨hc18, he3⟩ := inv_chk he3
              refine T.ldOw (.plan rfl) 7 rfl rfl (wants0 rfl) rfl rfl hc18 ?_
              obtain ⟨hc19, he3⟩ := inv_chk he3
              refine T.ldOw (.plan rfl) 7 rfl rfl (wants0 rfl) rfl rfl hc19 ?_
              refine T.lenSlice (.plan rfl) rfl (wants0 rfl) rfl rfl ?_
              refine T.bin (.plan rfl) rfl (wants0 rfl) rfl rfl rfl rfl ?_
              obtain ⟨hc20, he3⟩ := inv_chk he3
              refine T.idxBf (.plan rfl) 0 rfl rfl (wants0 rfl) rfl rfl rfl hc20.1 hc20.2 (Nat.le_refl _) ?_
              refine T.ldBf1 (.plan rfl) 0 rfl rfl (wants0 rfl) rfl rfl hc20.1 hc20.2 ?_
              obtain ⟨hc21, he3⟩ := inv_chk he3
              refine T.idxArr (.plan rfl) rfl (wants0 rfl) rfl rfl rfl hc21.1 hc21.2 ?_
              obtain ⟨hc22, he3⟩ := inv_chk he3
              refine T.stArr (.plan rfl) 6 rfl rfl (wants0 rfl) rfl rfl rfl rfl rfl hc22 rfl ?_
              refine T.planEnd ?_
              refine T.then_normal ?_
              refine T.pick [0, 8, 1, 2, 3, 4, 5, 6, 7] 9 rfl rfl (Nat.le_add_left _ _) (hs' := Bf EStr 9 ((x20 ((0 + (s10.2.2 : Int).toNat * 1))).1) ((x20 ((0 + (s10.2.2 : Int).toNat * 1))).2) ((s10.2.1.getD ((0 + (s10.2.2 : Int).toNat * 1)) default)) :: Bfs EStr 9 (upd x20 ((0 + (s10.2.2 : Int).toNat * 1)) (none, 0)) (s10.2.1.set ((0 + (s10.2.2 : Int).toNat * 1)) []) :: Ro (Elt.pair E64 (Elt.pair E64 (Elt.pair E64 (Elt.pair (Elt.slice E8) (Elt.pair E64 (Elt.pair EU64 (Elt.pair E64 E64))))))) A0 c0 l0 :: Cl b1 25 [.int .i64 a1.1, .int .u64 a1.2.1, .int .i64 a1.2.2.1, .int .i64 a1.2.2.2] :: Cl x2.1 69 [.int .i64 r8.2.1.1, .map (some x2.2.1), .slice x18.1 r8.2.2.2.length x18.2, .bool r8.2.1.2.1, .int .i64 r8.2.1.2.2.1, .int .i64 r8.2.1.2.2.2.1, .int .u64 r8.2.1.2.2.2.2.1, .int .i64 r8.2.1.2.2.2.2.2.1, .int .i64 r8.2.1.2.2.2.2.2.2] :: Mp (Elt.slice E8) x2.2.1 r8.2.2.1 :: Bf (Elt.pair E64 (Elt.slice E8)) 71 x18.1 x18.2 r8.2.2.2 :: Cl b2 30 ((((s10.1).set ((0 + (s10.2.2 : Int).toNat * 1)) ((((s10.2.1.getD ((0 + (s10.2.2 : Int).toNat * 1)) default)).getD (IntKind.i64.wrap (((((s10.2.1.getD ((0 + (s10.2.2 : Int).toNat * 1)) default)).length : Int)) - 1) : Int).toNat default)))).map str) :: Cl b3 32 (heads x20 s10.2.1) :: hs) rfl ?_
              refine T.unfocus ((0 + (s10.2.2 : Int).toNat * 1)) hc15 ?_
              exact T.le (EnvLe.cons rfl (EnvLe.cons rfl (EnvLe.cons rfl (EnvLe.cons rfl (EnvLe.cons rfl (EnvLe.cons rfl (EnvLe.cons rfl EnvLe.nil))))))) (T.pick [1, 2, 3, 4, 5, 6, 7, 0] 8 rfl rfl (Nat.le_add_left _ _) rfl (J8 ((s10.1).set ((0 + (s10.2.2 : Int).toNat * 1)) ((((s10.2.1.getD ((0 + (s10.2.2 : Int).toNat * 1)) default)).getD (IntKind.i64.wrap (((((s10.2.1.getD ((0 + (s10.2.2 : Int).toNat * 1)) default)).length : Int)) - 1) : Int).toNat default))) () he3))
             ·replace he3 := inv_negB hb11 he3
              refine T.skip ?_
              refine T.then_normal ?_
              refine T.pick [0, 8, 1, 2, 3, 4, 5, 6, 7] 9 rfl rfl (Nat.le_add_left _ _) (hs' := Bf EStr 9 ((x20 ((0 + (s10.2.2 : Int).toNat * 1))).1) ((x20 ((0 + (s10.2.2 : Int).toNat * 1))).2) ((s10.2.1.getD ((0 + (s10.2.2 : Int).toNat * 1)) default)) :: Bfs EStr 9 (upd x20 ((0 + (s10.2.2 : Int).toNat * 1)) (none, 0)) (s10.2.1.set ((0 + (s10.2.2 : Int).toNat * 1)) []) :: Ro (Elt.pair E64 (Elt.pair E64 (Elt.pair E64 (Elt.pair (Elt.slice E8) (Elt.pair E64 (Elt.pair EU64 (Elt.pair E64 E64))))))) A0 c0 l0 :: Cl b1 25 [.int .i64 a1.1, .int .u64 a1.2.1, .int .i64 a1.2.2.1, .int .i64 a1.2.2.2] :: Cl x2.1 69 [.int .i64 r8.2.1.1, .map (some x2.2.1), .slice x18.1 r8.2.2.2.length x18.2, .bool r8.2.1.2.1, .int .i64 r8.2.1.2.2.1, .int .i64 r8.2.1.2.2.2.1, .int .u64 r8.2.1.2.2.2.2.1, .int .i64 r8.2.1.2.2.2.2.2.1, .int .i64 r8.2.1.2.2.2.2.2.2] :: Mp (Elt.slice E8) x2.2.1 r8.2.2.1 :: Bf (Elt.pair E64 (Elt.slice E8)) 71 x18.1 x18.2 r8.2.2.2 :: Cl b2 30 (s10.1.map str) :: Cl b3 32 (heads x20 s10.2.1) :: hs) rfl ?_
              refine T.unfocus ((0 + (s10.2.2 : Int).toNat * 1)) hc15 ?_
              exact T.le (EnvLe.cons rfl (EnvLe.cons rfl (EnvLe.cons rfl (EnvLe.cons rfl (EnvLe.cons rfl (EnvLe.cons rfl (EnvLe.cons rfl EnvLe.nil))))))) (T.pick [1, 2, 3, 4, 5, 6, 7, 0] 8 rfl rfl (Nat.le_add_left _ _) rfl (J8 s10.1 () he3))
           ·replace he3 := inv_negB hb10 he3
            refine T.exit ?_
            refine T.then_exit ?_
            refine T.then_exit ?_
            obtain rfl := inv_some he3
            obtain rfl := hx3 _ rfl
            refine T.in_hit ?_
            refine T.then_normal ?_
            exact T.le (EnvLe.cons rfl (EnvLe.cons rfl (EnvLe.cons rfl (EnvLe.cons rfl (EnvLe.cons rfl (EnvLe.cons rfl EnvLe.nil)))))) (T.pick [0, 1, 2, 3, 4, 5, 6, 7] 8 rfl rfl (Nat.le_add_left _ _) rfl (J7 (s10.1, s10.2.1) x20 hk4))
        ·replace hk4 := inv_negB hb8 hk4
         refine T.skip ?_
         refine T.then_normal ?_
         exact T.le (EnvLe.cons rfl (EnvLe.cons rfl (EnvLe.cons rfl (EnvLe.cons rfl (EnvLe.cons rfl (EnvLe.cons rfl (EnvLe.cons rfl EnvLe.nil))))))) (T.pick [2, 3, 4, 5, 6, 7, 8, 9, 0, 1] 10 rfl rfl (Nat.le_add_left _ _) rfl (J6 () () hk4))
     ·replace hk4 := inv_negB hb6 hk4
      refine T.exit ?_
      refine T.then_exit ?_
      refine T.then_exit ?_
      obtain rfl := inv_some hk4
      obtain rfl := hx2 _ rfl
      refine T.in_hit ?_
      refine T.then_normal ?_
      exact T.le (EnvLe.cons rfl (EnvLe.cons rfl (EnvLe.cons rfl (EnvLe.cons rfl EnvLe.nil)))) (T.pick [1, 2, 3, 4, 5, 6, 7] 8 rfl rfl (Nat.le_add_left _ _) rfl (J1 (s5.1, s5.2.1, s5.2.2.1, s5.2.2.2.1, s5.2.2.2.2.1, s5.2.2.2.2.2.1, s5.2.2.2.2.2.2.1, s5.2.2.2.2.2.2.2.1, s5.2.2.2.2.2.2.2.2.1, s5.2.2.2.2.2.2.2.2.2.1, s5.2.2.2.2.2.2.2.2.2.2.1) ((x12.1.1, x12.1.2), x12.2) hr))
    ·refine T.region ?_
     refine T.move .list rfl (wants0 rfl) rfl rfl ?_
     refine T.move .list rfl (wants0 rfl) rfl rfl ?_
     refine T.lenSlice .list rfl (wants0 rfl) rfl rfl ?_
     refine T.bin .list rfl (wants0 rfl) rfl rfl rfl rfl ?_
     refine T.move .list rfl (wants0 rfl) rfl rfl ?_
     refine T.bool (b := (decide (s5.2.2.2.2.2.2.2.2.2.2.2 < ((l0.length : Int))))) (fun hb12 => ?_) (fun hb12 => ?_)
     ·replace he2 := inv_posB hb12 he2
      refine T.move .list rfl (wants1 rfl rfl rfl hb12) rfl rfl ?_
      refine T.bin .list rfl (wants1 rfl rfl rfl hb12) rfl rfl rfl rfl ?_
      refine T.pickT .list rfl (wants0 rfl) rfl rfl hb12 rfl ?_
      refine T.nil ?_
      refine T.then_normal ?_
      exact T.le (EnvLe.cons rfl (EnvLe.cons rfl (EnvLe.cons rfl (EnvLe.cons rfl (EnvLe.cons rfl (EnvLe.cons rfl (EnvLe.cons rfl EnvLe.nil))))))) (T.pick [0, 1, 2, 3, 4, 5, 6, 7] 8 rfl rfl (Nat.le_add_left _ _) rfl (J4 (decide (s5.2.2.2.2.2.2.2.2.2.2.2 < 30)) () he2))
     ·replace he2 := inv_negB hb12 he2
      refine T.leave .list (wantsNot rfl rfl rfl hb12) rfl ?_
      refine T.leave .list (wantsNot rfl rfl rfl hb12) rfl ?_
      refine T.pickF .list rfl (wants0 rfl) rfl rfl hb12 rfl ?_
      refine T.nil ?_
      refine T.then_normal ?_
      exact T.le (EnvLe.cons rfl (EnvLe.cons rfl (EnvLe.cons rfl (EnvLe.cons rfl (EnvLe.cons rfl (EnvLe.cons rfl (EnvLe.cons rfl EnvLe.nil))))))) (T.pick [0, 1, 2, 3, 4, 5, 6, 7] 8 rfl rfl (Nat.le_add_left _ _) rfl (J4 false () he2))
end Go.Proofs.Ytfdogeebkbaadaa
