/- Page: what the functions compute, and that the program computes it; printed by a program of ours. -/
import Derived.Test.YtccifnjlfhdpiaaWire
import Derived.Test.YtccifnjlfhdpiaaDisk
set_option linter.unusedVariables false
set_option linter.unusedSimpArgs false
namespace Go.Proofs.Ytccifnjlfhdpiaa
open Go.RowKit
noncomputable def page_counts_is.impl (o0 : Int) (q0b : List (Int × Int)) (a1 : Int) : Option Bool :=
  (if ((decide ((2 : Int) ≤ a1))) = true then some (decide (a1 < (IntKind.i64.wrap (2 + o0)))) else some false)
set_option maxRecDepth 100000 in
set_option maxHeartbeats 4000000 in
theorem page_counts_is.c {B : World} {hs : List MP} {w : World} {p0 : Nat} {o0 : Int} {T0 : TypeId} {rest0 : List Value} {m0b : Nat} {q0b : List (Int × Int)} {a1 : Int} (hS : St B (Cl p0 T0 ([.int .i64 o0, .map (some m0b)] ++ rest0) :: Mp E64 m0b q0b :: hs) w) {r : Bool} (hr : page_counts_is.impl o0 q0b a1 = some r) :
    Calls Try.prog 34 #[.pointer (some ⟨p0, 0, none⟩), .int .i64 a1] w fun e w' => ∃ x : Unit, e = .returned (.bool r) ∧ St B (Cl p0 T0 ([.int .i64 o0, .map (some m0b)] ++ rest0) :: Mp E64 m0b q0b :: hs) w' := by
 unfold page_counts_is.impl at hr
 refine calls_T Try.func34 rfl rfl rfl hS ?_
 refine T.seq ?_
 refine T.region ?_
 refine T.assign .list rfl (wants0 rfl) rfl rfl ?_
 refine T.nil ?_
 refine T.then_normal ?_
 refine T.seq ?_
 refine T.region ?_
 refine T.move .list rfl (wants0 rfl) rfl rfl ?_
 refine T.bin .list rfl (wants0 rfl) rfl rfl rfl rfl ?_
 refine T.move .list rfl (wants0 rfl) rfl rfl ?_
 refine T.bool (b := (decide ((2 : Int) ≤ a1))) (fun hb1 => ?_) (fun hb1 => ?_)
 ·replace hr := inv_posB hb1 hr
  refine T.move .list rfl (wants1 rfl rfl rfl hb1) rfl rfl ?_
  refine T.move .list rfl (wants1 rfl rfl rfl hb1) rfl rfl ?_
  refine T.nilCheck .list rfl (wants1 rfl rfl rfl hb1) rfl rfl ?_
  refine T.field .list rfl (wants1 rfl rfl rfl hb1) rfl rfl ?_
  refine T.load .list 0 rfl rfl (wants1 rfl rfl rfl hb1) rfl rfl rfl ?_
  refine T.bin .list rfl (wants1 rfl rfl rfl hb1) rfl rfl rfl rfl ?_
  refine T.bin .list rfl (wants1 rfl rfl rfl hb1) rfl rfl rfl rfl ?_
  refine T.pickT .list rfl (wants0 rfl) rfl rfl hb1 rfl ?_
  refine T.assign .list rfl (wants0 rfl) rfl rfl ?_
  refine T.nil ?_
  refine T.then_normal ?_
  refine T.ret ?_
  obtain rfl := inv_some hr
  refine T.pick [0, 1] 2 rfl rfl (Nat.le_add_left _ _) rfl ?_
  refine T.ret1 rfl rfl (fun w hS => ⟨(), rfl, hS⟩)
 ·replace hr := inv_negB hb1 hr
  refine T.leave .list (wantsNot rfl rfl rfl hb1) rfl ?_
  refine T.leave .list (wantsNot rfl rfl rfl hb1) rfl ?_
  refine T.leave .list (wantsNot rfl rfl rfl hb1) rfl ?_
  refine T.leave .list (wantsNot rfl rfl rfl hb1) rfl ?_
  refine T.leave .list (wantsNot rfl rfl rfl hb1) rfl ?_
  refine T.leave .list (wantsNot rfl rfl rfl hb1) rfl ?_
  refine T.leave .list (wantsNot rfl rfl rfl hb1) rfl ?_
  refine T.pickF .list rfl (wants0 rfl) rfl rfl hb1 rfl ?_
  refine T.assign .list rfl (wants0 rfl) rfl rfl ?_
  refine T.nil ?_
  refine T.then_normal ?_
  refine T.ret ?_
  obtain rfl := inv_some hr
  refine T.pick [0, 1] 2 rfl rfl (Nat.le_add_left _ _) rfl ?_
  refine T.ret1 rfl rfl (fun w hS => ⟨(), rfl, hS⟩)

noncomputable def page_counts_Left.impl (o0 : Int) (q0b : List (Int × Int)) : Option Int :=
  some (IntKind.i64.wrap (o0 - ((q0b.length : Int))))
set_option maxRecDepth 100000 in
set_option maxHeartbeats 4000000 in
theorem page_counts_Left.c {B : World} {hs : List MP} {w : World} {p0 : Nat} {o0 : Int} {T0 : TypeId} {rest0 : List Value} {m0b : Nat} {q0b : List (Int × Int)} (hS : St B (Cl p0 T0 ([.int .i64 o0, .map (some m0b)] ++ rest0) :: Mp E64 m0b q0b :: hs) w) {r : Int} (hr : page_counts_Left.impl o0 q0b = some r) :
    Calls Try.prog 12 #[.pointer (some ⟨p0, 0, none⟩)] w fun e w' => ∃ x : Unit, e = .returned (.int .i64 r) ∧ St B (Cl p0 T0 ([.int .i64 o0, .map (some m0b)] ++ rest0) :: Mp E64 m0b q0b :: hs) w' := by
 unfold page_counts_Left.impl at hr
 refine calls_T Try.func12 rfl rfl rfl hS ?_
 refine T.seq ?_
 refine T.region ?_
 refine T.assign .list rfl (wants0 rfl) rfl rfl ?_
 refine T.nil ?_
 refine T.then_normal ?_
 refine T.seq ?_
 refine T.plan [(0, 0), (1, 0), (2, 0), (4, 0), (5, 0), (6, 0), (3, 1), (7, 1), (8, 1), (9, 0), (10, 0)] mixed (by kernel_rfl) (by kernel_rfl) rfl (fun d _ _ _ _ h => by cases d <;> exact h) ?_
 refine T.move (.plan rfl) rfl (wants0 rfl) rfl rfl ?_
 refine T.nilCheck (.plan rfl) rfl (wants0 rfl) rfl rfl ?_
 refine T.field (.plan rfl) rfl (wants0 rfl) rfl rfl ?_
 refine T.move (.plan rfl) rfl (wants0 rfl) rfl rfl ?_
 refine T.nilCheck (.plan rfl) rfl (wants0 rfl) rfl rfl ?_
 refine T.field (.plan rfl) rfl (wants0 rfl) rfl rfl ?_
 refine T.load (.plan rfl) 0 rfl rfl (wants0 rfl) rfl rfl rfl ?_
 refine T.load (.plan rfl) 0 rfl rfl (wants0 rfl) rfl rfl rfl ?_
 refine T.lenMap (.plan rfl) 1 rfl rfl (wants0 rfl) rfl rfl ?_
 refine T.bin (.plan rfl) rfl (wants0 rfl) rfl rfl rfl rfl ?_
 refine T.assign (.plan rfl) rfl (wants0 rfl) rfl rfl ?_
 refine T.planEnd ?_
 refine T.then_normal ?_
 refine T.ret ?_
 obtain rfl := inv_some hr
 refine T.pick [0, 1] 2 rfl rfl (Nat.le_add_left _ _) rfl ?_
 refine T.ret1 rfl rfl (fun w hS => ⟨(), rfl, hS⟩)

noncomputable def page_counts_first.k1 (s1 : Unit) : Option Int :=
  some 0
noncomputable def page_counts_first.st1 (o0 : Int) (q0b : List (Int × Int)) (s2 : Int) : Option (Int ⊕ (Int ⊕ Unit)) :=
  (if ((decide (s2 < (IntKind.i64.wrap (2 + o0))))) = true then (if ((decide (((((mget q0b s2).getD 0))) = 0))) = true then some (.inr (.inl s2)) else some (.inl (IntKind.i64.wrap (s2 + 1)))) else some (.inr (.inr ())))
noncomputable def page_counts_first.impl (o0 : Int) (q0b : List (Int × Int)) : Option Int :=
  (loop (page_counts_first.st1 o0 q0b) 2).bind (fun e1 => match e1 with | .inl v => some v | .inr v => page_counts_first.k1 v)
set_option maxRecDepth 100000 in
set_option maxHeartbeats 4000000 in
theorem page_counts_first.c {B : World} {hs : List MP} {w : World} {p0 : Nat} {o0 : Int} {T0 : TypeId} {rest0 : List Value} {m0b : Nat} {q0b : List (Int × Int)} (hS : St B (Cl p0 T0 ([.int .i64 o0, .map (some m0b)] ++ rest0) :: Mp E64 m0b q0b :: hs) w) {r : Int} (hr : page_counts_first.impl o0 q0b = some r) :
    Calls Try.prog 28 #[.pointer (some ⟨p0, 0, none⟩)] w fun e w' => ∃ x : Unit, e = .returned (.int .i64 r) ∧ St B (Cl p0 T0 ([.int .i64 o0, .map (some m0b)] ++ rest0) :: Mp E64 m0b q0b :: hs) w' := by
 unfold page_counts_first.impl at hr
 refine calls_T Try.func28 rfl rfl rfl hS ?_
 refine T.seq ?_
 refine T.region ?_
 refine T.assign .list rfl (wants0 rfl) rfl rfl ?_
 refine T.nil ?_
 refine T.then_normal ?_
 refine T.seqJ (fun (s1 : Unit) (x1 : Unit) => []) (fun s1 x1 => Cl p0 T0 ([.int .i64 o0, .map (some m0b)] ++ rest0) :: Mp E64 m0b q0b :: hs) (fun s1 => page_counts_first.k1 s1 = some r) (fun s1 x1 hk1 => ?_) (fun J1 => ?_)
 ·unfold page_counts_first.k1 at hk1
  refine T.seq ?_
  refine T.region ?_
  refine T.assign .list rfl (wants0 rfl) rfl rfl ?_
  refine T.nil ?_
  refine T.then_normal ?_
  refine T.ret ?_
  obtain rfl := inv_some hk1
  refine T.pick [0, 1] 2 rfl rfl (Nat.le_add_left _ _) rfl ?_
  refine T.ret1 rfl rfl (fun w hS => ⟨(), rfl, hS⟩)
 ·refine T.seq ?_
  refine T.region ?_
  refine T.assign .list rfl (wants0 rfl) rfl rfl ?_
  refine T.nil ?_
  refine T.then_normal ?_
  refine T.block ?_
  obtain ⟨e1, hl1, hr⟩ := inv_bind hr
  refine T.le (EnvLe.cons rfl (EnvLe.cons rfl EnvLe.nil)) (T.pick [0, 1] 2 rfl rfl (Nat.le_add_left _ _) rfl (T.loop (s0 := 2) (env := fun s2 x2 => [(0, .pointer (some ⟨p0, 0, none⟩)), (3, .int .i64 s2)]) (hs := fun (s2 : Int) (x2 : Unit) => Cl p0 T0 ([.int .i64 o0, .map (some m0b)] ++ rest0) :: Mp E64 m0b q0b :: hs) hl1 () (fun K1 s2 x2 o1 he1 hm1 hx1 => ?_)))
  unfold page_counts_first.st1 at he1
  refine T.seq ?_
  refine T.seq ?_
  refine T.region ?_
  refine T.move .list rfl (wants0 rfl) rfl rfl ?_
  refine T.move .list rfl (wants0 rfl) rfl rfl ?_
  refine T.nilCheck .list rfl (wants0 rfl) rfl rfl ?_
  refine T.field .list rfl (wants0 rfl) rfl rfl ?_
  refine T.load .list 0 rfl rfl (wants0 rfl) rfl rfl rfl ?_
  refine T.bin .list rfl (wants0 rfl) rfl rfl rfl rfl ?_
  refine T.bin .list rfl (wants0 rfl) rfl rfl rfl rfl ?_
  refine T.nil ?_
  refine T.then_normal ?_
  refine T.cond rfl (fun hb1 => ?_) (fun hb1 => ?_)
  ·replace he1 := inv_posB hb1 he1
   refine T.skip ?_
   refine T.then_normal ?_
   refine T.seq ?_
   refine T.block ?_
   refine T.seq ?_
   refine T.region ?_
   refine T.move .list rfl (wants0 rfl) rfl rfl ?_
   refine T.nilCheck .list rfl (wants0 rfl) rfl rfl ?_
   refine T.field .list rfl (wants0 rfl) rfl rfl ?_
   refine T.load .list 0 rfl rfl (wants0 rfl) rfl rfl rfl ?_
   refine T.move .list rfl (wants0 rfl) rfl rfl ?_
   refine T.lookup .list 1 (d := 0) Sh.sc (fun _ => rfl) rfl rfl (wants0 rfl) rfl rfl rfl (v := fun _ => .int .i64 (((mget q0b s2).getD 0))) (hs' := fun _ => Cl p0 T0 ([.int .i64 o0, .map (some m0b)] ++ rest0) :: Mp E64 m0b q0b :: hs) (fun _ => rfl) (fun _ => rfl) (fun _ => ?_)
   refine T.bin .list rfl (wants0 rfl) rfl rfl rfl rfl ?_
   refine T.nil ?_
   refine T.then_normal ?_
   refine T.cond rfl (fun hb2 => ?_) (fun hb2 => ?_)
   ·replace he1 := inv_posB hb2 he1
    refine T.seq ?_
    refine T.region ?_
    refine T.move .list rfl (wants0 rfl) rfl rfl ?_
    refine T.assign .list rfl (wants0 rfl) rfl rfl ?_
    refine T.nil ?_
    refine T.then_normal ?_
    refine T.ret ?_
    refine T.in_ret ?_
    refine T.then_ret ?_
    refine T.then_ret ?_
    obtain rfl := inv_some he1
    obtain rfl := hx1 _ rfl
    refine T.in_ret ?_
    refine T.then_ret ?_
    obtain rfl := inv_some hr
    refine T.pick [0, 1] 2 rfl rfl (Nat.le_add_left _ _) rfl ?_
    refine T.ret1 rfl rfl (fun w hS => ⟨(), rfl, hS⟩)
   ·replace he1 := inv_negB hb2 he1
    refine T.skip ?_
    refine T.in_normal ?_
    refine T.then_normal ?_
    refine T.region ?_
    refine T.move .list rfl (wants0 rfl) rfl rfl ?_
    refine T.bin .list rfl (wants0 rfl) rfl rfl rfl rfl ?_
    refine T.assign .list rfl (wants0 rfl) rfl rfl ?_
    refine T.nil ?_
    refine T.then_normal ?_
    obtain rfl := inv_some he1
    exact T.le (EnvLe.cons rfl (EnvLe.cons rfl EnvLe.nil)) (T.pick [0, 1] 2 rfl rfl (Nat.le_add_left _ _) rfl (hm1 (IntKind.i64.wrap (s2 + 1)) rfl ()))
  ·replace he1 := inv_negB hb1 he1
   refine T.exit ?_
   refine T.then_exit ?_
   refine T.then_exit ?_
   obtain rfl := inv_some he1
   obtain rfl := hx1 _ rfl
   refine T.in_hit ?_
   refine T.then_normal ?_
   exact T.le EnvLe.nil (T.pick [0, 1] 2 rfl rfl (Nat.le_add_left _ _) rfl (J1 () () hr))

noncomputable def page_big.k1 (s1 : List UInt8) : Option (List UInt8) :=
  some s1
noncomputable def page_big.st1 (a1 : Int) (a0 : Int) (s2 : List UInt8 × Int) : Option ((List UInt8 × Int) ⊕ (List UInt8)) :=
  (if ((decide (s2.2 < (((List.replicate (a1 : Int).toNat (0 : UInt8)).length : Int))))) = true then chk (0 ≤ IntKind.i64.wrap (8 * (IntKind.i64.wrap ((IntKind.i64.wrap (a1 - 1)) - s2.2)))) (chk (0 ≤ s2.2 ∧ s2.2 < (s2.1.length : Int)) (some (.inl (((s2.1).set (s2.2 : Int).toNat (u8 (IntKind.u8.wrap (shrI .u64 a0 (IntKind.i64.wrap (8 * (IntKind.i64.wrap ((IntKind.i64.wrap (a1 - 1)) - s2.2)))))))), IntKind.i64.wrap (s2.2 + 1))))) else some (.inr s2.1))
noncomputable def page_big.impl (a0 : Int) (a1 : Int) : Option (List UInt8) :=
  chk (0 ≤ a1 ∧ a1 * 1 ≤ 140737488355328) ((loop (page_big.st1 a1 a0) (List.replicate (a1 : Int).toNat (0 : UInt8), 0)).bind (fun e1 => page_big.k1 e1))
set_option maxRecDepth 100000 in
set_option maxHeartbeats 4000000 in
theorem page_big.c {B : World} {hs : List MP} {w : World} {a0 : Int} {a1 : Int} (hS : St B (hs) w) {r : List UInt8} (hr : page_big.impl a0 a1 = some r) :
    Calls Try.prog 44 #[.int .u64 a0, .int .i64 a1] w fun e w' => ∃ x : (Option Addr × Nat), e = .returned (.slice x.1 r.length x.2) ∧ St B (Bf E8 5 x.1 x.2 r :: hs) w' := by
 unfold page_big.impl at hr
 refine calls_T Try.func44 rfl rfl rfl hS ?_
 refine T.seq ?_
 refine T.region ?_
 refine T.assign .list rfl (wants0 rfl) rfl rfl ?_
 refine T.nil ?_
 refine T.then_normal ?_
 refine T.seq ?_
 refine T.region ?_
 refine T.move .list rfl (wants0 rfl) rfl rfl ?_
 obtain ⟨hc1, hr⟩ := inv_chk hr
 refine T.make .list (enc := b8) (h1' := fun _ => rfl) (z0 := (0 : UInt8)) (by rfl) rfl (wants0 rfl) rfl rfl rfl rfl hc1 (fun b1 => ?_)
 refine T.assign .list rfl (wants0 rfl) rfl rfl ?_
 refine T.nil ?_
 refine T.then_normal ?_
 refine T.seqJ (fun (s1 : List UInt8) (x1 : (Option Addr × Nat)) => [(5, .slice x1.1 s1.length x1.2)]) (fun s1 x1 => Bf E8 5 x1.1 x1.2 s1 :: hs) (fun s1 => page_big.k1 s1 = some r) (fun s1 x1 hk1 => ?_) (fun J1 => ?_)
 ·unfold page_big.k1 at hk1
  refine T.seq ?_
  refine T.region ?_
  refine T.move .list rfl (wants0 rfl) rfl rfl ?_
  refine T.assign .list rfl (wants0 rfl) rfl rfl ?_
  refine T.nil ?_
  refine T.then_normal ?_
  refine T.ret ?_
  obtain rfl := inv_some hk1
  refine T.pick [0] 1 rfl rfl (Nat.le_add_left _ _) rfl ?_
  refine T.ret1 rfl rfl (fun w hS => ⟨(x1.1, x1.2), rfl, hS⟩)
 ·refine T.seq ?_
  refine T.region ?_
  refine T.move .list rfl (wants0 rfl) rfl rfl ?_
  refine T.lenSlice .list rfl (wants0 rfl) rfl rfl ?_
  refine T.move .list rfl (wants0 rfl) rfl rfl ?_
  refine T.nil ?_
  refine T.then_normal ?_
  refine T.block ?_
  obtain ⟨e1, hl1, hr⟩ := inv_bind hr
  refine T.le (EnvLe.cons rfl (EnvLe.cons rfl (EnvLe.cons rfl (EnvLe.cons rfl (EnvLe.cons rfl EnvLe.nil))))) (T.pick [0] 1 rfl rfl (Nat.le_add_left _ _) rfl (T.loop (s0 := (List.replicate (a1 : Int).toNat (0 : UInt8), 0)) (env := fun s2 x2 => [(0, .int .u64 a0), (1, .int .i64 a1), (5, .slice x2.1 s2.1.length x2.2), (10, .int .i64 (((List.replicate (a1 : Int).toNat (0 : UInt8)).length : Int))), (11, .int .i64 s2.2)]) (hs := fun (s2 : List UInt8 × Int) (x2 : (Option Addr × Nat)) => Bf E8 5 x2.1 x2.2 s2.1 :: hs) hl1 (some ⟨b1, 0, none⟩, (a1 : Int).toNat) (fun K1 s2 x2 o1 he1 hm1 hx1 => ?_)))
  unfold page_big.st1 at he1
  refine T.seq ?_
  refine T.region ?_
  refine T.bin .list rfl (wants0 rfl) rfl rfl rfl rfl ?_
  refine T.nil ?_
  refine T.then_normal ?_
  refine T.seq ?_
  refine T.cond rfl (fun hb1 => ?_) (fun hb1 => ?_)
  ·replace he1 := inv_posB hb1 he1
   refine T.skip ?_
   refine T.then_normal ?_
   refine T.seq ?_
   refine T.block ?_
   refine T.seq ?_
   refine T.region ?_
   refine T.move .list rfl (wants0 rfl) rfl rfl ?_
   refine T.assign .list rfl (wants0 rfl) rfl rfl ?_
   refine T.nil ?_
   refine T.then_normal ?_
   refine T.region ?_
   refine T.move .list rfl (wants0 rfl) rfl rfl ?_
   refine T.move .list rfl (wants0 rfl) rfl rfl ?_
   refine T.move .list rfl (wants0 rfl) rfl rfl ?_
   refine T.move .list rfl (wants0 rfl) rfl rfl ?_
   refine T.bin .list rfl (wants0 rfl) rfl rfl rfl rfl ?_
   refine T.move .list rfl (wants0 rfl) rfl rfl ?_
   refine T.bin .list rfl (wants0 rfl) rfl rfl rfl rfl ?_
   refine T.bin .list rfl (wants0 rfl) rfl rfl rfl rfl ?_
   obtain ⟨hc2, he1⟩ := inv_chk he1
   refine T.shr .list rfl (wants0 rfl) rfl rfl rfl hc2 ?_
   refine T.conv .list rfl (wants0 rfl) rfl rfl rfl ?_
   obtain ⟨hc3, he1⟩ := inv_chk he1
   refine T.idxBf .list 0 rfl rfl (wants0 rfl) rfl rfl rfl hc3.1 hc3.2 (Nat.le_refl _) ?_
   refine T.stBf .list 0 rfl rfl (wants0 rfl) rfl rfl rfl (b8_wrap _) hc3.1 hc3.2 rfl ?_
   refine T.nil ?_
   refine T.in_normal ?_
   refine T.then_normal ?_
   refine T.region ?_
   refine T.bin .list rfl (wants0 rfl) rfl rfl rfl rfl ?_
   refine T.move .list rfl (wants0 rfl) rfl rfl ?_
   refine T.nil ?_
   refine T.then_normal ?_
   obtain rfl := inv_some he1
   refine T.env1 5 rfl (slc (n' := (((s2.1).set (s2.2 : Int).toNat (u8 (IntKind.u8.wrap (shrI .u64 a0 (IntKind.i64.wrap (8 * (IntKind.i64.wrap ((IntKind.i64.wrap (a1 - 1)) - s2.2))))))))).length) (by simp only [List.length_set])) ?_
   exact T.le (EnvLe.cons rfl (EnvLe.cons rfl (EnvLe.cons rfl (EnvLe.cons rfl (EnvLe.cons rfl EnvLe.nil))))) (T.pick [0] 1 rfl rfl (Nat.le_add_left _ _) rfl (hm1 (((s2.1).set (s2.2 : Int).toNat (u8 (IntKind.u8.wrap (shrI .u64 a0 (IntKind.i64.wrap (8 * (IntKind.i64.wrap ((IntKind.i64.wrap (a1 - 1)) - s2.2)))))))), IntKind.i64.wrap (s2.2 + 1)) rfl (x2.1, x2.2)))
  ·replace he1 := inv_negB hb1 he1
   refine T.exit ?_
   refine T.then_exit ?_
   refine T.then_exit ?_
   obtain rfl := inv_some he1
   obtain rfl := hx1 _ rfl
   refine T.in_hit ?_
   refine T.then_normal ?_
   exact T.le (EnvLe.cons rfl EnvLe.nil) (T.pick [0] 1 rfl rfl (Nat.le_add_left _ _) rfl (J1 s2.1 (x2.1, x2.2) hr))

noncomputable def page_small.k1 (s1 : Int) : Option Int :=
  some s1
noncomputable def page_small.st1 (l0 : List UInt8) (s2 : Int × Int) : Option ((Int × Int) ⊕ Int) :=
  (if ((decide (s2.2 < ((l0.length : Int))))) = true then chk (0 ≤ s2.2 ∧ s2.2 < (l0.length : Int)) (some (.inl (bitsOf .or .u64 (shlI .u64 s2.1 8) (IntKind.u64.wrap ((((l0).getD (s2.2 : Int).toNat default).toNat : Int))), IntKind.i64.wrap (s2.2 + 1)))) else some (.inr s2.1))
noncomputable def page_small.impl (l0 : List UInt8) : Option Int :=
  (loop (page_small.st1 l0) (0, 0)).bind (fun e1 => page_small.k1 e1)
set_option maxRecDepth 100000 in
set_option maxHeartbeats 4000000 in
theorem page_small.c {B : World} {hs : List MP} {w : World} {i0 c0 : Nat} {A0 : Option Addr} {l0 : List UInt8} (hS : St B (hs) w) (h0 : (hs)[i0]? = some (Ro E8 A0 c0 l0)) {r : Int} (hr : page_small.impl l0 = some r) :
    Calls Try.prog 35 #[.slice A0 l0.length c0] w fun e w' => ∃ x : Unit, e = .returned (.int .u64 r) ∧ St B (hs) w' := by
 unfold page_small.impl at hr
 refine calls_T Try.func35 rfl rfl rfl hS ?_
 refine T.front i0 h0 ?_
 refine T.seq ?_
 refine T.region ?_
 refine T.assign .list rfl (wants0 rfl) rfl rfl ?_
 refine T.nil ?_
 refine T.then_normal ?_
 refine T.seq ?_
 refine T.region ?_
 refine T.assign .list rfl (wants0 rfl) rfl rfl ?_
 refine T.nil ?_
 refine T.then_normal ?_
 refine T.seqJ (fun (s1 : Int) (x1 : Unit) => [(3, .int .u64 s1)]) (fun s1 x1 => hs) (fun s1 => page_small.k1 s1 = some r) (fun s1 x1 hk1 => ?_) (fun J1 => ?_)
 ·unfold page_small.k1 at hk1
  refine T.seq ?_
  refine T.region ?_
  refine T.move .list rfl (wants0 rfl) rfl rfl ?_
  refine T.assign .list rfl (wants0 rfl) rfl rfl ?_
  refine T.nil ?_
  refine T.then_normal ?_
  refine T.ret ?_
  obtain rfl := inv_some hk1
  refine T.pick [] 0 rfl rfl (Nat.le_add_left _ _) rfl ?_
  refine T.ret1 rfl rfl (fun w hS => ⟨(), rfl, hS⟩)
 ·refine T.seq ?_
  refine T.region ?_
  refine T.move .list rfl (wants0 rfl) rfl rfl ?_
  refine T.lenSlice .list rfl (wants0 rfl) rfl rfl ?_
  refine T.move .list rfl (wants0 rfl) rfl rfl ?_
  refine T.nil ?_
  refine T.then_normal ?_
  refine T.block ?_
  obtain ⟨e1, hl1, hr⟩ := inv_bind hr
  refine T.le (EnvLe.cons rfl (EnvLe.cons rfl (EnvLe.cons rfl (EnvLe.cons rfl EnvLe.nil)))) (T.pick [0] 1 rfl rfl (Nat.le_add_left _ _) rfl (T.loop (s0 := (0, 0)) (env := fun s2 x2 => [(3, .int .u64 s2.1), (6, .slice A0 l0.length c0), (7, .int .i64 ((l0.length : Int))), (8, .int .i64 s2.2)]) (hs := fun (s2 : Int × Int) (x2 : Unit) => Ro E8 A0 c0 l0 :: hs) hl1 () (fun K1 s2 x2 o1 he1 hm1 hx1 => ?_)))
  unfold page_small.st1 at he1
  refine T.seq ?_
  refine T.region ?_
  refine T.bin .list rfl (wants0 rfl) rfl rfl rfl rfl ?_
  refine T.nil ?_
  refine T.then_normal ?_
  refine T.seq ?_
  refine T.cond rfl (fun hb1 => ?_) (fun hb1 => ?_)
  ·replace he1 := inv_posB hb1 he1
   refine T.skip ?_
   refine T.then_normal ?_
   refine T.seq ?_
   refine T.block ?_
   refine T.seq ?_
   refine T.region ?_
   obtain ⟨hc1, he1⟩ := inv_chk he1
   refine T.idxRo .list 0 rfl rfl (wants0 rfl) rfl rfl rfl hc1.1 hc1.2 (Nat.le_refl _) ?_
   refine T.ldRo1 .list 0 rfl rfl (wants0 rfl) rfl rfl hc1.1 hc1.2 ?_
   refine T.assign .list rfl (wants0 rfl) rfl rfl ?_
   refine T.nil ?_
   refine T.then_normal ?_
   refine T.region ?_
   refine T.move .list rfl (wants0 rfl) rfl rfl ?_
   refine T.shl .list rfl (wants0 rfl) rfl rfl rfl (by decide) ?_
   refine T.move .list rfl (wants0 rfl) rfl rfl ?_
   refine T.conv .list rfl (wants0 rfl) rfl rfl rfl ?_
   refine T.bin .list rfl (wants0 rfl) rfl rfl rfl rfl ?_
   refine T.assign .list rfl (wants0 rfl) rfl rfl ?_
   refine T.nil ?_
   refine T.in_normal ?_
   refine T.then_normal ?_
   refine T.region ?_
   refine T.bin .list rfl (wants0 rfl) rfl rfl rfl rfl ?_
   refine T.move .list rfl (wants0 rfl) rfl rfl ?_
   refine T.nil ?_
   refine T.then_normal ?_
   obtain rfl := inv_some he1
   exact T.le (EnvLe.cons rfl (EnvLe.cons rfl (EnvLe.cons rfl (EnvLe.cons rfl EnvLe.nil)))) (T.pick [0] 1 rfl rfl (Nat.le_add_left _ _) rfl (hm1 (bitsOf .or .u64 (shlI .u64 s2.1 8) (IntKind.u64.wrap ((((l0).getD (s2.2 : Int).toNat default).toNat : Int))), IntKind.i64.wrap (s2.2 + 1)) rfl ()))
  ·replace he1 := inv_negB hb1 he1
   refine T.exit ?_
   refine T.then_exit ?_
   refine T.then_exit ?_
   obtain rfl := inv_some he1
   obtain rfl := hx1 _ rfl
   refine T.in_hit ?_
   refine T.then_normal ?_
   exact T.le (EnvLe.cons rfl EnvLe.nil) (T.pick [] 1 rfl rfl (Nat.le_add_left _ _) rfl (J1 s2.1 () hr))

noncomputable def page_zero.impl (l0 : List UInt8) : Option Bool :=
  chk (0 ≤ ((l0.length : Int)) ∧ ((l0.length : Int)) * 1 ≤ 140737488355328) ((bytes_Equal.impl l0 (List.replicate ((l0.length : Int) : Int).toNat (0 : UInt8))).bind fun r1 => some r1)
set_option maxRecDepth 100000 in
set_option maxHeartbeats 4000000 in
theorem page_zero.c {B : World} {hs : List MP} {w : World} {i0 c0 : Nat} {A0 : Option Addr} {l0 : List UInt8} (hS : St B (hs) w) (h0 : (hs)[i0]? = some (Ro E8 A0 c0 l0)) {r : Bool} (hr : page_zero.impl l0 = some r) :
    Calls Try.prog 36 #[.slice A0 l0.length c0] w fun e w' => ∃ x : Unit, e = .returned (.bool r) ∧ St B (hs) w' := by
 unfold page_zero.impl at hr
 refine calls_T Try.func36 rfl rfl rfl hS ?_
 refine T.front i0 h0 ?_
 refine T.seq ?_
 refine T.region ?_
 refine T.assign .list rfl (wants0 rfl) rfl rfl ?_
 refine T.nil ?_
 refine T.then_normal ?_
 refine T.seq ?_
 refine T.region ?_
 refine T.move .list rfl (wants0 rfl) rfl rfl ?_
 refine T.move .list rfl (wants0 rfl) rfl rfl ?_
 refine T.lenSlice .list rfl (wants0 rfl) rfl rfl ?_
 obtain ⟨hc1, hr⟩ := inv_chk hr
 refine T.make .list (enc := b8) (h1' := fun _ => rfl) (z0 := (0 : UInt8)) (by rfl) rfl (wants0 rfl) rfl rfl rfl rfl hc1 (fun b1 => ?_)
 obtain ⟨r1, hg1, hr⟩ := inv_bind hr
 refine T.call .list (wants0 rfl) rfl (run_callF (vs := [_, _]) rfl Try.func42 rfl (by decide) rfl) (fun w hS => (bytes_Equal.c (St.borrow (ros := [Ro E8 A0 c0 l0, Ro E8 (some ⟨b1, 0, none⟩) (((l0.length : Int) : Int).toNat) (List.replicate ((l0.length : Int) : Int).toNat (0 : UInt8))]) (Ros.cons (hS.roRo 1 rfl) (Ros.cons (hS.roBf 0 rfl rfl) Ros.nil))) (i0 := 0) (i1 := 1) rfl rfl hg1).mono fun e w' ⟨x, he, h1⟩ => ⟨x, he, hS.unborrow (post := []) h1 Frees.nil⟩) (fun x1 => ?_)
 refine T.assign .list rfl (wants0 rfl) rfl rfl ?_
 refine T.nil ?_
 refine T.then_normal ?_
 refine T.ret ?_
 obtain rfl := inv_some hr
 refine T.pick [] 2 rfl rfl (Nat.le_add_left _ _) rfl ?_
 refine T.ret1 rfl rfl (fun w hS => ⟨(), rfl, hS⟩)

noncomputable def page_head_bytes.impl (a0 : Int × Int) : Option (List UInt8) :=
  (page_big.impl a0.1 8).bind fun r1 => chk (4 < (([(104 : UInt8), (101 : UInt8), (97 : UInt8), (100 : UInt8)] : List UInt8)).length + r1.length ∧ (([(104 : UInt8), (101 : UInt8), (97 : UInt8), (100 : UInt8)] : List UInt8)).length + r1.length ≤ 140737488355328) ((page_big.impl (IntKind.u64.wrap a0.2) 4).bind fun r2 => chk (((((([(104 : UInt8), (101 : UInt8), (97 : UInt8), (100 : UInt8)] : List UInt8)) ++ r1)).length + r2.length) * 1 ≤ 140737488355328) ((page_big.impl (bitsOf .and .u64 a0.1 4294967295) 4).bind fun r3 => chk (((((((([(104 : UInt8), (101 : UInt8), (97 : UInt8), (100 : UInt8)] : List UInt8)) ++ r1)) ++ r2)).length + r3.length) * 1 ≤ 140737488355328) (some ((((((([(104 : UInt8), (101 : UInt8), (97 : UInt8), (100 : UInt8)] : List UInt8)) ++ r1)) ++ r2)) ++ r3))))
set_option maxRecDepth 100000 in
set_option maxHeartbeats 4000000 in
theorem page_head_bytes.c {B : World} {hs : List MP} {w : World} {a0 : Int × Int} (hS : St B (hs) w) {r : List UInt8} (hr : page_head_bytes.impl a0 = some r) :
    Calls Try.prog 32 #[.agg #[.int .u64 a0.1, .int .i64 a0.2]] w fun e w' => ∃ x : (Option Addr × Nat), e = .returned (.slice x.1 r.length x.2) ∧ St B (Bf E8 5 x.1 x.2 r :: hs) w' := by
 unfold page_head_bytes.impl at hr
 refine calls_T Try.func32 rfl rfl rfl hS ?_
 refine T.seq ?_
 refine T.region ?_
 refine T.boxS .list rfl (wants0 rfl) rfl rfl (cs := [.int .u64 a0.1, .int .i64 a0.2]) rfl (fun b1 => ?_)
 refine T.assign .list rfl (wants0 rfl) rfl rfl ?_
 refine T.nil ?_
 refine T.then_normal ?_
 refine T.seq ?_
 refine T.region ?_
 refine T.lit (E := E8) .list (vals := [(0, .int .u8 104), (1, .int .u8 101), (2, .int .u8 97), (3, .int .u8 100)]) (cells := #[.int .u8 104, .int .u8 101, .int .u8 97, .int .u8 100]) rfl (wants0 rfl) rfl rfl rfl rfl rfl (by kernel_rfl) ([(104 : UInt8), (101 : UInt8), (97 : UInt8), (100 : UInt8)] : List UInt8) rfl (fun _ _ _ _ _ => (Encs.c1 (enc := b8) (h1 := fun _ => rfl) rfl (Encs.c1 (enc := b8) (h1 := fun _ => rfl) rfl (Encs.c1 (enc := b8) (h1 := fun _ => rfl) rfl (Encs.c1 (enc := b8) (h1 := fun _ => rfl) rfl rfl))))) (fun b2 => ?_)
 refine T.stringish .list 0 rfl rfl (wants0 rfl) rfl rfl rfl ?_
 refine T.field .list rfl (wants0 rfl) rfl rfl ?_
 refine T.load .list 1 rfl rfl (wants0 rfl) rfl rfl rfl ?_
 obtain ⟨r1, hg1, hr⟩ := inv_bind hr
 refine T.call .list (wants0 rfl) rfl (run_callF (vs := [_, _]) rfl Try.func44 rfl (by decide) rfl) (fun w hS => page_big.c hS  hg1) (fun x1 => ?_)
 obtain ⟨hc1, hr⟩ := inv_chk hr
 refine T.appGrow .list 1 0 rfl rfl rfl (wants0 rfl) rfl rfl rfl rfl rfl hc1 (fun A2 c2 => ?_)
 refine T.assign .list rfl (wants0 rfl) rfl rfl ?_
 refine T.nil ?_
 refine T.then_normal ?_
 refine T.seq ?_
 refine T.region ?_
 refine T.move .list rfl (wants0 rfl) rfl rfl ?_
 refine T.field .list rfl (wants0 rfl) rfl rfl ?_
 refine T.load .list 3 rfl rfl (wants0 rfl) rfl rfl rfl ?_
 refine T.conv .list rfl (wants0 rfl) rfl rfl rfl ?_
 obtain ⟨r2, hg2, hr⟩ := inv_bind hr
 refine T.call .list (wants0 rfl) rfl (run_callF (vs := [_, _]) rfl Try.func44 rfl (by decide) rfl) (fun w hS => page_big.c hS  hg2) (fun x2 => ?_)
 obtain ⟨hc2, hr⟩ := inv_chk hr
 refine T.appBf .list 1 0 rfl rfl rfl rfl rfl (wants0 rfl) rfl rfl rfl rfl rfl rfl hc2 (fun _ _ => rfl) (fun A3 c3 => ?_)
 refine T.assign .list rfl (wants0 rfl) rfl rfl ?_
 refine T.nil ?_
 refine T.then_normal ?_
 refine T.seq ?_
 refine T.region ?_
 refine T.move .list rfl (wants0 rfl) rfl rfl ?_
 refine T.field .list rfl (wants0 rfl) rfl rfl ?_
 refine T.load .list 4 rfl rfl (wants0 rfl) rfl rfl rfl ?_
 refine T.bin .list rfl (wants0 rfl) rfl rfl rfl rfl ?_
 obtain ⟨r3, hg3, hr⟩ := inv_bind hr
 refine T.call .list (wants0 rfl) rfl (run_callF (vs := [_, _]) rfl Try.func44 rfl (by decide) rfl) (fun w hS => page_big.c hS  hg3) (fun x3 => ?_)
 obtain ⟨hc3, hr⟩ := inv_chk hr
 refine T.appBf .list 2 0 rfl rfl rfl rfl rfl (wants0 rfl) rfl rfl rfl rfl rfl rfl hc3 (fun _ _ => rfl) (fun A4 c4 => ?_)
 refine T.assign .list rfl (wants0 rfl) rfl rfl ?_
 refine T.nil ?_
 refine T.then_normal ?_
 refine T.ret ?_
 obtain rfl := inv_some hr
 refine T.pick [2] 6 rfl rfl (Nat.le_add_left _ _) rfl ?_
 refine T.ret1 rfl rfl (fun w hS => ⟨(A4, c4), rfl, hS⟩)

noncomputable def page_readHead.k3 (s1 : Int × Int) (s3 : Bool) : Option ((Int × Int) × Bool) :=
  some ((s1.1, s1.2), s3)
noncomputable def page_readHead.k2 (s1 : Int × Int) (a1 : Int) (s2 : Bool) : Option ((Int × Int) × Bool) :=
  (if s2 = true then (if ((decide (s1.1 ≤ 4611686018427387904))) = true then (if ((decide (s1.2 = 1))) = true then page_readHead.k3 s1 false else (if ((decide (s1.2 < a1))) = true then (if ((decide (s1.1 = 0))) = true then page_readHead.k3 s1 (decide (s1.2 = 0)) else page_readHead.k3 s1 true) else page_readHead.k3 s1 false)) else page_readHead.k3 s1 false) else page_readHead.k3 s1 false)
noncomputable def page_readHead.k1 (l0 : List UInt8) (a1 : Int) (s1 : Int × Int) : Option ((Int × Int) × Bool) :=
  chk (0 ≤ (20 : Int) ∧ (20 : Int) ≤ (l0.length : Int)) ((page_head_bytes.impl ((s1.1, s1.2))).bind fun r2 => (bytes_Equal.impl (subl l0 0 20) r2).bind fun r3 => (if r3 = true then chk (0 ≤ (20 : Int) ∧ (20 : Int) ≤ ((l0.length : Int)) ∧ ((l0.length : Int)) ≤ (l0.length : Int)) ((page_zero.impl (subl l0 20 ((l0.length : Int)))).bind fun r4 => page_readHead.k2 s1 a1 r4) else page_readHead.k2 s1 a1 false))
noncomputable def page_readHead.impl (l0 : List UInt8) (a1 : Int) : Option ((Int × Int) × Bool) :=
  (page_zero.impl l0).bind fun r1 => (if r1 = true then some ((0, 0), true) else chk (0 ≤ (4 : Int) ∧ (4 : Int) ≤ (12 : Int) ∧ (12 : Int) ≤ (l0.length : Int)) (chk (0 ≤ (12 : Int) ∧ (12 : Int) ≤ (16 : Int) ∧ (16 : Int) ≤ (l0.length : Int)) ((page_small.impl (subl l0 4 12)).bind fun r5 => (page_small.impl (subl l0 12 16)).bind fun r6 => page_readHead.k1 l0 a1 (r5, IntKind.i64.wrap r6))))
set_option maxRecDepth 100000 in
set_option maxHeartbeats 4000000 in
theorem page_readHead.c {B : World} {hs : List MP} {w : World} {i0 c0 : Nat} {A0 : Option Addr} {l0 : List UInt8} {a1 : Int} (hS : St B (hs) w) (h0 : (hs)[i0]? = some (Ro E8 A0 c0 l0)) {r : (Int × Int) × Bool} (hr : page_readHead.impl l0 a1 = some r) :
    Calls Try.prog 27 #[.slice A0 l0.length c0, .int .i64 a1] w fun e w' => ∃ x : Unit, e = .returned (.tuple #[.agg #[.int .u64 r.1.1, .int .i64 r.1.2], .bool r.2]) ∧ St B (hs) w' := by
 unfold page_readHead.impl at hr
 refine calls_T Try.func27 rfl rfl rfl hS ?_
 refine T.front i0 h0 ?_
 refine T.seq ?_
 refine T.region ?_
 refine T.allocS .list rfl (wants0 rfl) rfl (cs := [.int .u64 0, .int .i64 0]) rfl (fun b1 => ?_)
 refine T.assign .list rfl (wants0 rfl) rfl rfl ?_
 refine T.nil ?_
 refine T.then_normal ?_
 refine T.seq ?_
 refine T.seq ?_
 refine T.region ?_
 refine T.move .list rfl (wants0 rfl) rfl rfl ?_
 obtain ⟨r1, hg1, hr⟩ := inv_bind hr
 refine T.call .list (wants0 rfl) rfl (run_callF (vs := [_]) rfl Try.func36 rfl (by decide) rfl) (fun w hS => page_zero.c hS (i0 := 1) rfl hg1) (fun x1 => ?_)
 refine T.nil ?_
 refine T.then_normal ?_
 refine T.cond rfl (fun hb1 => ?_) (fun hb1 => ?_)
 ·replace hr := inv_posB hb1 hr
  refine T.seq ?_
  refine T.region ?_
  refine T.build .list (vals := []) (cells := #[.int .u64 0, .int .i64 0]) rfl (wants0 rfl) rfl rfl (run_buildStruct (sizes := [1, 1]) (by kernel_rfl) (by kernel_rfl)) ?_
  refine T.store .list 0 rfl rfl (wants0 rfl) rfl rfl rfl rfl (Nat.le_of_ble_eq_true rfl) rfl (cs' := [.int .u64 0, .int .i64 0]) rfl rfl ?_
  refine T.assign .list rfl (wants0 rfl) rfl rfl ?_
  refine T.nil ?_
  refine T.then_normal ?_
  refine T.ret ?_
  refine T.then_ret ?_
  obtain rfl := inv_some hr
  refine T.out2 rfl (OutRun.cellN 0 rfl rfl (vs := [.int .u64 0, .int .i64 0]) rfl rfl) (OutRun.tmp rfl) (fun w hS => ⟨(), rfl, hS.pick [] 2 rfl rfl (Nat.le_add_left _ _) rfl⟩)
 ·replace hr := inv_negB hb1 hr
  refine T.skip ?_
  refine T.then_normal ?_
  refine T.seqJ (fun (s1 : Int × Int) (x2 : (Nat)) => [(0, .slice A0 l0.length c0), (1, .int .i64 a1), (4, .pointer (some ⟨b1, 0, none⟩)), (6, .pointer (some ⟨x2, 0, none⟩))]) (fun s1 x2 => Ro E8 A0 c0 l0 :: Cl b1 43 [.int .u64 0, .int .i64 0] :: Cl x2 43 [.int .u64 s1.1, .int .i64 s1.2] :: hs) (fun s1 => page_readHead.k1 l0 a1 s1 = some r) (fun s1 x2 hk1 => ?_) (fun J1 => ?_)
  ·unfold page_readHead.k1 at hk1
   refine T.seqJ (fun (s2 : Bool) (x3 : Unit) => [(1, .int .i64 a1), (4, .pointer (some ⟨b1, 0, none⟩)), (6, .pointer (some ⟨x2, 0, none⟩)), (7, .bool s2)]) (fun s2 x3 => Cl b1 43 [.int .u64 0, .int .i64 0] :: Cl x2 43 [.int .u64 s1.1, .int .i64 s1.2] :: hs) (fun s2 => page_readHead.k2 s1 a1 s2 = some r) (fun s2 x3 hk2 => ?_) (fun J2 => ?_)
   ·unfold page_readHead.k2 at hk2
    refine T.seqJ (fun (s3 : Bool) (x4 : Unit) => [(4, .pointer (some ⟨b1, 0, none⟩)), (6, .pointer (some ⟨x2, 0, none⟩)), (7, .bool s3)]) (fun s3 x4 => Cl b1 43 [.int .u64 0, .int .i64 0] :: Cl x2 43 [.int .u64 s1.1, .int .i64 s1.2] :: hs) (fun s3 => page_readHead.k3 s1 s3 = some r) (fun s3 x4 hk3 => ?_) (fun J3 => ?_)
    ·unfold page_readHead.k3 at hk3
     refine T.seq ?_
     refine T.region ?_
     refine T.loadN .list 1 rfl rfl (wants0 rfl) rfl rfl (vs := [.int .u64 s1.1, .int .i64 s1.2]) rfl rfl ?_
     refine T.move .list rfl (wants0 rfl) rfl rfl ?_
     refine T.store .list 0 rfl rfl (wants0 rfl) rfl rfl rfl rfl (Nat.le_of_ble_eq_true rfl) rfl (cs' := [.int .u64 s1.1, .int .i64 s1.2]) rfl rfl ?_
     refine T.assign .list rfl (wants0 rfl) rfl rfl ?_
     refine T.nil ?_
     refine T.then_normal ?_
     refine T.ret ?_
     obtain rfl := inv_some hk3
     refine T.out2 rfl (OutRun.cellN 0 rfl rfl (vs := [.int .u64 s1.1, .int .i64 s1.2]) rfl rfl) (OutRun.tmp rfl) (fun w hS => ⟨(), rfl, hS.pick [] 2 rfl rfl (Nat.le_add_left _ _) rfl⟩)
    ·refine T.region ?_
     refine T.move .list rfl (wants0 rfl) rfl rfl ?_
     refine T.move .list rfl (wants0 rfl) rfl rfl ?_
     refine T.bool (b := s2) (fun hb2 => ?_) (fun hb2 => ?_)
     ·replace hk2 := inv_posB hb2 hk2
      refine T.field .list rfl (wants1 rfl rfl rfl hb2) rfl rfl ?_
      refine T.load .list 1 rfl rfl (wants1 rfl rfl rfl hb2) rfl rfl rfl ?_
      refine T.bin .list rfl (wants1 rfl rfl rfl hb2) rfl rfl rfl rfl ?_
      refine T.pickT .list rfl (wants0 rfl) rfl rfl hb2 rfl ?_
      refine T.move .list rfl (wants0 rfl) rfl rfl ?_
      refine T.bool (b := (decide (s1.1 ≤ 4611686018427387904))) (fun hb3 => ?_) (fun hb3 => ?_)
      ·replace hk2 := inv_posB hb3 hk2
       refine T.field .list rfl (wants1 rfl rfl rfl hb3) rfl rfl ?_
       refine T.load .list 1 rfl rfl (wants1 rfl rfl rfl hb3) rfl rfl rfl ?_
       refine T.bin .list rfl (wants1 rfl rfl rfl hb3) rfl rfl rfl rfl ?_
       refine T.pickT .list rfl (wants0 rfl) rfl rfl hb3 rfl ?_
       refine T.move .list rfl (wants0 rfl) rfl rfl ?_
       refine T.bool (b := (decide (s1.2 = 1))) (fun hb4 => ?_) (fun hb4 => ?_)
       ·replace hk2 := inv_posB hb4 hk2
        refine T.leave .list (wantsNot rfl rfl rfl (not_t hb4)) rfl ?_
        refine T.leave .list (wantsNot rfl rfl rfl (not_t hb4)) rfl ?_
        refine T.leave .list (wantsNot rfl rfl rfl (not_t hb4)) rfl ?_
        refine T.leave .list (wantsNot rfl rfl rfl (not_t hb4)) rfl ?_
        refine T.pickF .list rfl (wants0 rfl) rfl rfl (not_t hb4) rfl ?_
        refine T.move .list rfl (wants0 rfl) rfl rfl ?_
        refine T.leave .list (wantsNot rfl rfl rfl rfl) rfl ?_
        refine T.leave .list (wantsNot rfl rfl rfl rfl) rfl ?_
        refine T.leave .list (wantsNot rfl rfl rfl rfl) rfl ?_
        refine T.leave .list (wantsNot rfl rfl rfl rfl) rfl ?_
        refine T.leave .list (wantsUndef rfl rfl rfl) rfl ?_
        refine T.leave .list (wantsUndef rfl rfl rfl) rfl ?_
        refine T.leave .list (wantsUndef rfl rfl rfl) rfl ?_
        refine T.leave .list (wantsNot rfl rfl rfl rfl) rfl ?_
        refine T.pickF .list rfl (wants0 rfl) rfl rfl rfl rfl ?_
        refine T.assign .list rfl (wants0 rfl) rfl rfl ?_
        refine T.nil ?_
        refine T.then_normal ?_
        exact T.le (EnvLe.cons rfl (EnvLe.cons rfl (EnvLe.cons rfl EnvLe.nil))) (T.pick [0, 1] 2 rfl rfl (Nat.le_add_left _ _) rfl (J3 false () hk2))
       ·replace hk2 := inv_negB hb4 hk2
        refine T.field .list rfl (wants1 rfl rfl rfl (not_f hb4)) rfl rfl ?_
        refine T.load .list 1 rfl rfl (wants1 rfl rfl rfl (not_f hb4)) rfl rfl rfl ?_
        refine T.move .list rfl (wants1 rfl rfl rfl (not_f hb4)) rfl rfl ?_
        refine T.bin .list rfl (wants1 rfl rfl rfl (not_f hb4)) rfl rfl rfl rfl ?_
        refine T.pickT .list rfl (wants0 rfl) rfl rfl (not_f hb4) rfl ?_
        refine T.move .list rfl (wants0 rfl) rfl rfl ?_
        refine T.bool (b := (decide (s1.2 < a1))) (fun hb5 => ?_) (fun hb5 => ?_)
        ·replace hk2 := inv_posB hb5 hk2
         refine T.field .list rfl (wants1 rfl rfl rfl hb5) rfl rfl ?_
         refine T.load .list 1 rfl rfl (wants1 rfl rfl rfl hb5) rfl rfl rfl ?_
         refine T.bin .list rfl (wants1 rfl rfl rfl hb5) rfl rfl rfl rfl ?_
         refine T.move .list rfl (wants1 rfl rfl rfl hb5) rfl rfl ?_
         refine T.bool (b := (decide (s1.1 = 0))) (fun hb6 => ?_) (fun hb6 => ?_)
         ·replace hk2 := inv_posB hb6 hk2
          refine T.field .list rfl (wants1 rfl rfl rfl (not_t hb6)) rfl rfl ?_
          refine T.load .list 1 rfl rfl (wants1 rfl rfl rfl (not_t hb6)) rfl rfl rfl ?_
          refine T.bin .list rfl (wants1 rfl rfl rfl (not_t hb6)) rfl rfl rfl rfl ?_
          refine T.pickF .list rfl (wants1 rfl rfl rfl hb5) rfl rfl (not_t hb6) rfl ?_
          refine T.pickT .list rfl (wants0 rfl) rfl rfl hb5 rfl ?_
          refine T.assign .list rfl (wants0 rfl) rfl rfl ?_
          refine T.nil ?_
          refine T.then_normal ?_
          exact T.le (EnvLe.cons rfl (EnvLe.cons rfl (EnvLe.cons rfl EnvLe.nil))) (T.pick [0, 1] 2 rfl rfl (Nat.le_add_left _ _) rfl (J3 (decide (s1.2 = 0)) () hk2))
         ·replace hk2 := inv_negB hb6 hk2
          refine T.leave .list (wantsNot rfl rfl rfl (not_f hb6)) rfl ?_
          refine T.leave .list (wantsNot rfl rfl rfl (not_f hb6)) rfl ?_
          refine T.leave .list (wantsNot rfl rfl rfl (not_f hb6)) rfl ?_
          refine T.pickT .list rfl (wants1 rfl rfl rfl hb5) rfl rfl (not_f hb6) rfl ?_
          refine T.pickT .list rfl (wants0 rfl) rfl rfl hb5 rfl ?_
          refine T.assign .list rfl (wants0 rfl) rfl rfl ?_
          refine T.nil ?_
          refine T.then_normal ?_
          exact T.le (EnvLe.cons rfl (EnvLe.cons rfl (EnvLe.cons rfl EnvLe.nil))) (T.pick [0, 1] 2 rfl rfl (Nat.le_add_left _ _) rfl (J3 true () hk2))
        ·replace hk2 := inv_negB hb5 hk2
         refine T.leave .list (wantsNot rfl rfl rfl hb5) rfl ?_
         refine T.leave .list (wantsNot rfl rfl rfl hb5) rfl ?_
         refine T.leave .list (wantsNot rfl rfl rfl hb5) rfl ?_
         refine T.leave .list (wantsNot rfl rfl rfl hb5) rfl ?_
         refine T.leave .list (wantsUndef rfl rfl rfl) rfl ?_
         refine T.leave .list (wantsUndef rfl rfl rfl) rfl ?_
         refine T.leave .list (wantsUndef rfl rfl rfl) rfl ?_
         refine T.leave .list (wantsNot rfl rfl rfl hb5) rfl ?_
         refine T.pickF .list rfl (wants0 rfl) rfl rfl hb5 rfl ?_
         refine T.assign .list rfl (wants0 rfl) rfl rfl ?_
         refine T.nil ?_
         refine T.then_normal ?_
         exact T.le (EnvLe.cons rfl (EnvLe.cons rfl (EnvLe.cons rfl EnvLe.nil))) (T.pick [0, 1] 2 rfl rfl (Nat.le_add_left _ _) rfl (J3 false () hk2))
      ·replace hk2 := inv_negB hb3 hk2
       refine T.leave .list (wantsNot rfl rfl rfl hb3) rfl ?_
       refine T.leave .list (wantsNot rfl rfl rfl hb3) rfl ?_
       refine T.leave .list (wantsNot rfl rfl rfl hb3) rfl ?_
       refine T.pickF .list rfl (wants0 rfl) rfl rfl hb3 rfl ?_
       refine T.move .list rfl (wants0 rfl) rfl rfl ?_
       refine T.leave .list (wantsNot rfl rfl rfl rfl) rfl ?_
       refine T.leave .list (wantsNot rfl rfl rfl rfl) rfl ?_
       refine T.leave .list (wantsNot rfl rfl rfl rfl) rfl ?_
       refine T.leave .list (wantsNot rfl rfl rfl rfl) rfl ?_
       refine T.pickF .list rfl (wants0 rfl) rfl rfl rfl rfl ?_
       refine T.move .list rfl (wants0 rfl) rfl rfl ?_
       refine T.leave .list (wantsNot rfl rfl rfl rfl) rfl ?_
       refine T.leave .list (wantsNot rfl rfl rfl rfl) rfl ?_
       refine T.leave .list (wantsNot rfl rfl rfl rfl) rfl ?_
       refine T.leave .list (wantsNot rfl rfl rfl rfl) rfl ?_
       refine T.leave .list (wantsUndef rfl rfl rfl) rfl ?_
       refine T.leave .list (wantsUndef rfl rfl rfl) rfl ?_
       refine T.leave .list (wantsUndef rfl rfl rfl) rfl ?_
       refine T.leave .list (wantsNot rfl rfl rfl rfl) rfl ?_
       refine T.pickF .list rfl (wants0 rfl) rfl rfl rfl rfl ?_
       refine T.assign .list rfl (wants0 rfl) rfl rfl ?_
       refine T.nil ?_
       refine T.then_normal ?_
       exact T.le (EnvLe.cons rfl (EnvLe.cons rfl (EnvLe.cons rfl EnvLe.nil))) (T.pick [0, 1] 2 rfl rfl (Nat.le_add_left _ _) rfl (J3 false () hk2))
     ·replace hk2 := inv_negB hb2 hk2
      refine T.leave .list (wantsNot rfl rfl rfl hb2) rfl ?_
      refine T.leave .list (wantsNot rfl rfl rfl hb2) rfl ?_
      refine T.leave .list (wantsNot rfl rfl rfl hb2) rfl ?_
      refine T.pickF .list rfl (wants0 rfl) rfl rfl hb2 rfl ?_
      refine T.move .list rfl (wants0 rfl) rfl rfl ?_
      refine T.leave .list (wantsNot rfl rfl rfl rfl) rfl ?_
      refine T.leave .list (wantsNot rfl rfl rfl rfl) rfl ?_
      refine T.leave .list (wantsNot rfl rfl rfl rfl) rfl ?_
      refine T.pickF .list rfl (wants0 rfl) rfl rfl rfl rfl ?_
      refine T.move .list rfl (wants0 rfl) rfl rfl ?_
      refine T.leave .list (wantsNot rfl rfl rfl rfl) rfl ?_
      refine T.leave .list (wantsNot rfl rfl rfl rfl) rfl ?_
      refine T.leave .list (wantsNot rfl rfl rfl rfl) rfl ?_
      refine T.leave .list (wantsNot rfl rfl rfl rfl) rfl ?_
      refine T.pickF .list rfl (wants0 rfl) rfl rfl rfl rfl ?_
      refine T.move .list rfl (wants0 rfl) rfl rfl ?_
      refine T.leave .list (wantsNot rfl rfl rfl rfl) rfl ?_
      refine T.leave .list (wantsNot rfl rfl rfl rfl) rfl ?_
      refine T.leave .list (wantsNot rfl rfl rfl rfl) rfl ?_
      refine T.leave .list (wantsNot rfl rfl rfl rfl) rfl ?_
      refine T.leave .list (wantsUndef rfl rfl rfl) rfl ?_
      refine T.leave .list (wantsUndef rfl rfl rfl) rfl ?_
      refine T.leave .list (wantsUndef rfl rfl rfl) rfl ?_
      refine T.leave .list (wantsNot rfl rfl rfl rfl) rfl ?_
      refine T.pickF .list rfl (wants0 rfl) rfl rfl rfl rfl ?_
      refine T.assign .list rfl (wants0 rfl) rfl rfl ?_
      refine T.nil ?_
      refine T.then_normal ?_
      exact T.le (EnvLe.cons rfl (EnvLe.cons rfl (EnvLe.cons rfl EnvLe.nil))) (T.pick [0, 1] 2 rfl rfl (Nat.le_add_left _ _) rfl (J3 false () hk2))
   ·refine T.plan [(0, 0), (1, 0), (2, 1), (3, 2), (4, 2), (5, 0), (6, 0), (7, 0), (8, 2), (9, 0), (10, 0)] mixed (by kernel_rfl) (by kernel_rfl) rfl (fun d _ _ _ _ h => by cases d <;> exact h) ?_
    refine T.move (.plan rfl) rfl (wants0 rfl) rfl rfl ?_
    obtain ⟨hc1, hk1⟩ := inv_chk hk1
    refine T.cut0 (.plan rfl) 0 rfl rfl rfl (wants0 rfl) rfl rfl (.inl rfl) (.inr ⟨_, _, rfl, rfl⟩) hc1.1 hc1.2 ?_
    refine T.loadN (.plan rfl) 3 rfl rfl (wants0 rfl) rfl rfl (vs := [.int .u64 s1.1, .int .i64 s1.2]) rfl rfl ?_
    obtain ⟨r2, hg2, hk1⟩ := inv_bind hk1
    refine T.call (.plan rfl) (wants0 rfl) rfl (run_callF (vs := [_]) rfl Try.func32 rfl (by decide) rfl) (fun w hS => page_head_bytes.c hS (a0 := (s1.1, s1.2))  hg2) (fun x5 => ?_)
    obtain ⟨r3, hg3, hk1⟩ := inv_bind hk1
    refine T.call (.plan rfl) (wants0 rfl) rfl (run_callF (vs := [_, _]) rfl Try.func42 rfl (by decide) rfl) (fun w hS => (bytes_Equal.c (St.borrow (ros := [Ro E8 A0 c0 (subl l0 0 20), Ro E8 x5.1 x5.2 r2]) (Ros.cons (hS.roRo 1 rfl) (Ros.cons (hS.roBf 0 rfl rfl) Ros.nil))) (i0 := 0) (i1 := 1) rfl rfl hg3).mono fun e w' ⟨x, he, h1⟩ => ⟨x, he, hS.unborrow (post := []) h1 Frees.nil⟩) (fun x6 => ?_)
    refine T.move (.plan rfl) rfl (wants0 rfl) rfl rfl ?_
    refine T.bool (b := r3) (fun hb7 => ?_) (fun hb7 => ?_)
    ·replace hk1 := inv_posB hb7 hk1
     refine T.move (.plan rfl) rfl (wants1 rfl rfl rfl hb7) rfl rfl ?_
     obtain ⟨hc2, hk1⟩ := inv_chk hk1
     refine T.cut (.plan rfl) 2 rfl rfl rfl (wants1 rfl rfl rfl hb7) rfl rfl (.inr ⟨_, _, rfl, rfl⟩) (.inl ⟨rfl, rfl⟩) hc2.1 hc2.2.1 hc2.2.2 ?_
     obtain ⟨r4, hg4, hk1⟩ := inv_bind hk1
     refine T.call (.plan rfl) (wants1 rfl rfl rfl hb7) rfl (run_callF (vs := [_]) rfl Try.func36 rfl (by decide) rfl) (fun w hS => page_zero.c hS (i0 := 0) rfl hg4) (fun x7 => ?_)
     refine T.pickT (.plan rfl) rfl (wants0 rfl) rfl rfl hb7 rfl ?_
     refine T.assign (.plan rfl) rfl (wants0 rfl) rfl rfl ?_
     refine T.planEnd ?_
     refine T.then_normal ?_
     exact T.le (EnvLe.cons rfl (EnvLe.cons rfl (EnvLe.cons rfl (EnvLe.cons rfl EnvLe.nil)))) (T.pick [4, 5] 6 rfl rfl (Nat.le_add_left _ _) rfl (J2 r4 () hk1))
    ·replace hk1 := inv_negB hb7 hk1
     refine T.leave (.plan rfl) (wantsNot rfl rfl rfl hb7) rfl ?_
     refine T.leave (.plan rfl) (wantsNot rfl rfl rfl hb7) rfl ?_
     refine T.leave (.plan rfl) (wantsNot rfl rfl rfl hb7) rfl ?_
     refine T.pickF (.plan rfl) rfl (wants0 rfl) rfl rfl hb7 rfl ?_
     refine T.assign (.plan rfl) rfl (wants0 rfl) rfl rfl ?_
     refine T.planEnd ?_
     refine T.then_normal ?_
     exact T.le (EnvLe.cons rfl (EnvLe.cons rfl (EnvLe.cons rfl (EnvLe.cons rfl EnvLe.nil)))) (T.pick [3, 4] 5 rfl rfl (Nat.le_add_left _ _) rfl (J2 false () hk1))
  ·refine T.dStart mixed ?_
   refine T.move (.dPure (i := 0) rfl (by kernel_rfl) (fun d _ _ _ _ h => by cases d <;> exact h)) rfl (wants0 rfl) rfl rfl ?_
   obtain ⟨hc3, hr⟩ := inv_chk hr
   refine T.cut (.dPure (i := 1) rfl (by kernel_rfl) (fun d _ _ _ _ h => by cases d <;> exact h)) 1 rfl rfl rfl (wants0 rfl) rfl rfl (.inr ⟨_, _, rfl, rfl⟩) (.inr ⟨_, _, rfl, rfl⟩) hc3.1 hc3.2.1 hc3.2.2 ?_
   refine T.move (.dPure (i := 3) rfl (by kernel_rfl) (fun d _ _ _ _ h => by cases d <;> exact h)) rfl (wants0 rfl) rfl rfl ?_
   obtain ⟨hc4, hr⟩ := inv_chk hr
   refine T.cut (.dPure (i := 4) rfl (by kernel_rfl) (fun d _ _ _ _ h => by cases d <;> exact h)) 2 rfl rfl rfl (wants0 rfl) rfl rfl (.inr ⟨_, _, rfl, rfl⟩) (.inr ⟨_, _, rfl, rfl⟩) hc4.1 hc4.2.1 hc4.2.2 ?_
   obtain ⟨r5, hg5, hr⟩ := inv_bind hr
   obtain ⟨r6, hg6, hr⟩ := inv_bind hr
   refine T.d2 (i := 2) (j := 8) (by kernel_rfl) ?_ ?_ 
   ·refine T.call (.dOne rfl (by kernel_rfl)) (wants0 rfl) rfl (run_callF (vs := [_]) rfl Try.func35 rfl (by decide) rfl) (fun w hS => page_small.c hS (i0 := 1) rfl hg5) (fun x8 => ?_)
    refine T.dNext phi_nil ?_
    refine T.d2 (i := 5) (j := 8) (by kernel_rfl) ?_ ?_ 
    ·refine T.call (.dOne rfl (by kernel_rfl)) (wants0 rfl) rfl (run_callF (vs := [_]) rfl Try.func35 rfl (by decide) rfl) (fun w hS => page_small.c hS (i0 := 0) rfl hg6) (fun x9 => ?_)
     refine T.dNext phi_nil ?_
     refine T.conv (.dPure (i := 6) rfl (by kernel_rfl) (fun d _ _ _ _ h => by cases d <;> exact h)) rfl (wants0 rfl) rfl rfl rfl ?_
     refine T.build (.dPure (i := 7) rfl (by kernel_rfl) (fun d _ _ _ _ h => by cases d <;> exact h)) (vals := [(0, .int .u64 r5), (1, .int .i64 (IntKind.i64.wrap r6))]) (cells := #[.int .u64 r5, .int .i64 (IntKind.i64.wrap r6)]) rfl (wants0 rfl) rfl rfl (run_buildStruct (sizes := [1, 1]) (by kernel_rfl) (by kernel_rfl)) ?_
     refine T.dOnly (i := 8) (by kernel_rfl) ?_
     refine T.allocS (.dOne rfl (by kernel_rfl)) rfl (wants0 rfl) rfl (cs := [.int .u64 0, .int .i64 0]) rfl (fun b2 => ?_)
     refine T.dNext phi_nil ?_
     refine T.dOnly (i := 9) (by kernel_rfl) ?_
     refine T.store (.dOne rfl (by kernel_rfl)) 0 rfl rfl (wants0 rfl) rfl rfl rfl rfl (Nat.le_of_ble_eq_true rfl) rfl (cs' := [.int .u64 r5, .int .i64 (IntKind.i64.wrap r6)]) rfl rfl ?_
     refine T.dNext phi_nil ?_
     refine T.dDone (by kernel_rfl) ?_
     refine T.then_normal ?_
     exact T.le (EnvLe.cons rfl (EnvLe.cons rfl (EnvLe.cons rfl (EnvLe.cons rfl EnvLe.nil)))) (T.pick [4, 3, 0] 5 rfl rfl (Nat.le_add_left _ _) rfl (J1 (r5, IntKind.i64.wrap r6) b2 hr))
    ·refine T.allocS (.dOne rfl (by kernel_rfl)) rfl (wants0 rfl) rfl (cs := [.int .u64 0, .int .i64 0]) rfl (fun b2 => ?_)
     refine T.dNext phi_nil ?_
     refine T.dOnly (i := 5) (by kernel_rfl) ?_
     refine T.call (.dOne rfl (by kernel_rfl)) (wants0 rfl) rfl (run_callF (vs := [_]) rfl Try.func35 rfl (by decide) rfl) (fun w hS => page_small.c hS (i0 := 1) rfl hg6) (fun x9 => ?_)
     refine T.dNext phi_nil ?_
     refine T.conv (.dPure (i := 6) rfl (by kernel_rfl) (fun d _ _ _ _ h => by cases d <;> exact h)) rfl (wants0 rfl) rfl rfl rfl ?_
     refine T.build (.dPure (i := 7) rfl (by kernel_rfl) (fun d _ _ _ _ h => by cases d <;> exact h)) (vals := [(0, .int .u64 r5), (1, .int .i64 (IntKind.i64.wrap r6))]) (cells := #[.int .u64 r5, .int .i64 (IntKind.i64.wrap r6)]) rfl (wants0 rfl) rfl rfl (run_buildStruct (sizes := [1, 1]) (by kernel_rfl) (by kernel_rfl)) ?_
     refine T.dOnly (i := 9) (by kernel_rfl) ?_
     refine T.store (.dOne rfl (by kernel_rfl)) 0 rfl rfl (wants0 rfl) rfl rfl rfl rfl (Nat.le_of_ble_eq_true rfl) rfl (cs' := [.int .u64 r5, .int .i64 (IntKind.i64.wrap r6)]) rfl rfl ?_
     refine T.dNext phi_nil ?_
     refine T.dDone (by kernel_rfl) ?_
     refine T.then_normal ?_
     exact T.le (EnvLe.cons rfl (EnvLe.cons rfl (EnvLe.cons rfl (EnvLe.cons rfl EnvLe.nil)))) (T.pick [4, 3, 0] 5 rfl rfl (Nat.le_add_left _ _) rfl (J1 (r5, IntKind.i64.wrap r6) b2 hr))
   ·refine T.allocS (.dOne rfl (by kernel_rfl)) rfl (wants0 rfl) rfl (cs := [.int .u64 0, .int .i64 0]) rfl (fun b2 => ?_)
    refine T.dNext phi_nil ?_
    refine T.dOnly (i := 2) (by kernel_rfl) ?_
    refine T.call (.dOne rfl (by kernel_rfl)) (wants0 rfl) rfl (run_callF (vs := [_]) rfl Try.func35 rfl (by decide) rfl) (fun w hS => page_small.c hS (i0 := 2) rfl hg5) (fun x8 => ?_)
    refine T.dNext phi_nil ?_
    refine T.dOnly (i := 5) (by kernel_rfl) ?_
    refine T.call (.dOne rfl (by kernel_rfl)) (wants0 rfl) rfl (run_callF (vs := [_]) rfl Try.func35 rfl (by decide) rfl) (fun w hS => page_small.c hS (i0 := 1) rfl hg6) (fun x9 => ?_)
    refine T.dNext phi_nil ?_
    refine T.conv (.dPure (i := 6) rfl (by kernel_rfl) (fun d _ _ _ _ h => by cases d <;> exact h)) rfl (wants0 rfl) rfl rfl rfl ?_
    refine T.build (.dPure (i := 7) rfl (by kernel_rfl) (fun d _ _ _ _ h => by cases d <;> exact h)) (vals := [(0, .int .u64 r5), (1, .int .i64 (IntKind.i64.wrap r6))]) (cells := #[.int .u64 r5, .int .i64 (IntKind.i64.wrap r6)]) rfl (wants0 rfl) rfl rfl (run_buildStruct (sizes := [1, 1]) (by kernel_rfl) (by kernel_rfl)) ?_
    refine T.dOnly (i := 9) (by kernel_rfl) ?_
    refine T.store (.dOne rfl (by kernel_rfl)) 0 rfl rfl (wants0 rfl) rfl rfl rfl rfl (Nat.le_of_ble_eq_true rfl) rfl (cs' := [.int .u64 r5, .int .i64 (IntKind.i64.wrap r6)]) rfl rfl ?_
    refine T.dNext phi_nil ?_
    refine T.dDone (by kernel_rfl) ?_
    refine T.then_normal ?_
    exact T.le (EnvLe.cons rfl (EnvLe.cons rfl (EnvLe.cons rfl (EnvLe.cons rfl EnvLe.nil)))) (T.pick [4, 3, 0] 5 rfl rfl (Nat.le_add_left _ _) rfl (J1 (r5, IntKind.i64.wrap r6) b2 hr))

noncomputable def page_laid.impl (l0 : List UInt8) : Option (List UInt8) :=
  chk (0 ≤ (8192 : Int) ∧ (8192 : Int) * 1 ≤ 140737488355328) (chk (0 ≤ (4 : Int) ∧ (4 : Int) ≤ (((List.replicate (8192 : Int).toNat (0 : UInt8)).length : Int)) ∧ (((List.replicate (8192 : Int).toNat (0 : UInt8)).length : Int)) ≤ ((List.replicate (8192 : Int).toNat (0 : UInt8)).length : Int)) ((page_big.impl (IntKind.u64.wrap ((l0.length : Int))) 2).bind fun r1 => chk (0 ≤ (6 : Int) ∧ (6 : Int) ≤ (((((List.replicate (8192 : Int).toNat (0 : UInt8)).take (4 : Int).toNat ++ (r1).take (min r1.length (subl (List.replicate (8192 : Int).toNat (0 : UInt8)) 4 (((List.replicate (8192 : Int).toNat (0 : UInt8)).length : Int))).length) ++ (List.replicate (8192 : Int).toNat (0 : UInt8)).drop ((4 : Int).toNat + (min r1.length (subl (List.replicate (8192 : Int).toNat (0 : UInt8)) 4 (((List.replicate (8192 : Int).toNat (0 : UInt8)).length : Int))).length)))).length : Int)) ∧ (((((List.replicate (8192 : Int).toNat (0 : UInt8)).take (4 : Int).toNat ++ (r1).take (min r1.length (subl (List.replicate (8192 : Int).toNat (0 : UInt8)) 4 (((List.replicate (8192 : Int).toNat (0 : UInt8)).length : Int))).length) ++ (List.replicate (8192 : Int).toNat (0 : UInt8)).drop ((4 : Int).toNat + (min r1.length (subl (List.replicate (8192 : Int).toNat (0 : UInt8)) 4 (((List.replicate (8192 : Int).toNat (0 : UInt8)).length : Int))).length)))).length : Int)) ≤ ((((List.replicate (8192 : Int).toNat (0 : UInt8)).take (4 : Int).toNat ++ (r1).take (min r1.length (subl (List.replicate (8192 : Int).toNat (0 : UInt8)) 4 (((List.replicate (8192 : Int).toNat (0 : UInt8)).length : Int))).length) ++ (List.replicate (8192 : Int).toNat (0 : UInt8)).drop ((4 : Int).toNat + (min r1.length (subl (List.replicate (8192 : Int).toNat (0 : UInt8)) 4 (((List.replicate (8192 : Int).toNat (0 : UInt8)).length : Int))).length)))).length : Int)) (chk (0 ≤ (4 : Int) ∧ (4 : Int) ≤ (((((((List.replicate (8192 : Int).toNat (0 : UInt8)).take (4 : Int).toNat ++ (r1).take (min r1.length (subl (List.replicate (8192 : Int).toNat (0 : UInt8)) 4 (((List.replicate (8192 : Int).toNat (0 : UInt8)).length : Int))).length) ++ (List.replicate (8192 : Int).toNat (0 : UInt8)).drop ((4 : Int).toNat + (min r1.length (subl (List.replicate (8192 : Int).toNat (0 : UInt8)) 4 (((List.replicate (8192 : Int).toNat (0 : UInt8)).length : Int))).length)))).take (6 : Int).toNat ++ (l0).take (min l0.length (subl (((List.replicate (8192 : Int).toNat (0 : UInt8)).take (4 : Int).toNat ++ (r1).take (min r1.length (subl (List.replicate (8192 : Int).toNat (0 : UInt8)) 4 (((List.replicate (8192 : Int).toNat (0 : UInt8)).length : Int))).length) ++ (List.replicate (8192 : Int).toNat (0 : UInt8)).drop ((4 : Int).toNat + (min r1.length (subl (List.replicate (8192 : Int).toNat (0 : UInt8)) 4 (((List.replicate (8192 : Int).toNat (0 : UInt8)).length : Int))).length)))) 6 (((((List.replicate (8192 : Int).toNat (0 : UInt8)).take (4 : Int).toNat ++ (r1).take (min r1.length (subl (List.replicate (8192 : Int).toNat (0 : UInt8)) 4 (((List.replicate (8192 : Int).toNat (0 : UInt8)).length : Int))).length) ++ (List.replicate (8192 : Int).toNat (0 : UInt8)).drop ((4 : Int).toNat + (min r1.length (subl (List.replicate (8192 : Int).toNat (0 : UInt8)) 4 (((List.replicate (8192 : Int).toNat (0 : UInt8)).length : Int))).length)))).length : Int))).length) ++ (((List.replicate (8192 : Int).toNat (0 : UInt8)).take (4 : Int).toNat ++ (r1).take (min r1.length (subl (List.replicate (8192 : Int).toNat (0 : UInt8)) 4 (((List.replicate (8192 : Int).toNat (0 : UInt8)).length : Int))).length) ++ (List.replicate (8192 : Int).toNat (0 : UInt8)).drop ((4 : Int).toNat + (min r1.length (subl (List.replicate (8192 : Int).toNat (0 : UInt8)) 4 (((List.replicate (8192 : Int).toNat (0 : UInt8)).length : Int))).length)))).drop ((6 : Int).toNat + (min l0.length (subl (((List.replicate (8192 : Int).toNat (0 : UInt8)).take (4 : Int).toNat ++ (r1).take (min r1.length (subl (List.replicate (8192 : Int).toNat (0 : UInt8)) 4 (((List.replicate (8192 : Int).toNat (0 : UInt8)).length : Int))).length) ++ (List.replicate (8192 : Int).toNat (0 : UInt8)).drop ((4 : Int).toNat + (min r1.length (subl (List.replicate (8192 : Int).toNat (0 : UInt8)) 4 (((List.replicate (8192 : Int).toNat (0 : UInt8)).length : Int))).length)))) 6 (((((List.replicate (8192 : Int).toNat (0 : UInt8)).take (4 : Int).toNat ++ (r1).take (min r1.length (subl (List.replicate (8192 : Int).toNat (0 : UInt8)) 4 (((List.replicate (8192 : Int).toNat (0 : UInt8)).length : Int))).length) ++ (List.replicate (8192 : Int).toNat (0 : UInt8)).drop ((4 : Int).toNat + (min r1.length (subl (List.replicate (8192 : Int).toNat (0 : UInt8)) 4 (((List.replicate (8192 : Int).toNat (0 : UInt8)).length : Int))).length)))).length : Int))).length)))).length : Int)) ∧ (((((((List.replicate (8192 : Int).toNat (0 : UInt8)).take (4 : Int).toNat ++ (r1).take (min r1.length (subl (List.replicate (8192 : Int).toNat (0 : UInt8)) 4 (((List.replicate (8192 : Int).toNat (0 : UInt8)).length : Int))).length) ++ (List.replicate (8192 : Int).toNat (0 : UInt8)).drop ((4 : Int).toNat + (min r1.length (subl (List.replicate (8192 : Int).toNat (0 : UInt8)) 4 (((List.replicate (8192 : Int).toNat (0 : UInt8)).length : Int))).length)))).take (6 : Int).toNat ++ (l0).take (min l0.length (subl (((List.replicate (8192 : Int).toNat (0 : UInt8)).take (4 : Int).toNat ++ (r1).take (min r1.length (subl (List.replicate (8192 : Int).toNat (0 : UInt8)) 4 (((List.replicate (8192 : Int).toNat (0 : UInt8)).length : Int))).length) ++ (List.replicate (8192 : Int).toNat (0 : UInt8)).drop ((4 : Int).toNat + (min r1.length (subl (List.replicate (8192 : Int).toNat (0 : UInt8)) 4 (((List.replicate (8192 : Int).toNat (0 : UInt8)).length : Int))).length)))) 6 (((((List.replicate (8192 : Int).toNat (0 : UInt8)).take (4 : Int).toNat ++ (r1).take (min r1.length (subl (List.replicate (8192 : Int).toNat (0 : UInt8)) 4 (((List.replicate (8192 : Int).toNat (0 : UInt8)).length : Int))).length) ++ (List.replicate (8192 : Int).toNat (0 : UInt8)).drop ((4 : Int).toNat + (min r1.length (subl (List.replicate (8192 : Int).toNat (0 : UInt8)) 4 (((List.replicate (8192 : Int).toNat (0 : UInt8)).length : Int))).length)))).length : Int))).length) ++ (((List.replicate (8192 : Int).toNat (0 : UInt8)).take (4 : Int).toNat ++ (r1).take (min r1.length (subl (List.replicate (8192 : Int).toNat (0 : UInt8)) 4 (((List.replicate (8192 : Int).toNat (0 : UInt8)).length : Int))).length) ++ (List.replicate (8192 : Int).toNat (0 : UInt8)).drop ((4 : Int).toNat + (min r1.length (subl (List.replicate (8192 : Int).toNat (0 : UInt8)) 4 (((List.replicate (8192 : Int).toNat (0 : UInt8)).length : Int))).length)))).drop ((6 : Int).toNat + (min l0.length (subl (((List.replicate (8192 : Int).toNat (0 : UInt8)).take (4 : Int).toNat ++ (r1).take (min r1.length (subl (List.replicate (8192 : Int).toNat (0 : UInt8)) 4 (((List.replicate (8192 : Int).toNat (0 : UInt8)).length : Int))).length) ++ (List.replicate (8192 : Int).toNat (0 : UInt8)).drop ((4 : Int).toNat + (min r1.length (subl (List.replicate (8192 : Int).toNat (0 : UInt8)) 4 (((List.replicate (8192 : Int).toNat (0 : UInt8)).length : Int))).length)))) 6 (((((List.replicate (8192 : Int).toNat (0 : UInt8)).take (4 : Int).toNat ++ (r1).take (min r1.length (subl (List.replicate (8192 : Int).toNat (0 : UInt8)) 4 (((List.replicate (8192 : Int).toNat (0 : UInt8)).length : Int))).length) ++ (List.replicate (8192 : Int).toNat (0 : UInt8)).drop ((4 : Int).toNat + (min r1.length (subl (List.replicate (8192 : Int).toNat (0 : UInt8)) 4 (((List.replicate (8192 : Int).toNat (0 : UInt8)).length : Int))).length)))).length : Int))).length)))).length : Int)) ≤ ((((((List.replicate (8192 : Int).toNat (0 : UInt8)).take (4 : Int).toNat ++ (r1).take (min r1.length (subl (List.replicate (8192 : Int).toNat (0 : UInt8)) 4 (((List.replicate (8192 : Int).toNat (0 : UInt8)).length : Int))).length) ++ (List.replicate (8192 : Int).toNat (0 : UInt8)).drop ((4 : Int).toNat + (min r1.length (subl (List.replicate (8192 : Int).toNat (0 : UInt8)) 4 (((List.replicate (8192 : Int).toNat (0 : UInt8)).length : Int))).length)))).take (6 : Int).toNat ++ (l0).take (min l0.length (subl (((List.replicate (8192 : Int).toNat (0 : UInt8)).take (4 : Int).toNat ++ (r1).take (min r1.length (subl (List.replicate (8192 : Int).toNat (0 : UInt8)) 4 (((List.replicate (8192 : Int).toNat (0 : UInt8)).length : Int))).length) ++ (List.replicate (8192 : Int).toNat (0 : UInt8)).drop ((4 : Int).toNat + (min r1.length (subl (List.replicate (8192 : Int).toNat (0 : UInt8)) 4 (((List.replicate (8192 : Int).toNat (0 : UInt8)).length : Int))).length)))) 6 (((((List.replicate (8192 : Int).toNat (0 : UInt8)).take (4 : Int).toNat ++ (r1).take (min r1.length (subl (List.replicate (8192 : Int).toNat (0 : UInt8)) 4 (((List.replicate (8192 : Int).toNat (0 : UInt8)).length : Int))).length) ++ (List.replicate (8192 : Int).toNat (0 : UInt8)).drop ((4 : Int).toNat + (min r1.length (subl (List.replicate (8192 : Int).toNat (0 : UInt8)) 4 (((List.replicate (8192 : Int).toNat (0 : UInt8)).length : Int))).length)))).length : Int))).length) ++ (((List.replicate (8192 : Int).toNat (0 : UInt8)).take (4 : Int).toNat ++ (r1).take (min r1.length (subl (List.replicate (8192 : Int).toNat (0 : UInt8)) 4 (((List.replicate (8192 : Int).toNat (0 : UInt8)).length : Int))).length) ++ (List.replicate (8192 : Int).toNat (0 : UInt8)).drop ((4 : Int).toNat + (min r1.length (subl (List.replicate (8192 : Int).toNat (0 : UInt8)) 4 (((List.replicate (8192 : Int).toNat (0 : UInt8)).length : Int))).length)))).drop ((6 : Int).toNat + (min l0.length (subl (((List.replicate (8192 : Int).toNat (0 : UInt8)).take (4 : Int).toNat ++ (r1).take (min r1.length (subl (List.replicate (8192 : Int).toNat (0 : UInt8)) 4 (((List.replicate (8192 : Int).toNat (0 : UInt8)).length : Int))).length) ++ (List.replicate (8192 : Int).toNat (0 : UInt8)).drop ((4 : Int).toNat + (min r1.length (subl (List.replicate (8192 : Int).toNat (0 : UInt8)) 4 (((List.replicate (8192 : Int).toNat (0 : UInt8)).length : Int))).length)))) 6 (((((List.replicate (8192 : Int).toNat (0 : UInt8)).take (4 : Int).toNat ++ (r1).take (min r1.length (subl (List.replicate (8192 : Int).toNat (0 : UInt8)) 4 (((List.replicate (8192 : Int).toNat (0 : UInt8)).length : Int))).length) ++ (List.replicate (8192 : Int).toNat (0 : UInt8)).drop ((4 : Int).toNat + (min r1.length (subl (List.replicate (8192 : Int).toNat (0 : UInt8)) 4 (((List.replicate (8192 : Int).toNat (0 : UInt8)).length : Int))).length)))).length : Int))).length)))).length : Int)) ((wire_Sum.impl (subl (((((List.replicate (8192 : Int).toNat (0 : UInt8)).take (4 : Int).toNat ++ (r1).take (min r1.length (subl (List.replicate (8192 : Int).toNat (0 : UInt8)) 4 (((List.replicate (8192 : Int).toNat (0 : UInt8)).length : Int))).length) ++ (List.replicate (8192 : Int).toNat (0 : UInt8)).drop ((4 : Int).toNat + (min r1.length (subl (List.replicate (8192 : Int).toNat (0 : UInt8)) 4 (((List.replicate (8192 : Int).toNat (0 : UInt8)).length : Int))).length)))).take (6 : Int).toNat ++ (l0).take (min l0.length (subl (((List.replicate (8192 : Int).toNat (0 : UInt8)).take (4 : Int).toNat ++ (r1).take (min r1.length (subl (List.replicate (8192 : Int).toNat (0 : UInt8)) 4 (((List.replicate (8192 : Int).toNat (0 : UInt8)).length : Int))).length) ++ (List.replicate (8192 : Int).toNat (0 : UInt8)).drop ((4 : Int).toNat + (min r1.length (subl (List.replicate (8192 : Int).toNat (0 : UInt8)) 4 (((List.replicate (8192 : Int).toNat (0 : UInt8)).length : Int))).length)))) 6 (((((List.replicate (8192 : Int).toNat (0 : UInt8)).take (4 : Int).toNat ++ (r1).take (min r1.length (subl (List.replicate (8192 : Int).toNat (0 : UInt8)) 4 (((List.replicate (8192 : Int).toNat (0 : UInt8)).length : Int))).length) ++ (List.replicate (8192 : Int).toNat (0 : UInt8)).drop ((4 : Int).toNat + (min r1.length (subl (List.replicate (8192 : Int).toNat (0 : UInt8)) 4 (((List.replicate (8192 : Int).toNat (0 : UInt8)).length : Int))).length)))).length : Int))).length) ++ (((List.replicate (8192 : Int).toNat (0 : UInt8)).take (4 : Int).toNat ++ (r1).take (min r1.length (subl (List.replicate (8192 : Int).toNat (0 : UInt8)) 4 (((List.replicate (8192 : Int).toNat (0 : UInt8)).length : Int))).length) ++ (List.replicate (8192 : Int).toNat (0 : UInt8)).drop ((4 : Int).toNat + (min r1.length (subl (List.replicate (8192 : Int).toNat (0 : UInt8)) 4 (((List.replicate (8192 : Int).toNat (0 : UInt8)).length : Int))).length)))).drop ((6 : Int).toNat + (min l0.length (subl (((List.replicate (8192 : Int).toNat (0 : UInt8)).take (4 : Int).toNat ++ (r1).take (min r1.length (subl (List.replicate (8192 : Int).toNat (0 : UInt8)) 4 (((List.replicate (8192 : Int).toNat (0 : UInt8)).length : Int))).length) ++ (List.replicate (8192 : Int).toNat (0 : UInt8)).drop ((4 : Int).toNat + (min r1.length (subl (List.replicate (8192 : Int).toNat (0 : UInt8)) 4 (((List.replicate (8192 : Int).toNat (0 : UInt8)).length : Int))).length)))) 6 (((((List.replicate (8192 : Int).toNat (0 : UInt8)).take (4 : Int).toNat ++ (r1).take (min r1.length (subl (List.replicate (8192 : Int).toNat (0 : UInt8)) 4 (((List.replicate (8192 : Int).toNat (0 : UInt8)).length : Int))).length) ++ (List.replicate (8192 : Int).toNat (0 : UInt8)).drop ((4 : Int).toNat + (min r1.length (subl (List.replicate (8192 : Int).toNat (0 : UInt8)) 4 (((List.replicate (8192 : Int).toNat (0 : UInt8)).length : Int))).length)))).length : Int))).length)))) 4 (((((((List.replicate (8192 : Int).toNat (0 : UInt8)).take (4 : Int).toNat ++ (r1).take (min r1.length (subl (List.replicate (8192 : Int).toNat (0 : UInt8)) 4 (((List.replicate (8192 : Int).toNat (0 : UInt8)).length : Int))).length) ++ (List.replicate (8192 : Int).toNat (0 : UInt8)).drop ((4 : Int).toNat + (min r1.length (subl (List.replicate (8192 : Int).toNat (0 : UInt8)) 4 (((List.replicate (8192 : Int).toNat (0 : UInt8)).length : Int))).length)))).take (6 : Int).toNat ++ (l0).take (min l0.length (subl (((List.replicate (8192 : Int).toNat (0 : UInt8)).take (4 : Int).toNat ++ (r1).take (min r1.length (subl (List.replicate (8192 : Int).toNat (0 : UInt8)) 4 (((List.replicate (8192 : Int).toNat (0 : UInt8)).length : Int))).length) ++ (List.replicate (8192 : Int).toNat (0 : UInt8)).drop ((4 : Int).toNat + (min r1.length (subl (List.replicate (8192 : Int).toNat (0 : UInt8)) 4 (((List.replicate (8192 : Int).toNat (0 : UInt8)).length : Int))).length)))) 6 (((((List.replicate (8192 : Int).toNat (0 : UInt8)).take (4 : Int).toNat ++ (r1).take (min r1.length (subl (List.replicate (8192 : Int).toNat (0 : UInt8)) 4 (((List.replicate (8192 : Int).toNat (0 : UInt8)).length : Int))).length) ++ (List.replicate (8192 : Int).toNat (0 : UInt8)).drop ((4 : Int).toNat + (min r1.length (subl (List.replicate (8192 : Int).toNat (0 : UInt8)) 4 (((List.replicate (8192 : Int).toNat (0 : UInt8)).length : Int))).length)))).length : Int))).length) ++ (((List.replicate (8192 : Int).toNat (0 : UInt8)).take (4 : Int).toNat ++ (r1).take (min r1.length (subl (List.replicate (8192 : Int).toNat (0 : UInt8)) 4 (((List.replicate (8192 : Int).toNat (0 : UInt8)).length : Int))).length) ++ (List.replicate (8192 : Int).toNat (0 : UInt8)).drop ((4 : Int).toNat + (min r1.length (subl (List.replicate (8192 : Int).toNat (0 : UInt8)) 4 (((List.replicate (8192 : Int).toNat (0 : UInt8)).length : Int))).length)))).drop ((6 : Int).toNat + (min l0.length (subl (((List.replicate (8192 : Int).toNat (0 : UInt8)).take (4 : Int).toNat ++ (r1).take (min r1.length (subl (List.replicate (8192 : Int).toNat (0 : UInt8)) 4 (((List.replicate (8192 : Int).toNat (0 : UInt8)).length : Int))).length) ++ (List.replicate (8192 : Int).toNat (0 : UInt8)).drop ((4 : Int).toNat + (min r1.length (subl (List.replicate (8192 : Int).toNat (0 : UInt8)) 4 (((List.replicate (8192 : Int).toNat (0 : UInt8)).length : Int))).length)))) 6 (((((List.replicate (8192 : Int).toNat (0 : UInt8)).take (4 : Int).toNat ++ (r1).take (min r1.length (subl (List.replicate (8192 : Int).toNat (0 : UInt8)) 4 (((List.replicate (8192 : Int).toNat (0 : UInt8)).length : Int))).length) ++ (List.replicate (8192 : Int).toNat (0 : UInt8)).drop ((4 : Int).toNat + (min r1.length (subl (List.replicate (8192 : Int).toNat (0 : UInt8)) 4 (((List.replicate (8192 : Int).toNat (0 : UInt8)).length : Int))).length)))).length : Int))).length)))).length : Int)))).bind fun r2 => (page_big.impl (IntKind.u64.wrap r2) 4).bind fun r3 => some ((r3).take (min r3.length (((((List.replicate (8192 : Int).toNat (0 : UInt8)).take (4 : Int).toNat ++ (r1).take (min r1.length (subl (List.replicate (8192 : Int).toNat (0 : UInt8)) 4 (((List.replicate (8192 : Int).toNat (0 : UInt8)).length : Int))).length) ++ (List.replicate (8192 : Int).toNat (0 : UInt8)).drop ((4 : Int).toNat + (min r1.length (subl (List.replicate (8192 : Int).toNat (0 : UInt8)) 4 (((List.replicate (8192 : Int).toNat (0 : UInt8)).length : Int))).length)))).take (6 : Int).toNat ++ (l0).take (min l0.length (subl (((List.replicate (8192 : Int).toNat (0 : UInt8)).take (4 : Int).toNat ++ (r1).take (min r1.length (subl (List.replicate (8192 : Int).toNat (0 : UInt8)) 4 (((List.replicate (8192 : Int).toNat (0 : UInt8)).length : Int))).length) ++ (List.replicate (8192 : Int).toNat (0 : UInt8)).drop ((4 : Int).toNat + (min r1.length (subl (List.replicate (8192 : Int).toNat (0 : UInt8)) 4 (((List.replicate (8192 : Int).toNat (0 : UInt8)).length : Int))).length)))) 6 (((((List.replicate (8192 : Int).toNat (0 : UInt8)).take (4 : Int).toNat ++ (r1).take (min r1.length (subl (List.replicate (8192 : Int).toNat (0 : UInt8)) 4 (((List.replicate (8192 : Int).toNat (0 : UInt8)).length : Int))).length) ++ (List.replicate (8192 : Int).toNat (0 : UInt8)).drop ((4 : Int).toNat + (min r1.length (subl (List.replicate (8192 : Int).toNat (0 : UInt8)) 4 (((List.replicate (8192 : Int).toNat (0 : UInt8)).length : Int))).length)))).length : Int))).length) ++ (((List.replicate (8192 : Int).toNat (0 : UInt8)).take (4 : Int).toNat ++ (r1).take (min r1.length (subl (List.replicate (8192 : Int).toNat (0 : UInt8)) 4 (((List.replicate (8192 : Int).toNat (0 : UInt8)).length : Int))).length) ++ (List.replicate (8192 : Int).toNat (0 : UInt8)).drop ((4 : Int).toNat + (min r1.length (subl (List.replicate (8192 : Int).toNat (0 : UInt8)) 4 (((List.replicate (8192 : Int).toNat (0 : UInt8)).length : Int))).length)))).drop ((6 : Int).toNat + (min l0.length (subl (((List.replicate (8192 : Int).toNat (0 : UInt8)).take (4 : Int).toNat ++ (r1).take (min r1.length (subl (List.replicate (8192 : Int).toNat (0 : UInt8)) 4 (((List.replicate (8192 : Int).toNat (0 : UInt8)).length : Int))).length) ++ (List.replicate (8192 : Int).toNat (0 : UInt8)).drop ((4 : Int).toNat + (min r1.length (subl (List.replicate (8192 : Int).toNat (0 : UInt8)) 4 (((List.replicate (8192 : Int).toNat (0 : UInt8)).length : Int))).length)))) 6 (((((List.replicate (8192 : Int).toNat (0 : UInt8)).take (4 : Int).toNat ++ (r1).take (min r1.length (subl (List.replicate (8192 : Int).toNat (0 : UInt8)) 4 (((List.replicate (8192 : Int).toNat (0 : UInt8)).length : Int))).length) ++ (List.replicate (8192 : Int).toNat (0 : UInt8)).drop ((4 : Int).toNat + (min r1.length (subl (List.replicate (8192 : Int).toNat (0 : UInt8)) 4 (((List.replicate (8192 : Int).toNat (0 : UInt8)).length : Int))).length)))).length : Int))).length)))).length) ++ (((((List.replicate (8192 : Int).toNat (0 : UInt8)).take (4 : Int).toNat ++ (r1).take (min r1.length (subl (List.replicate (8192 : Int).toNat (0 : UInt8)) 4 (((List.replicate (8192 : Int).toNat (0 : UInt8)).length : Int))).length) ++ (List.replicate (8192 : Int).toNat (0 : UInt8)).drop ((4 : Int).toNat + (min r1.length (subl (List.replicate (8192 : Int).toNat (0 : UInt8)) 4 (((List.replicate (8192 : Int).toNat (0 : UInt8)).length : Int))).length)))).take (6 : Int).toNat ++ (l0).take (min l0.length (subl (((List.replicate (8192 : Int).toNat (0 : UInt8)).take (4 : Int).toNat ++ (r1).take (min r1.length (subl (List.replicate (8192 : Int).toNat (0 : UInt8)) 4 (((List.replicate (8192 : Int).toNat (0 : UInt8)).length : Int))).length) ++ (List.replicate (8192 : Int).toNat (0 : UInt8)).drop ((4 : Int).toNat + (min r1.length (subl (List.replicate (8192 : Int).toNat (0 : UInt8)) 4 (((List.replicate (8192 : Int).toNat (0 : UInt8)).length : Int))).length)))) 6 (((((List.replicate (8192 : Int).toNat (0 : UInt8)).take (4 : Int).toNat ++ (r1).take (min r1.length (subl (List.replicate (8192 : Int).toNat (0 : UInt8)) 4 (((List.replicate (8192 : Int).toNat (0 : UInt8)).length : Int))).length) ++ (List.replicate (8192 : Int).toNat (0 : UInt8)).drop ((4 : Int).toNat + (min r1.length (subl (List.replicate (8192 : Int).toNat (0 : UInt8)) 4 (((List.replicate (8192 : Int).toNat (0 : UInt8)).length : Int))).length)))).length : Int))).length) ++ (((List.replicate (8192 : Int).toNat (0 : UInt8)).take (4 : Int).toNat ++ (r1).take (min r1.length (subl (List.replicate (8192 : Int).toNat (0 : UInt8)) 4 (((List.replicate (8192 : Int).toNat (0 : UInt8)).length : Int))).length) ++ (List.replicate (8192 : Int).toNat (0 : UInt8)).drop ((4 : Int).toNat + (min r1.length (subl (List.replicate (8192 : Int).toNat (0 : UInt8)) 4 (((List.replicate (8192 : Int).toNat (0 : UInt8)).length : Int))).length)))).drop ((6 : Int).toNat + (min l0.length (subl (((List.replicate (8192 : Int).toNat (0 : UInt8)).take (4 : Int).toNat ++ (r1).take (min r1.length (subl (List.replicate (8192 : Int).toNat (0 : UInt8)) 4 (((List.replicate (8192 : Int).toNat (0 : UInt8)).length : Int))).length) ++ (List.replicate (8192 : Int).toNat (0 : UInt8)).drop ((4 : Int).toNat + (min r1.length (subl (List.replicate (8192 : Int).toNat (0 : UInt8)) 4 (((List.replicate (8192 : Int).toNat (0 : UInt8)).length : Int))).length)))) 6 (((((List.replicate (8192 : Int).toNat (0 : UInt8)).take (4 : Int).toNat ++ (r1).take (min r1.length (subl (List.replicate (8192 : Int).toNat (0 : UInt8)) 4 (((List.replicate (8192 : Int).toNat (0 : UInt8)).length : Int))).length) ++ (List.replicate (8192 : Int).toNat (0 : UInt8)).drop ((4 : Int).toNat + (min r1.length (subl (List.replicate (8192 : Int).toNat (0 : UInt8)) 4 (((List.replicate (8192 : Int).toNat (0 : UInt8)).length : Int))).length)))).length : Int))).length)))).drop (min r3.length (((((List.replicate (8192 : Int).toNat (0 : UInt8)).take (4 : Int).toNat ++ (r1).take (min r1.length (subl (List.replicate (8192 : Int).toNat (0 : UInt8)) 4 (((List.replicate (8192 : Int).toNat (0 : UInt8)).length : Int))).length) ++ (List.replicate (8192 : Int).toNat (0 : UInt8)).drop ((4 : Int).toNat + (min r1.length (subl (List.replicate (8192 : Int).toNat (0 : UInt8)) 4 (((List.replicate (8192 : Int).toNat (0 : UInt8)).length : Int))).length)))).take (6 : Int).toNat ++ (l0).take (min l0.length (subl (((List.replicate (8192 : Int).toNat (0 : UInt8)).take (4 : Int).toNat ++ (r1).take (min r1.length (subl (List.replicate (8192 : Int).toNat (0 : UInt8)) 4 (((List.replicate (8192 : Int).toNat (0 : UInt8)).length : Int))).length) ++ (List.replicate (8192 : Int).toNat (0 : UInt8)).drop ((4 : Int).toNat + (min r1.length (subl (List.replicate (8192 : Int).toNat (0 : UInt8)) 4 (((List.replicate (8192 : Int).toNat (0 : UInt8)).length : Int))).length)))) 6 (((((List.replicate (8192 : Int).toNat (0 : UInt8)).take (4 : Int).toNat ++ (r1).take (min r1.length (subl (List.replicate (8192 : Int).toNat (0 : UInt8)) 4 (((List.replicate (8192 : Int).toNat (0 : UInt8)).length : Int))).length) ++ (List.replicate (8192 : Int).toNat (0 : UInt8)).drop ((4 : Int).toNat + (min r1.length (subl (List.replicate (8192 : Int).toNat (0 : UInt8)) 4 (((List.replicate (8192 : Int).toNat (0 : UInt8)).length : Int))).length)))).length : Int))).length) ++ (((List.replicate (8192 : Int).toNat (0 : UInt8)).take (4 : Int).toNat ++ (r1).take (min r1.length (subl (List.replicate (8192 : Int).toNat (0 : UInt8)) 4 (((List.replicate (8192 : Int).toNat (0 : UInt8)).length : Int))).length) ++ (List.replicate (8192 : Int).toNat (0 : UInt8)).drop ((4 : Int).toNat + (min r1.length (subl (List.replicate (8192 : Int).toNat (0 : UInt8)) 4 (((List.replicate (8192 : Int).toNat (0 : UInt8)).length : Int))).length)))).drop ((6 : Int).toNat + (min l0.length (subl (((List.replicate (8192 : Int).toNat (0 : UInt8)).take (4 : Int).toNat ++ (r1).take (min r1.length (subl (List.replicate (8192 : Int).toNat (0 : UInt8)) 4 (((List.replicate (8192 : Int).toNat (0 : UInt8)).length : Int))).length) ++ (List.replicate (8192 : Int).toNat (0 : UInt8)).drop ((4 : Int).toNat + (min r1.length (subl (List.replicate (8192 : Int).toNat (0 : UInt8)) 4 (((List.replicate (8192 : Int).toNat (0 : UInt8)).length : Int))).length)))) 6 (((((List.replicate (8192 : Int).toNat (0 : UInt8)).take (4 : Int).toNat ++ (r1).take (min r1.length (subl (List.replicate (8192 : Int).toNat (0 : UInt8)) 4 (((List.replicate (8192 : Int).toNat (0 : UInt8)).length : Int))).length) ++ (List.replicate (8192 : Int).toNat (0 : UInt8)).drop ((4 : Int).toNat + (min r1.length (subl (List.replicate (8192 : Int).toNat (0 : UInt8)) 4 (((List.replicate (8192 : Int).toNat (0 : UInt8)).length : Int))).length)))).length : Int))).length)))).length))))))
set_option maxRecDepth 100000 in
set_option maxHeartbeats 4000000 in
theorem page_laid.c {B : World} {hs : List MP} {w : World} {i0 c0 : Nat} {A0 : Option Addr} {l0 : List UInt8} (hS : St B (hs) w) (h0 : (hs)[i0]? = some (Ro E8 A0 c0 l0)) {r : List UInt8} (hr : page_laid.impl l0 = some r) :
    Calls Try.prog 30 #[.slice A0 l0.length c0] w fun e w' => ∃ x : (Option Addr × Nat), e = .returned (.slice x.1 r.length x.2) ∧ St B (Bf E8 5 x.1 x.2 r :: hs) w' := by
 unfold page_laid.impl at hr
 refine calls_T Try.func30 rfl rfl rfl hS ?_
 refine T.front i0 h0 ?_
 refine T.seq ?_
 refine T.region ?_
 refine T.assign .list rfl (wants0 rfl) rfl rfl ?_
 refine T.nil ?_
 refine T.then_normal ?_
 refine T.seq ?_
 refine T.region ?_
 obtain ⟨hc1, hr⟩ := inv_chk hr
 refine T.make .list (enc := b8) (h1' := fun _ => rfl) (z0 := (0 : UInt8)) (by rfl) rfl (wants0 rfl) rfl rfl rfl rfl hc1 (fun b1 => ?_)
 refine T.assign .list rfl (wants0 rfl) rfl rfl ?_
 refine T.nil ?_
 refine T.then_normal ?_
 refine T.seq ?_
 refine T.plan [(0, 0), (1, 0), (2, 0), (3, 0), (4, 0), (5, 2), (6, 2)] mixed (by kernel_rfl) (by kernel_rfl) rfl (fun d _ _ _ _ h => by cases d <;> exact h) ?_
 refine T.move (.plan rfl) rfl (wants0 rfl) rfl rfl ?_
 obtain ⟨hc2, hr⟩ := inv_chk hr
 refine T.cutBf (.plan rfl) 0 rfl rfl rfl (wants0 rfl) rfl rfl (.inr ⟨_, _, rfl, rfl⟩) (.inl ⟨rfl, rfl⟩) hc2.1 hc2.2.1 hc2.2.2 ?_
 refine T.move (.plan rfl) rfl (wants0 rfl) rfl rfl ?_
 refine T.lenSlice (.plan rfl) rfl (wants0 rfl) rfl rfl ?_
 refine T.conv (.plan rfl) rfl (wants0 rfl) rfl rfl rfl ?_
 obtain ⟨r1, hg1, hr⟩ := inv_bind hr
 refine T.call (.plan rfl) (wants0 rfl) rfl (run_callF (vs := [_, _]) rfl Try.func44 rfl (by decide) rfl) (fun w hS => page_big.c hS  hg1) (fun x1 => ?_)
 refine T.copyAt (.plan rfl) 1 (a := 4) rfl rfl (wants0 rfl) rfl rfl rfl (by have h := hc2; rw [subl_length h.1 h.2.1 h.2.2]; omega) rfl (Rd.ofBf 0 rfl rfl) rfl ?_
 refine T.env1 3 rfl (slc (n' := (((List.replicate (8192 : Int).toNat (0 : UInt8)).take (4 : Int).toNat ++ (r1).take (min r1.length (subl (List.replicate (8192 : Int).toNat (0 : UInt8)) 4 (((List.replicate (8192 : Int).toNat (0 : UInt8)).length : Int))).length) ++ (List.replicate (8192 : Int).toNat (0 : UInt8)).drop ((4 : Int).toNat + (min r1.length (subl (List.replicate (8192 : Int).toNat (0 : UInt8)) 4 (((List.replicate (8192 : Int).toNat (0 : UInt8)).length : Int))).length)))).length) (copyAt_len hc2)) ?_
 refine T.env1 4 rfl (slc (n' := (((List.replicate (8192 : Int).toNat (0 : UInt8)).take (4 : Int).toNat ++ (r1).take (min r1.length (subl (List.replicate (8192 : Int).toNat (0 : UInt8)) 4 (((List.replicate (8192 : Int).toNat (0 : UInt8)).length : Int))).length) ++ (List.replicate (8192 : Int).toNat (0 : UInt8)).drop ((4 : Int).toNat + (min r1.length (subl (List.replicate (8192 : Int).toNat (0 : UInt8)) 4 (((List.replicate (8192 : Int).toNat (0 : UInt8)).length : Int))).length)))).length) (copyAt_len hc2)) ?_
 refine T.env1 5 rfl (slc (n' := (((List.replicate (8192 : Int).toNat (0 : UInt8)).take (4 : Int).toNat ++ (r1).take (min r1.length (subl (List.replicate (8192 : Int).toNat (0 : UInt8)) 4 (((List.replicate (8192 : Int).toNat (0 : UInt8)).length : Int))).length) ++ (List.replicate (8192 : Int).toNat (0 : UInt8)).drop ((4 : Int).toNat + (min r1.length (subl (List.replicate (8192 : Int).toNat (0 : UInt8)) 4 (((List.replicate (8192 : Int).toNat (0 : UInt8)).length : Int))).length)))).length) (copyAt_len hc2)) ?_
 refine T.planEnd ?_
 refine T.then_normal ?_
 refine T.seq ?_
 refine T.region ?_
 refine T.move .list rfl (wants0 rfl) rfl rfl ?_
 obtain ⟨hc3, hr⟩ := inv_chk hr
 refine T.cutBf .list 1 rfl rfl rfl (wants0 rfl) rfl rfl (.inr ⟨_, _, rfl, rfl⟩) (.inl ⟨rfl, rfl⟩) hc3.1 hc3.2.1 hc3.2.2 ?_
 refine T.move .list rfl (wants0 rfl) rfl rfl ?_
 refine T.copyAt .list 1 (a := 6) rfl rfl (wants0 rfl) rfl rfl rfl (by have h := hc3; rw [subl_length h.1 h.2.1 h.2.2]; omega) rfl (Rd.ofRo 2 rfl) rfl ?_
 refine T.env1 3 rfl (slc (n' := (((((List.replicate (8192 : Int).toNat (0 : UInt8)).take (4 : Int).toNat ++ (r1).take (min r1.length (subl (List.replicate (8192 : Int).toNat (0 : UInt8)) 4 (((List.replicate (8192 : Int).toNat (0 : UInt8)).length : Int))).length) ++ (List.replicate (8192 : Int).toNat (0 : UInt8)).drop ((4 : Int).toNat + (min r1.length (subl (List.replicate (8192 : Int).toNat (0 : UInt8)) 4 (((List.replicate (8192 : Int).toNat (0 : UInt8)).length : Int))).length)))).take (6 : Int).toNat ++ (l0).take (min l0.length (subl (((List.replicate (8192 : Int).toNat (0 : UInt8)).take (4 : Int).toNat ++ (r1).take (min r1.length (subl (List.replicate (8192 : Int).toNat (0 : UInt8)) 4 (((List.replicate (8192 : Int).toNat (0 : UInt8)).length : Int))).length) ++ (List.replicate (8192 : Int).toNat (0 : UInt8)).drop ((4 : Int).toNat + (min r1.length (subl (List.replicate (8192 : Int).toNat (0 : UInt8)) 4 (((List.replicate (8192 : Int).toNat (0 : UInt8)).length : Int))).length)))) 6 (((((List.replicate (8192 : Int).toNat (0 : UInt8)).take (4 : Int).toNat ++ (r1).take (min r1.length (subl (List.replicate (8192 : Int).toNat (0 : UInt8)) 4 (((List.replicate (8192 : Int).toNat (0 : UInt8)).length : Int))).length) ++ (List.replicate (8192 : Int).toNat (0 : UInt8)).drop ((4 : Int).toNat + (min r1.length (subl (List.replicate (8192 : Int).toNat (0 : UInt8)) 4 (((List.replicate (8192 : Int).toNat (0 : UInt8)).length : Int))).length)))).length : Int))).length) ++ (((List.replicate (8192 : Int).toNat (0 : UInt8)).take (4 : Int).toNat ++ (r1).take (min r1.length (subl (List.replicate (8192 : Int).toNat (0 : UInt8)) 4 (((List.replicate (8192 : Int).toNat (0 : UInt8)).length : Int))).length) ++ (List.replicate (8192 : Int).toNat (0 : UInt8)).drop ((4 : Int).toNat + (min r1.length (subl (List.replicate (8192 : Int).toNat (0 : UInt8)) 4 (((List.replicate (8192 : Int).toNat (0 : UInt8)).length : Int))).length)))).drop ((6 : Int).toNat + (min l0.length (subl (((List.replicate (8192 : Int).toNat (0 : UInt8)).take (4 : Int).toNat ++ (r1).take (min r1.length (subl (List.replicate (8192 : Int).toNat (0 : UInt8)) 4 (((List.replicate (8192 : Int).toNat (0 : UInt8)).length : Int))).length) ++ (List.replicate (8192 : Int).toNat (0 : UInt8)).drop ((4 : Int).toNat + (min r1.length (subl (List.replicate (8192 : Int).toNat (0 : UInt8)) 4 (((List.replicate (8192 : Int).toNat (0 : UInt8)).length : Int))).length)))) 6 (((((List.replicate (8192 : Int).toNat (0 : UInt8)).take (4 : Int).toNat ++ (r1).take (min r1.length (subl (List.replicate (8192 : Int).toNat (0 : UInt8)) 4 (((List.replicate (8192 : Int).toNat (0 : UInt8)).length : Int))).length) ++ (List.replicate (8192 : Int).toNat (0 : UInt8)).drop ((4 : Int).toNat + (min r1.length (subl (List.replicate (8192 : Int).toNat (0 : UInt8)) 4 (((List.replicate (8192 : Int).toNat (0 : UInt8)).length : Int))).length)))).length : Int))).length)))).length) (copyAt_len hc3)) ?_
 refine T.env1 4 rfl (slc (n' := (((((List.replicate (8192 : Int).toNat (0 : UInt8)).take (4 : Int).toNat ++ (r1).take (min r1.length (subl (List.replicate (8192 : Int).toNat (0 : UInt8)) 4 (((List.replicate (8192 : Int).toNat (0 : UInt8)).length : Int))).length) ++ (List.replicate (8192 : Int).toNat (0 : UInt8)).drop ((4 : Int).toNat + (min r1.length (subl (List.replicate (8192 : Int).toNat (0 : UInt8)) 4 (((List.replicate (8192 : Int).toNat (0 : UInt8)).length : Int))).length)))).take (6 : Int).toNat ++ (l0).take (min l0.length (subl (((List.replicate (8192 : Int).toNat (0 : UInt8)).take (4 : Int).toNat ++ (r1).take (min r1.length (subl (List.replicate (8192 : Int).toNat (0 : UInt8)) 4 (((List.replicate (8192 : Int).toNat (0 : UInt8)).length : Int))).length) ++ (List.replicate (8192 : Int).toNat (0 : UInt8)).drop ((4 : Int).toNat + (min r1.length (subl (List.replicate (8192 : Int).toNat (0 : UInt8)) 4 (((List.replicate (8192 : Int).toNat (0 : UInt8)).length : Int))).length)))) 6 (((((List.replicate (8192 : Int).toNat (0 : UInt8)).take (4 : Int).toNat ++ (r1).take (min r1.length (subl (List.replicate (8192 : Int).toNat (0 : UInt8)) 4 (((List.replicate (8192 : Int).toNat (0 : UInt8)).length : Int))).length) ++ (List.replicate (8192 : Int).toNat (0 : UInt8)).drop ((4 : Int).toNat + (min r1.length (subl (List.replicate (8192 : Int).toNat (0 : UInt8)) 4 (((List.replicate (8192 : Int).toNat (0 : UInt8)).length : Int))).length)))).length : Int))).length) ++ (((List.replicate (8192 : Int).toNat (0 : UInt8)).take (4 : Int).toNat ++ (r1).take (min r1.length (subl (List.replicate (8192 : Int).toNat (0 : UInt8)) 4 (((List.replicate (8192 : Int).toNat (0 : UInt8)).length : Int))).length) ++ (List.replicate (8192 : Int).toNat (0 : UInt8)).drop ((4 : Int).toNat + (min r1.length (subl (List.replicate (8192 : Int).toNat (0 : UInt8)) 4 (((List.replicate (8192 : Int).toNat (0 : UInt8)).length : Int))).length)))).drop ((6 : Int).toNat + (min l0.length (subl (((List.replicate (8192 : Int).toNat (0 : UInt8)).take (4 : Int).toNat ++ (r1).take (min r1.length (subl (List.replicate (8192 : Int).toNat (0 : UInt8)) 4 (((List.replicate (8192 : Int).toNat (0 : UInt8)).length : Int))).length) ++ (List.replicate (8192 : Int).toNat (0 : UInt8)).drop ((4 : Int).toNat + (min r1.length (subl (List.replicate (8192 : Int).toNat (0 : UInt8)) 4 (((List.replicate (8192 : Int).toNat (0 : UInt8)).length : Int))).length)))) 6 (((((List.replicate (8192 : Int).toNat (0 : UInt8)).take (4 : Int).toNat ++ (r1).take (min r1.length (subl (List.replicate (8192 : Int).toNat (0 : UInt8)) 4 (((List.replicate (8192 : Int).toNat (0 : UInt8)).length : Int))).length) ++ (List.replicate (8192 : Int).toNat (0 : UInt8)).drop ((4 : Int).toNat + (min r1.length (subl (List.replicate (8192 : Int).toNat (0 : UInt8)) 4 (((List.replicate (8192 : Int).toNat (0 : UInt8)).length : Int))).length)))).length : Int))).length)))).length) (copyAt_len hc3)) ?_
 refine T.env1 5 rfl (slc (n' := (((((List.replicate (8192 : Int).toNat (0 : UInt8)).take (4 : Int).toNat ++ (r1).take (min r1.length (subl (List.replicate (8192 : Int).toNat (0 : UInt8)) 4 (((List.replicate (8192 : Int).toNat (0 : UInt8)).length : Int))).length) ++ (List.replicate (8192 : Int).toNat (0 : UInt8)).drop ((4 : Int).toNat + (min r1.length (subl (List.replicate (8192 : Int).toNat (0 : UInt8)) 4 (((List.replicate (8192 : Int).toNat (0 : UInt8)).length : Int))).length)))).take (6 : Int).toNat ++ (l0).take (min l0.length (subl (((List.replicate (8192 : Int).toNat (0 : UInt8)).take (4 : Int).toNat ++ (r1).take (min r1.length (subl (List.replicate (8192 : Int).toNat (0 : UInt8)) 4 (((List.replicate (8192 : Int).toNat (0 : UInt8)).length : Int))).length) ++ (List.replicate (8192 : Int).toNat (0 : UInt8)).drop ((4 : Int).toNat + (min r1.length (subl (List.replicate (8192 : Int).toNat (0 : UInt8)) 4 (((List.replicate (8192 : Int).toNat (0 : UInt8)).length : Int))).length)))) 6 (((((List.replicate (8192 : Int).toNat (0 : UInt8)).take (4 : Int).toNat ++ (r1).take (min r1.length (subl (List.replicate (8192 : Int).toNat (0 : UInt8)) 4 (((List.replicate (8192 : Int).toNat (0 : UInt8)).length : Int))).length) ++ (List.replicate (8192 : Int).toNat (0 : UInt8)).drop ((4 : Int).toNat + (min r1.length (subl (List.replicate (8192 : Int).toNat (0 : UInt8)) 4 (((List.replicate (8192 : Int).toNat (0 : UInt8)).length : Int))).length)))).length : Int))).length) ++ (((List.replicate (8192 : Int).toNat (0 : UInt8)).take (4 : Int).toNat ++ (r1).take (min r1.length (subl (List.replicate (8192 : Int).toNat (0 : UInt8)) 4 (((List.replicate (8192 : Int).toNat (0 : UInt8)).length : Int))).length) ++ (List.replicate (8192 : Int).toNat (0 : UInt8)).drop ((4 : Int).toNat + (min r1.length (subl (List.replicate (8192 : Int).toNat (0 : UInt8)) 4 (((List.replicate (8192 : Int).toNat (0 : UInt8)).length : Int))).length)))).drop ((6 : Int).toNat + (min l0.length (subl (((List.replicate (8192 : Int).toNat (0 : UInt8)).take (4 : Int).toNat ++ (r1).take (min r1.length (subl (List.replicate (8192 : Int).toNat (0 : UInt8)) 4 (((List.replicate (8192 : Int).toNat (0 : UInt8)).length : Int))).length) ++ (List.replicate (8192 : Int).toNat (0 : UInt8)).drop ((4 : Int).toNat + (min r1.length (subl (List.replicate (8192 : Int).toNat (0 : UInt8)) 4 (((List.replicate (8192 : Int).toNat (0 : UInt8)).length : Int))).length)))) 6 (((((List.replicate (8192 : Int).toNat (0 : UInt8)).take (4 : Int).toNat ++ (r1).take (min r1.length (subl (List.replicate (8192 : Int).toNat (0 : UInt8)) 4 (((List.replicate (8192 : Int).toNat (0 : UInt8)).length : Int))).length) ++ (List.replicate (8192 : Int).toNat (0 : UInt8)).drop ((4 : Int).toNat + (min r1.length (subl (List.replicate (8192 : Int).toNat (0 : UInt8)) 4 (((List.replicate (8192 : Int).toNat (0 : UInt8)).length : Int))).length)))).length : Int))).length)))).length) (copyAt_len hc3)) ?_
 refine T.env1 12 rfl (slc (n' := (((((List.replicate (8192 : Int).toNat (0 : UInt8)).take (4 : Int).toNat ++ (r1).take (min r1.length (subl (List.replicate (8192 : Int).toNat (0 : UInt8)) 4 (((List.replicate (8192 : Int).toNat (0 : UInt8)).length : Int))).length) ++ (List.replicate (8192 : Int).toNat (0 : UInt8)).drop ((4 : Int).toNat + (min r1.length (subl (List.replicate (8192 : Int).toNat (0 : UInt8)) 4 (((List.replicate (8192 : Int).toNat (0 : UInt8)).length : Int))).length)))).take (6 : Int).toNat ++ (l0).take (min l0.length (subl (((List.replicate (8192 : Int).toNat (0 : UInt8)).take (4 : Int).toNat ++ (r1).take (min r1.length (subl (List.replicate (8192 : Int).toNat (0 : UInt8)) 4 (((List.replicate (8192 : Int).toNat (0 : UInt8)).length : Int))).length) ++ (List.replicate (8192 : Int).toNat (0 : UInt8)).drop ((4 : Int).toNat + (min r1.length (subl (List.replicate (8192 : Int).toNat (0 : UInt8)) 4 (((List.replicate (8192 : Int).toNat (0 : UInt8)).length : Int))).length)))) 6 (((((List.replicate (8192 : Int).toNat (0 : UInt8)).take (4 : Int).toNat ++ (r1).take (min r1.length (subl (List.replicate (8192 : Int).toNat (0 : UInt8)) 4 (((List.replicate (8192 : Int).toNat (0 : UInt8)).length : Int))).length) ++ (List.replicate (8192 : Int).toNat (0 : UInt8)).drop ((4 : Int).toNat + (min r1.length (subl (List.replicate (8192 : Int).toNat (0 : UInt8)) 4 (((List.replicate (8192 : Int).toNat (0 : UInt8)).length : Int))).length)))).length : Int))).length) ++ (((List.replicate (8192 : Int).toNat (0 : UInt8)).take (4 : Int).toNat ++ (r1).take (min r1.length (subl (List.replicate (8192 : Int).toNat (0 : UInt8)) 4 (((List.replicate (8192 : Int).toNat (0 : UInt8)).length : Int))).length) ++ (List.replicate (8192 : Int).toNat (0 : UInt8)).drop ((4 : Int).toNat + (min r1.length (subl (List.replicate (8192 : Int).toNat (0 : UInt8)) 4 (((List.replicate (8192 : Int).toNat (0 : UInt8)).length : Int))).length)))).drop ((6 : Int).toNat + (min l0.length (subl (((List.replicate (8192 : Int).toNat (0 : UInt8)).take (4 : Int).toNat ++ (r1).take (min r1.length (subl (List.replicate (8192 : Int).toNat (0 : UInt8)) 4 (((List.replicate (8192 : Int).toNat (0 : UInt8)).length : Int))).length) ++ (List.replicate (8192 : Int).toNat (0 : UInt8)).drop ((4 : Int).toNat + (min r1.length (subl (List.replicate (8192 : Int).toNat (0 : UInt8)) 4 (((List.replicate (8192 : Int).toNat (0 : UInt8)).length : Int))).length)))) 6 (((((List.replicate (8192 : Int).toNat (0 : UInt8)).take (4 : Int).toNat ++ (r1).take (min r1.length (subl (List.replicate (8192 : Int).toNat (0 : UInt8)) 4 (((List.replicate (8192 : Int).toNat (0 : UInt8)).length : Int))).length) ++ (List.replicate (8192 : Int).toNat (0 : UInt8)).drop ((4 : Int).toNat + (min r1.length (subl (List.replicate (8192 : Int).toNat (0 : UInt8)) 4 (((List.replicate (8192 : Int).toNat (0 : UInt8)).length : Int))).length)))).length : Int))).length)))).length) (copyAt_len hc3)) ?_
 refine T.nil ?_
 refine T.then_normal ?_
 refine T.seq ?_
 refine T.region ?_
 refine T.move .list rfl (wants0 rfl) rfl rfl ?_
 refine T.move .list rfl (wants0 rfl) rfl rfl ?_
 obtain ⟨hc4, hr⟩ := inv_chk hr
 refine T.cutBf .list 1 rfl rfl rfl (wants0 rfl) rfl rfl (.inr ⟨_, _, rfl, rfl⟩) (.inl ⟨rfl, rfl⟩) hc4.1 hc4.2.1 hc4.2.2 ?_
 obtain ⟨r2, hg2, hr⟩ := inv_bind hr
 refine T.call .list (wants0 rfl) rfl (run_callF (vs := [_]) rfl Try.func37 rfl (by decide) rfl) (fun w hS => (wire_Sum.c (St.borrow (ros := [Ro E8 ((cutA (some ⟨b1, 0, none⟩) ((8192 : Int).toNat) (4 : Int) 1)) (((8192 : Int).toNat - (4 : Int).toNat)) (subl (((((List.replicate (8192 : Int).toNat (0 : UInt8)).take (4 : Int).toNat ++ (r1).take (min r1.length (subl (List.replicate (8192 : Int).toNat (0 : UInt8)) 4 (((List.replicate (8192 : Int).toNat (0 : UInt8)).length : Int))).length) ++ (List.replicate (8192 : Int).toNat (0 : UInt8)).drop ((4 : Int).toNat + (min r1.length (subl (List.replicate (8192 : Int).toNat (0 : UInt8)) 4 (((List.replicate (8192 : Int).toNat (0 : UInt8)).length : Int))).length)))).take (6 : Int).toNat ++ (l0).take (min l0.length (subl (((List.replicate (8192 : Int).toNat (0 : UInt8)).take (4 : Int).toNat ++ (r1).take (min r1.length (subl (List.replicate (8192 : Int).toNat (0 : UInt8)) 4 (((List.replicate (8192 : Int).toNat (0 : UInt8)).length : Int))).length) ++ (List.replicate (8192 : Int).toNat (0 : UInt8)).drop ((4 : Int).toNat + (min r1.length (subl (List.replicate (8192 : Int).toNat (0 : UInt8)) 4 (((List.replicate (8192 : Int).toNat (0 : UInt8)).length : Int))).length)))) 6 (((((List.replicate (8192 : Int).toNat (0 : UInt8)).take (4 : Int).toNat ++ (r1).take (min r1.length (subl (List.replicate (8192 : Int).toNat (0 : UInt8)) 4 (((List.replicate (8192 : Int).toNat (0 : UInt8)).length : Int))).length) ++ (List.replicate (8192 : Int).toNat (0 : UInt8)).drop ((4 : Int).toNat + (min r1.length (subl (List.replicate (8192 : Int).toNat (0 : UInt8)) 4 (((List.replicate (8192 : Int).toNat (0 : UInt8)).length : Int))).length)))).length : Int))).length) ++ (((List.replicate (8192 : Int).toNat (0 : UInt8)).take (4 : Int).toNat ++ (r1).take (min r1.length (subl (List.replicate (8192 : Int).toNat (0 : UInt8)) 4 (((List.replicate (8192 : Int).toNat (0 : UInt8)).length : Int))).length) ++ (List.replicate (8192 : Int).toNat (0 : UInt8)).drop ((4 : Int).toNat + (min r1.length (subl (List.replicate (8192 : Int).toNat (0 : UInt8)) 4 (((List.replicate (8192 : Int).toNat (0 : UInt8)).length : Int))).length)))).drop ((6 : Int).toNat + (min l0.length (subl (((List.replicate (8192 : Int).toNat (0 : UInt8)).take (4 : Int).toNat ++ (r1).take (min r1.length (subl (List.replicate (8192 : Int).toNat (0 : UInt8)) 4 (((List.replicate (8192 : Int).toNat (0 : UInt8)).length : Int))).length) ++ (List.replicate (8192 : Int).toNat (0 : UInt8)).drop ((4 : Int).toNat + (min r1.length (subl (List.replicate (8192 : Int).toNat (0 : UInt8)) 4 (((List.replicate (8192 : Int).toNat (0 : UInt8)).length : Int))).length)))) 6 (((((List.replicate (8192 : Int).toNat (0 : UInt8)).take (4 : Int).toNat ++ (r1).take (min r1.length (subl (List.replicate (8192 : Int).toNat (0 : UInt8)) 4 (((List.replicate (8192 : Int).toNat (0 : UInt8)).length : Int))).length) ++ (List.replicate (8192 : Int).toNat (0 : UInt8)).drop ((4 : Int).toNat + (min r1.length (subl (List.replicate (8192 : Int).toNat (0 : UInt8)) 4 (((List.replicate (8192 : Int).toNat (0 : UInt8)).length : Int))).length)))).length : Int))).length)))) 4 (((((((List.replicate (8192 : Int).toNat (0 : UInt8)).take (4 : Int).toNat ++ (r1).take (min r1.length (subl (List.replicate (8192 : Int).toNat (0 : UInt8)) 4 (((List.replicate (8192 : Int).toNat (0 : UInt8)).length : Int))).length) ++ (List.replicate (8192 : Int).toNat (0 : UInt8)).drop ((4 : Int).toNat + (min r1.length (subl (List.replicate (8192 : Int).toNat (0 : UInt8)) 4 (((List.replicate (8192 : Int).toNat (0 : UInt8)).length : Int))).length)))).take (6 : Int).toNat ++ (l0).take (min l0.length (subl (((List.replicate (8192 : Int).toNat (0 : UInt8)).take (4 : Int).toNat ++ (r1).take (min r1.length (subl (List.replicate (8192 : Int).toNat (0 : UInt8)) 4 (((List.replicate (8192 : Int).toNat (0 : UInt8)).length : Int))).length) ++ (List.replicate (8192 : Int).toNat (0 : UInt8)).drop ((4 : Int).toNat + (min r1.length (subl (List.replicate (8192 : Int).toNat (0 : UInt8)) 4 (((List.replicate (8192 : Int).toNat (0 : UInt8)).length : Int))).length)))) 6 (((((List.replicate (8192 : Int).toNat (0 : UInt8)).take (4 : Int).toNat ++ (r1).take (min r1.length (subl (List.replicate (8192 : Int).toNat (0 : UInt8)) 4 (((List.replicate (8192 : Int).toNat (0 : UInt8)).length : Int))).length) ++ (List.replicate (8192 : Int).toNat (0 : UInt8)).drop ((4 : Int).toNat + (min r1.length (subl (List.replicate (8192 : Int).toNat (0 : UInt8)) 4 (((List.replicate (8192 : Int).toNat (0 : UInt8)).length : Int))).length)))).length : Int))).length) ++ (((List.replicate (8192 : Int).toNat (0 : UInt8)).take (4 : Int).toNat ++ (r1).take (min r1.length (subl (List.replicate (8192 : Int).toNat (0 : UInt8)) 4 (((List.replicate (8192 : Int).toNat (0 : UInt8)).length : Int))).length) ++ (List.replicate (8192 : Int).toNat (0 : UInt8)).drop ((4 : Int).toNat + (min r1.length (subl (List.replicate (8192 : Int).toNat (0 : UInt8)) 4 (((List.replicate (8192 : Int).toNat (0 : UInt8)).length : Int))).length)))).drop ((6 : Int).toNat + (min l0.length (subl (((List.replicate (8192 : Int).toNat (0 : UInt8)).take (4 : Int).toNat ++ (r1).take (min r1.length (subl (List.replicate (8192 : Int).toNat (0 : UInt8)) 4 (((List.replicate (8192 : Int).toNat (0 : UInt8)).length : Int))).length) ++ (List.replicate (8192 : Int).toNat (0 : UInt8)).drop ((4 : Int).toNat + (min r1.length (subl (List.replicate (8192 : Int).toNat (0 : UInt8)) 4 (((List.replicate (8192 : Int).toNat (0 : UInt8)).length : Int))).length)))) 6 (((((List.replicate (8192 : Int).toNat (0 : UInt8)).take (4 : Int).toNat ++ (r1).take (min r1.length (subl (List.replicate (8192 : Int).toNat (0 : UInt8)) 4 (((List.replicate (8192 : Int).toNat (0 : UInt8)).length : Int))).length) ++ (List.replicate (8192 : Int).toNat (0 : UInt8)).drop ((4 : Int).toNat + (min r1.length (subl (List.replicate (8192 : Int).toNat (0 : UInt8)) 4 (((List.replicate (8192 : Int).toNat (0 : UInt8)).length : Int))).length)))).length : Int))).length)))).length : Int)))]) (Ros.cons (hS.roCut 1 (a := 4) (b := ((((((List.replicate (8192 : Int).toNat (0 : UInt8)).take (4 : Int).toNat ++ (r1).take (min r1.length (subl (List.replicate (8192 : Int).toNat (0 : UInt8)) 4 (((List.replicate (8192 : Int).toNat (0 : UInt8)).length : Int))).length) ++ (List.replicate (8192 : Int).toNat (0 : UInt8)).drop ((4 : Int).toNat + (min r1.length (subl (List.replicate (8192 : Int).toNat (0 : UInt8)) 4 (((List.replicate (8192 : Int).toNat (0 : UInt8)).length : Int))).length)))).take (6 : Int).toNat ++ (l0).take (min l0.length (subl (((List.replicate (8192 : Int).toNat (0 : UInt8)).take (4 : Int).toNat ++ (r1).take (min r1.length (subl (List.replicate (8192 : Int).toNat (0 : UInt8)) 4 (((List.replicate (8192 : Int).toNat (0 : UInt8)).length : Int))).length) ++ (List.replicate (8192 : Int).toNat (0 : UInt8)).drop ((4 : Int).toNat + (min r1.length (subl (List.replicate (8192 : Int).toNat (0 : UInt8)) 4 (((List.replicate (8192 : Int).toNat (0 : UInt8)).length : Int))).length)))) 6 (((((List.replicate (8192 : Int).toNat (0 : UInt8)).take (4 : Int).toNat ++ (r1).take (min r1.length (subl (List.replicate (8192 : Int).toNat (0 : UInt8)) 4 (((List.replicate (8192 : Int).toNat (0 : UInt8)).length : Int))).length) ++ (List.replicate (8192 : Int).toNat (0 : UInt8)).drop ((4 : Int).toNat + (min r1.length (subl (List.replicate (8192 : Int).toNat (0 : UInt8)) 4 (((List.replicate (8192 : Int).toNat (0 : UInt8)).length : Int))).length)))).length : Int))).length) ++ (((List.replicate (8192 : Int).toNat (0 : UInt8)).take (4 : Int).toNat ++ (r1).take (min r1.length (subl (List.replicate (8192 : Int).toNat (0 : UInt8)) 4 (((List.replicate (8192 : Int).toNat (0 : UInt8)).length : Int))).length) ++ (List.replicate (8192 : Int).toNat (0 : UInt8)).drop ((4 : Int).toNat + (min r1.length (subl (List.replicate (8192 : Int).toNat (0 : UInt8)) 4 (((List.replicate (8192 : Int).toNat (0 : UInt8)).length : Int))).length)))).drop ((6 : Int).toNat + (min l0.length (subl (((List.replicate (8192 : Int).toNat (0 : UInt8)).take (4 : Int).toNat ++ (r1).take (min r1.length (subl (List.replicate (8192 : Int).toNat (0 : UInt8)) 4 (((List.replicate (8192 : Int).toNat (0 : UInt8)).length : Int))).length) ++ (List.replicate (8192 : Int).toNat (0 : UInt8)).drop ((4 : Int).toNat + (min r1.length (subl (List.replicate (8192 : Int).toNat (0 : UInt8)) 4 (((List.replicate (8192 : Int).toNat (0 : UInt8)).length : Int))).length)))) 6 (((((List.replicate (8192 : Int).toNat (0 : UInt8)).take (4 : Int).toNat ++ (r1).take (min r1.length (subl (List.replicate (8192 : Int).toNat (0 : UInt8)) 4 (((List.replicate (8192 : Int).toNat (0 : UInt8)).length : Int))).length) ++ (List.replicate (8192 : Int).toNat (0 : UInt8)).drop ((4 : Int).toNat + (min r1.length (subl (List.replicate (8192 : Int).toNat (0 : UInt8)) 4 (((List.replicate (8192 : Int).toNat (0 : UInt8)).length : Int))).length)))).length : Int))).length)))).length : Int)) (size := 1) rfl rfl rfl hc4) Ros.nil)) (i0 := 0) rfl hg2).mono fun e w' ⟨x, he, h1⟩ => ⟨x, he, hS.unborrow (post := []) h1 Frees.nil⟩) (fun x2 => ?_)
 refine T.conv .list rfl (wants0 rfl) rfl rfl rfl ?_
 obtain ⟨r3, hg3, hr⟩ := inv_bind hr
 refine T.call .list (wants0 rfl) rfl (run_callF (vs := [_, _]) rfl Try.func44 rfl (by decide) rfl) (fun w hS => page_big.c hS  hg3) (fun x3 => ?_)
 refine T.copyBf .list 2 rfl rfl (wants0 rfl) rfl rfl rfl (Nat.le_refl _) rfl (Rd.ofBf 0 rfl rfl) rfl ?_
 refine T.env1 3 rfl (slc (n' := (((r3).take (min r3.length (((((List.replicate (8192 : Int).toNat (0 : UInt8)).take (4 : Int).toNat ++ (r1).take (min r1.length (subl (List.replicate (8192 : Int).toNat (0 : UInt8)) 4 (((List.replicate (8192 : Int).toNat (0 : UInt8)).length : Int))).length) ++ (List.replicate (8192 : Int).toNat (0 : UInt8)).drop ((4 : Int).toNat + (min r1.length (subl (List.replicate (8192 : Int).toNat (0 : UInt8)) 4 (((List.replicate (8192 : Int).toNat (0 : UInt8)).length : Int))).length)))).take (6 : Int).toNat ++ (l0).take (min l0.length (subl (((List.replicate (8192 : Int).toNat (0 : UInt8)).take (4 : Int).toNat ++ (r1).take (min r1.length (subl (List.replicate (8192 : Int).toNat (0 : UInt8)) 4 (((List.replicate (8192 : Int).toNat (0 : UInt8)).length : Int))).length) ++ (List.replicate (8192 : Int).toNat (0 : UInt8)).drop ((4 : Int).toNat + (min r1.length (subl (List.replicate (8192 : Int).toNat (0 : UInt8)) 4 (((List.replicate (8192 : Int).toNat (0 : UInt8)).length : Int))).length)))) 6 (((((List.replicate (8192 : Int).toNat (0 : UInt8)).take (4 : Int).toNat ++ (r1).take (min r1.length (subl (List.replicate (8192 : Int).toNat (0 : UInt8)) 4 (((List.replicate (8192 : Int).toNat (0 : UInt8)).length : Int))).length) ++ (List.replicate (8192 : Int).toNat (0 : UInt8)).drop ((4 : Int).toNat + (min r1.length (subl (List.replicate (8192 : Int).toNat (0 : UInt8)) 4 (((List.replicate (8192 : Int).toNat (0 : UInt8)).length : Int))).length)))).length : Int))).length) ++ (((List.replicate (8192 : Int).toNat (0 : UInt8)).take (4 : Int).toNat ++ (r1).take (min r1.length (subl (List.replicate (8192 : Int).toNat (0 : UInt8)) 4 (((List.replicate (8192 : Int).toNat (0 : UInt8)).length : Int))).length) ++ (List.replicate (8192 : Int).toNat (0 : UInt8)).drop ((4 : Int).toNat + (min r1.length (subl (List.replicate (8192 : Int).toNat (0 : UInt8)) 4 (((List.replicate (8192 : Int).toNat (0 : UInt8)).length : Int))).length)))).drop ((6 : Int).toNat + (min l0.length (subl (((List.replicate (8192 : Int).toNat (0 : UInt8)).take (4 : Int).toNat ++ (r1).take (min r1.length (subl (List.replicate (8192 : Int).toNat (0 : UInt8)) 4 (((List.replicate (8192 : Int).toNat (0 : UInt8)).length : Int))).length) ++ (List.replicate (8192 : Int).toNat (0 : UInt8)).drop ((4 : Int).toNat + (min r1.length (subl (List.replicate (8192 : Int).toNat (0 : UInt8)) 4 (((List.replicate (8192 : Int).toNat (0 : UInt8)).length : Int))).length)))) 6 (((((List.replicate (8192 : Int).toNat (0 : UInt8)).take (4 : Int).toNat ++ (r1).take (min r1.length (subl (List.replicate (8192 : Int).toNat (0 : UInt8)) 4 (((List.replicate (8192 : Int).toNat (0 : UInt8)).length : Int))).length) ++ (List.replicate (8192 : Int).toNat (0 : UInt8)).drop ((4 : Int).toNat + (min r1.length (subl (List.replicate (8192 : Int).toNat (0 : UInt8)) 4 (((List.replicate (8192 : Int).toNat (0 : UInt8)).length : Int))).length)))).length : Int))).length)))).length) ++ (((((List.replicate (8192 : Int).toNat (0 : UInt8)).take (4 : Int).toNat ++ (r1).take (min r1.length (subl (List.replicate (8192 : Int).toNat (0 : UInt8)) 4 (((List.replicate (8192 : Int).toNat (0 : UInt8)).length : Int))).length) ++ (List.replicate (8192 : Int).toNat (0 : UInt8)).drop ((4 : Int).toNat + (min r1.length (subl (List.replicate (8192 : Int).toNat (0 : UInt8)) 4 (((List.replicate (8192 : Int).toNat (0 : UInt8)).length : Int))).length)))).take (6 : Int).toNat ++ (l0).take (min l0.length (subl (((List.replicate (8192 : Int).toNat (0 : UInt8)).take (4 : Int).toNat ++ (r1).take (min r1.length (subl (List.replicate (8192 : Int).toNat (0 : UInt8)) 4 (((List.replicate (8192 : Int).toNat (0 : UInt8)).length : Int))).length) ++ (List.replicate (8192 : Int).toNat (0 : UInt8)).drop ((4 : Int).toNat + (min r1.length (subl (List.replicate (8192 : Int).toNat (0 : UInt8)) 4 (((List.replicate (8192 : Int).toNat (0 : UInt8)).length : Int))).length)))) 6 (((((List.replicate (8192 : Int).toNat (0 : UInt8)).take (4 : Int).toNat ++ (r1).take (min r1.length (subl (List.replicate (8192 : Int).toNat (0 : UInt8)) 4 (((List.replicate (8192 : Int).toNat (0 : UInt8)).length : Int))).length) ++ (List.replicate (8192 : Int).toNat (0 : UInt8)).drop ((4 : Int).toNat + (min r1.length (subl (List.replicate (8192 : Int).toNat (0 : UInt8)) 4 (((List.replicate (8192 : Int).toNat (0 : UInt8)).length : Int))).length)))).length : Int))).length) ++ (((List.replicate (8192 : Int).toNat (0 : UInt8)).take (4 : Int).toNat ++ (r1).take (min r1.length (subl (List.replicate (8192 : Int).toNat (0 : UInt8)) 4 (((List.replicate (8192 : Int).toNat (0 : UInt8)).length : Int))).length) ++ (List.replicate (8192 : Int).toNat (0 : UInt8)).drop ((4 : Int).toNat + (min r1.length (subl (List.replicate (8192 : Int).toNat (0 : UInt8)) 4 (((List.replicate (8192 : Int).toNat (0 : UInt8)).length : Int))).length)))).drop ((6 : Int).toNat + (min l0.length (subl (((List.replicate (8192 : Int).toNat (0 : UInt8)).take (4 : Int).toNat ++ (r1).take (min r1.length (subl (List.replicate (8192 : Int).toNat (0 : UInt8)) 4 (((List.replicate (8192 : Int).toNat (0 : UInt8)).length : Int))).length) ++ (List.replicate (8192 : Int).toNat (0 : UInt8)).drop ((4 : Int).toNat + (min r1.length (subl (List.replicate (8192 : Int).toNat (0 : UInt8)) 4 (((List.replicate (8192 : Int).toNat (0 : UInt8)).length : Int))).length)))) 6 (((((List.replicate (8192 : Int).toNat (0 : UInt8)).take (4 : Int).toNat ++ (r1).take (min r1.length (subl (List.replicate (8192 : Int).toNat (0 : UInt8)) 4 (((List.replicate (8192 : Int).toNat (0 : UInt8)).length : Int))).length) ++ (List.replicate (8192 : Int).toNat (0 : UInt8)).drop ((4 : Int).toNat + (min r1.length (subl (List.replicate (8192 : Int).toNat (0 : UInt8)) 4 (((List.replicate (8192 : Int).toNat (0 : UInt8)).length : Int))).length)))).length : Int))).length)))).drop (min r3.length (((((List.replicate (8192 : Int).toNat (0 : UInt8)).take (4 : Int).toNat ++ (r1).take (min r1.length (subl (List.replicate (8192 : Int).toNat (0 : UInt8)) 4 (((List.replicate (8192 : Int).toNat (0 : UInt8)).length : Int))).length) ++ (List.replicate (8192 : Int).toNat (0 : UInt8)).drop ((4 : Int).toNat + (min r1.length (subl (List.replicate (8192 : Int).toNat (0 : UInt8)) 4 (((List.replicate (8192 : Int).toNat (0 : UInt8)).length : Int))).length)))).take (6 : Int).toNat ++ (l0).take (min l0.length (subl (((List.replicate (8192 : Int).toNat (0 : UInt8)).take (4 : Int).toNat ++ (r1).take (min r1.length (subl (List.replicate (8192 : Int).toNat (0 : UInt8)) 4 (((List.replicate (8192 : Int).toNat (0 : UInt8)).length : Int))).length) ++ (List.replicate (8192 : Int).toNat (0 : UInt8)).drop ((4 : Int).toNat + (min r1.length (subl (List.replicate (8192 : Int).toNat (0 : UInt8)) 4 (((List.replicate (8192 : Int).toNat (0 : UInt8)).length : Int))).length)))) 6 (((((List.replicate (8192 : Int).toNat (0 : UInt8)).take (4 : Int).toNat ++ (r1).take (min r1.length (subl (List.replicate (8192 : Int).toNat (0 : UInt8)) 4 (((List.replicate (8192 : Int).toNat (0 : UInt8)).length : Int))).length) ++ (List.replicate (8192 : Int).toNat (0 : UInt8)).drop ((4 : Int).toNat + (min r1.length (subl (List.replicate (8192 : Int).toNat (0 : UInt8)) 4 (((List.replicate (8192 : Int).toNat (0 : UInt8)).length : Int))).length)))).length : Int))).length) ++ (((List.replicate (8192 : Int).toNat (0 : UInt8)).take (4 : Int).toNat ++ (r1).take (min r1.length (subl (List.replicate (8192 : Int).toNat (0 : UInt8)) 4 (((List.replicate (8192 : Int).toNat (0 : UInt8)).length : Int))).length) ++ (List.replicate (8192 : Int).toNat (0 : UInt8)).drop ((4 : Int).toNat + (min r1.length (subl (List.replicate (8192 : Int).toNat (0 : UInt8)) 4 (((List.replicate (8192 : Int).toNat (0 : UInt8)).length : Int))).length)))).drop ((6 : Int).toNat + (min l0.length (subl (((List.replicate (8192 : Int).toNat (0 : UInt8)).take (4 : Int).toNat ++ (r1).take (min r1.length (subl (List.replicate (8192 : Int).toNat (0 : UInt8)) 4 (((List.replicate (8192 : Int).toNat (0 : UInt8)).length : Int))).length) ++ (List.replicate (8192 : Int).toNat (0 : UInt8)).drop ((4 : Int).toNat + (min r1.length (subl (List.replicate (8192 : Int).toNat (0 : UInt8)) 4 (((List.replicate (8192 : Int).toNat (0 : UInt8)).length : Int))).length)))) 6 (((((List.replicate (8192 : Int).toNat (0 : UInt8)).take (4 : Int).toNat ++ (r1).take (min r1.length (subl (List.replicate (8192 : Int).toNat (0 : UInt8)) 4 (((List.replicate (8192 : Int).toNat (0 : UInt8)).length : Int))).length) ++ (List.replicate (8192 : Int).toNat (0 : UInt8)).drop ((4 : Int).toNat + (min r1.length (subl (List.replicate (8192 : Int).toNat (0 : UInt8)) 4 (((List.replicate (8192 : Int).toNat (0 : UInt8)).length : Int))).length)))).length : Int))).length)))).length))).length) (by simp only [List.length_append, List.length_take, List.length_drop, List.length_replicate]; (try unfold subl); (try simp only [List.length_drop, List.length_take, List.length_replicate]); omega)) ?_
 refine T.env1 4 rfl (slc (n' := (((r3).take (min r3.length (((((List.replicate (8192 : Int).toNat (0 : UInt8)).take (4 : Int).toNat ++ (r1).take (min r1.length (subl (List.replicate (8192 : Int).toNat (0 : UInt8)) 4 (((List.replicate (8192 : Int).toNat (0 : UInt8)).length : Int))).length) ++ (List.replicate (8192 : Int).toNat (0 : UInt8)).drop ((4 : Int).toNat + (min r1.length (subl (List.replicate (8192 : Int).toNat (0 : UInt8)) 4 (((List.replicate (8192 : Int).toNat (0 : UInt8)).length : Int))).length)))).take (6 : Int).toNat ++ (l0).take (min l0.length (subl (((List.replicate (8192 : Int).toNat (0 : UInt8)).take (4 : Int).toNat ++ (r1).take (min r1.length (subl (List.replicate (8192 : Int).toNat (0 : UInt8)) 4 (((List.replicate (8192 : Int).toNat (0 : UInt8)).length : Int))).length) ++ (List.replicate (8192 : Int).toNat (0 : UInt8)).drop ((4 : Int).toNat + (min r1.length (subl (List.replicate (8192 : Int).toNat (0 : UInt8)) 4 (((List.replicate (8192 : Int).toNat (0 : UInt8)).length : Int))).length)))) 6 (((((List.replicate (8192 : Int).toNat (0 : UInt8)).take (4 : Int).toNat ++ (r1).take (min r1.length (subl (List.replicate (8192 : Int).toNat (0 : UInt8)) 4 (((List.replicate (8192 : Int).toNat (0 : UInt8)).length : Int))).length) ++ (List.replicate (8192 : Int).toNat (0 : UInt8)).drop ((4 : Int).toNat + (min r1.length (subl (List.replicate (8192 : Int).toNat (0 : UInt8)) 4 (((List.replicate (8192 : Int).toNat (0 : UInt8)).length : Int))).length)))).length : Int))).length) ++ (((List.replicate (8192 : Int).toNat (0 : UInt8)).take (4 : Int).toNat ++ (r1).take (min r1.length (subl (List.replicate (8192 : Int).toNat (0 : UInt8)) 4 (((List.replicate (8192 : Int).toNat (0 : UInt8)).length : Int))).length) ++ (List.replicate (8192 : Int).toNat (0 : UInt8)).drop ((4 : Int).toNat + (min r1.length (subl (List.replicate (8192 : Int).toNat (0 : UInt8)) 4 (((List.replicate (8192 : Int).toNat (0 : UInt8)).length : Int))).length)))).drop ((6 : Int).toNat + (min l0.length (subl (((List.replicate (8192 : Int).toNat (0 : UInt8)).take (4 : Int).toNat ++ (r1).take (min r1.length (subl (List.replicate (8192 : Int).toNat (0 : UInt8)) 4 (((List.replicate (8192 : Int).toNat (0 : UInt8)).length : Int))).length) ++ (List.replicate (8192 : Int).toNat (0 : UInt8)).drop ((4 : Int).toNat + (min r1.length (subl (List.replicate (8192 : Int).toNat (0 : UInt8)) 4 (((List.replicate (8192 : Int).toNat (0 : UInt8)).length : Int))).length)))) 6 (((((List.replicate (8192 : Int).toNat (0 : UInt8)).take (4 : Int).toNat ++ (r1).take (min r1.length (subl (List.replicate (8192 : Int).toNat (0 : UInt8)) 4 (((List.replicate (8192 : Int).toNat (0 : UInt8)).length : Int))).length) ++ (List.replicate (8192 : Int).toNat (0 : UInt8)).drop ((4 : Int).toNat + (min r1.length (subl (List.replicate (8192 : Int).toNat (0 : UInt8)) 4 (((List.replicate (8192 : Int).toNat (0 : UInt8)).length : Int))).length)))).length : Int))).length)))).length) ++ (((((List.replicate (8192 : Int).toNat (0 : UInt8)).take (4 : Int).toNat ++ (r1).take (min r1.length (subl (List.replicate (8192 : Int).toNat (0 : UInt8)) 4 (((List.replicate (8192 : Int).toNat (0 : UInt8)).length : Int))).length) ++ (List.replicate (8192 : Int).toNat (0 : UInt8)).drop ((4 : Int).toNat + (min r1.length (subl (List.replicate (8192 : Int).toNat (0 : UInt8)) 4 (((List.replicate (8192 : Int).toNat (0 : UInt8)).length : Int))).length)))).take (6 : Int).toNat ++ (l0).take (min l0.length (subl (((List.replicate (8192 : Int).toNat (0 : UInt8)).take (4 : Int).toNat ++ (r1).take (min r1.length (subl (List.replicate (8192 : Int).toNat (0 : UInt8)) 4 (((List.replicate (8192 : Int).toNat (0 : UInt8)).length : Int))).length) ++ (List.replicate (8192 : Int).toNat (0 : UInt8)).drop ((4 : Int).toNat + (min r1.length (subl (List.replicate (8192 : Int).toNat (0 : UInt8)) 4 (((List.replicate (8192 : Int).toNat (0 : UInt8)).length : Int))).length)))) 6 (((((List.replicate (8192 : Int).toNat (0 : UInt8)).take (4 : Int).toNat ++ (r1).take (min r1.length (subl (List.replicate (8192 : Int).toNat (0 : UInt8)) 4 (((List.replicate (8192 : Int).toNat (0 : UInt8)).length : Int))).length) ++ (List.replicate (8192 : Int).toNat (0 : UInt8)).drop ((4 : Int).toNat + (min r1.length (subl (List.replicate (8192 : Int).toNat (0 : UInt8)) 4 (((List.replicate (8192 : Int).toNat (0 : UInt8)).length : Int))).length)))).length : Int))).length) ++ (((List.replicate (8192 : Int).toNat (0 : UInt8)).take (4 : Int).toNat ++ (r1).take (min r1.length (subl (List.replicate (8192 : Int).toNat (0 : UInt8)) 4 (((List.replicate (8192 : Int).toNat (0 : UInt8)).length : Int))).length) ++ (List.replicate (8192 : Int).toNat (0 : UInt8)).drop ((4 : Int).toNat + (min r1.length (subl (List.replicate (8192 : Int).toNat (0 : UInt8)) 4 (((List.replicate (8192 : Int).toNat (0 : UInt8)).length : Int))).length)))).drop ((6 : Int).toNat + (min l0.length (subl (((List.replicate (8192 : Int).toNat (0 : UInt8)).take (4 : Int).toNat ++ (r1).take (min r1.length (subl (List.replicate (8192 : Int).toNat (0 : UInt8)) 4 (((List.replicate (8192 : Int).toNat (0 : UInt8)).length : Int))).length) ++ (List.replicate (8192 : Int).toNat (0 : UInt8)).drop ((4 : Int).toNat + (min r1.length (subl (List.replicate (8192 : Int).toNat (0 : UInt8)) 4 (((List.replicate (8192 : Int).toNat (0 : UInt8)).length : Int))).length)))) 6 (((((List.replicate (8192 : Int).toNat (0 : UInt8)).take (4 : Int).toNat ++ (r1).take (min r1.length (subl (List.replicate (8192 : Int).toNat (0 : UInt8)) 4 (((List.replicate (8192 : Int).toNat (0 : UInt8)).length : Int))).length) ++ (List.replicate (8192 : Int).toNat (0 : UInt8)).drop ((4 : Int).toNat + (min r1.length (subl (List.replicate (8192 : Int).toNat (0 : UInt8)) 4 (((List.replicate (8192 : Int).toNat (0 : UInt8)).length : Int))).length)))).length : Int))).length)))).drop (min r3.length (((((List.replicate (8192 : Int).toNat (0 : UInt8)).take (4 : Int).toNat ++ (r1).take (min r1.length (subl (List.replicate (8192 : Int).toNat (0 : UInt8)) 4 (((List.replicate (8192 : Int).toNat (0 : UInt8)).length : Int))).length) ++ (List.replicate (8192 : Int).toNat (0 : UInt8)).drop ((4 : Int).toNat + (min r1.length (subl (List.replicate (8192 : Int).toNat (0 : UInt8)) 4 (((List.replicate (8192 : Int).toNat (0 : UInt8)).length : Int))).length)))).take (6 : Int).toNat ++ (l0).take (min l0.length (subl (((List.replicate (8192 : Int).toNat (0 : UInt8)).take (4 : Int).toNat ++ (r1).take (min r1.length (subl (List.replicate (8192 : Int).toNat (0 : UInt8)) 4 (((List.replicate (8192 : Int).toNat (0 : UInt8)).length : Int))).length) ++ (List.replicate (8192 : Int).toNat (0 : UInt8)).drop ((4 : Int).toNat + (min r1.length (subl (List.replicate (8192 : Int).toNat (0 : UInt8)) 4 (((List.replicate (8192 : Int).toNat (0 : UInt8)).length : Int))).length)))) 6 (((((List.replicate (8192 : Int).toNat (0 : UInt8)).take (4 : Int).toNat ++ (r1).take (min r1.length (subl (List.replicate (8192 : Int).toNat (0 : UInt8)) 4 (((List.replicate (8192 : Int).toNat (0 : UInt8)).length : Int))).length) ++ (List.replicate (8192 : Int).toNat (0 : UInt8)).drop ((4 : Int).toNat + (min r1.length (subl (List.replicate (8192 : Int).toNat (0 : UInt8)) 4 (((List.replicate (8192 : Int).toNat (0 : UInt8)).length : Int))).length)))).length : Int))).length) ++ (((List.replicate (8192 : Int).toNat (0 : UInt8)).take (4 : Int).toNat ++ (r1).take (min r1.length (subl (List.replicate (8192 : Int).toNat (0 : UInt8)) 4 (((List.replicate (8192 : Int).toNat (0 : UInt8)).length : Int))).length) ++ (List.replicate (8192 : Int).toNat (0 : UInt8)).drop ((4 : Int).toNat + (min r1.length (subl (List.replicate (8192 : Int).toNat (0 : UInt8)) 4 (((List.replicate (8192 : Int).toNat (0 : UInt8)).length : Int))).length)))).drop ((6 : Int).toNat + (min l0.length (subl (((List.replicate (8192 : Int).toNat (0 : UInt8)).take (4 : Int).toNat ++ (r1).take (min r1.length (subl (List.replicate (8192 : Int).toNat (0 : UInt8)) 4 (((List.replicate (8192 : Int).toNat (0 : UInt8)).length : Int))).length) ++ (List.replicate (8192 : Int).toNat (0 : UInt8)).drop ((4 : Int).toNat + (min r1.length (subl (List.replicate (8192 : Int).toNat (0 : UInt8)) 4 (((List.replicate (8192 : Int).toNat (0 : UInt8)).length : Int))).length)))) 6 (((((List.replicate (8192 : Int).toNat (0 : UInt8)).take (4 : Int).toNat ++ (r1).take (min r1.length (subl (List.replicate (8192 : Int).toNat (0 : UInt8)) 4 (((List.replicate (8192 : Int).toNat (0 : UInt8)).length : Int))).length) ++ (List.replicate (8192 : Int).toNat (0 : UInt8)).drop ((4 : Int).toNat + (min r1.length (subl (List.replicate (8192 : Int).toNat (0 : UInt8)) 4 (((List.replicate (8192 : Int).toNat (0 : UInt8)).length : Int))).length)))).length : Int))).length)))).length))).length) (by simp only [List.length_append, List.length_take, List.length_drop, List.length_replicate]; (try unfold subl); (try simp only [List.length_drop, List.length_take, List.length_replicate]); omega)) ?_
 refine T.env1 5 rfl (slc (n' := (((r3).take (min r3.length (((((List.replicate (8192 : Int).toNat (0 : UInt8)).take (4 : Int).toNat ++ (r1).take (min r1.length (subl (List.replicate (8192 : Int).toNat (0 : UInt8)) 4 (((List.replicate (8192 : Int).toNat (0 : UInt8)).length : Int))).length) ++ (List.replicate (8192 : Int).toNat (0 : UInt8)).drop ((4 : Int).toNat + (min r1.length (subl (List.replicate (8192 : Int).toNat (0 : UInt8)) 4 (((List.replicate (8192 : Int).toNat (0 : UInt8)).length : Int))).length)))).take (6 : Int).toNat ++ (l0).take (min l0.length (subl (((List.replicate (8192 : Int).toNat (0 : UInt8)).take (4 : Int).toNat ++ (r1).take (min r1.length (subl (List.replicate (8192 : Int).toNat (0 : UInt8)) 4 (((List.replicate (8192 : Int).toNat (0 : UInt8)).length : Int))).length) ++ (List.replicate (8192 : Int).toNat (0 : UInt8)).drop ((4 : Int).toNat + (min r1.length (subl (List.replicate (8192 : Int).toNat (0 : UInt8)) 4 (((List.replicate (8192 : Int).toNat (0 : UInt8)).length : Int))).length)))) 6 (((((List.replicate (8192 : Int).toNat (0 : UInt8)).take (4 : Int).toNat ++ (r1).take (min r1.length (subl (List.replicate (8192 : Int).toNat (0 : UInt8)) 4 (((List.replicate (8192 : Int).toNat (0 : UInt8)).length : Int))).length) ++ (List.replicate (8192 : Int).toNat (0 : UInt8)).drop ((4 : Int).toNat + (min r1.length (subl (List.replicate (8192 : Int).toNat (0 : UInt8)) 4 (((List.replicate (8192 : Int).toNat (0 : UInt8)).length : Int))).length)))).length : Int))).length) ++ (((List.replicate (8192 : Int).toNat (0 : UInt8)).take (4 : Int).toNat ++ (r1).take (min r1.length (subl (List.replicate (8192 : Int).toNat (0 : UInt8)) 4 (((List.replicate (8192 : Int).toNat (0 : UInt8)).length : Int))).length) ++ (List.replicate (8192 : Int).toNat (0 : UInt8)).drop ((4 : Int).toNat + (min r1.length (subl (List.replicate (8192 : Int).toNat (0 : UInt8)) 4 (((List.replicate (8192 : Int).toNat (0 : UInt8)).length : Int))).length)))).drop ((6 : Int).toNat + (min l0.length (subl (((List.replicate (8192 : Int).toNat (0 : UInt8)).take (4 : Int).toNat ++ (r1).take (min r1.length (subl (List.replicate (8192 : Int).toNat (0 : UInt8)) 4 (((List.replicate (8192 : Int).toNat (0 : UInt8)).length : Int))).length) ++ (List.replicate (8192 : Int).toNat (0 : UInt8)).drop ((4 : Int).toNat + (min r1.length (subl (List.replicate (8192 : Int).toNat (0 : UInt8)) 4 (((List.replicate (8192 : Int).toNat (0 : UInt8)).length : Int))).length)))) 6 (((((List.replicate (8192 : Int).toNat (0 : UInt8)).take (4 : Int).toNat ++ (r1).take (min r1.length (subl (List.replicate (8192 : Int).toNat (0 : UInt8)) 4 (((List.replicate (8192 : Int).toNat (0 : UInt8)).length : Int))).length) ++ (List.replicate (8192 : Int).toNat (0 : UInt8)).drop ((4 : Int).toNat + (min r1.length (subl (List.replicate (8192 : Int).toNat (0 : UInt8)) 4 (((List.replicate (8192 : Int).toNat (0 : UInt8)).length : Int))).length)))).length : Int))).length)))).length) ++ (((((List.replicate (8192 : Int).toNat (0 : UInt8)).take (4 : Int).toNat ++ (r1).take (min r1.length (subl (List.replicate (8192 : Int).toNat (0 : UInt8)) 4 (((List.replicate (8192 : Int).toNat (0 : UInt8)).length : Int))).length) ++ (List.replicate (8192 : Int).toNat (0 : UInt8)).drop ((4 : Int).toNat + (min r1.length (subl (List.replicate (8192 : Int).toNat (0 : UInt8)) 4 (((List.replicate (8192 : Int).toNat (0 : UInt8)).length : Int))).length)))).take (6 : Int).toNat ++ (l0).take (min l0.length (subl (((List.replicate (8192 : Int).toNat (0 : UInt8)).take (4 : Int).toNat ++ (r1).take (min r1.length (subl (List.replicate (8192 : Int).toNat (0 : UInt8)) 4 (((List.replicate (8192 : Int).toNat (0 : UInt8)).length : Int))).length) ++ (List.replicate (8192 : Int).toNat (0 : UInt8)).drop ((4 : Int).toNat + (min r1.length (subl (List.replicate (8192 : Int).toNat (0 : UInt8)) 4 (((List.replicate (8192 : Int).toNat (0 : UInt8)).length : Int))).length)))) 6 (((((List.replicate (8192 : Int).toNat (0 : UInt8)).take (4 : Int).toNat ++ (r1).take (min r1.length (subl (List.replicate (8192 : Int).toNat (0 : UInt8)) 4 (((List.replicate (8192 : Int).toNat (0 : UInt8)).length : Int))).length) ++ (List.replicate (8192 : Int).toNat (0 : UInt8)).drop ((4 : Int).toNat + (min r1.length (subl (List.replicate (8192 : Int).toNat (0 : UInt8)) 4 (((List.replicate (8192 : Int).toNat (0 : UInt8)).length : Int))).length)))).length : Int))).length) ++ (((List.replicate (8192 : Int).toNat (0 : UInt8)).take (4 : Int).toNat ++ (r1).take (min r1.length (subl (List.replicate (8192 : Int).toNat (0 : UInt8)) 4 (((List.replicate (8192 : Int).toNat (0 : UInt8)).length : Int))).length) ++ (List.replicate (8192 : Int).toNat (0 : UInt8)).drop ((4 : Int).toNat + (min r1.length (subl (List.replicate (8192 : Int).toNat (0 : UInt8)) 4 (((List.replicate (8192 : Int).toNat (0 : UInt8)).length : Int))).length)))).drop ((6 : Int).toNat + (min l0.length (subl (((List.replicate (8192 : Int).toNat (0 : UInt8)).take (4 : Int).toNat ++ (r1).take (min r1.length (subl (List.replicate (8192 : Int).toNat (0 : UInt8)) 4 (((List.replicate (8192 : Int).toNat (0 : UInt8)).length : Int))).length) ++ (List.replicate (8192 : Int).toNat (0 : UInt8)).drop ((4 : Int).toNat + (min r1.length (subl (List.replicate (8192 : Int).toNat (0 : UInt8)) 4 (((List.replicate (8192 : Int).toNat (0 : UInt8)).length : Int))).length)))) 6 (((((List.replicate (8192 : Int).toNat (0 : UInt8)).take (4 : Int).toNat ++ (r1).take (min r1.length (subl (List.replicate (8192 : Int).toNat (0 : UInt8)) 4 (((List.replicate (8192 : Int).toNat (0 : UInt8)).length : Int))).length) ++ (List.replicate (8192 : Int).toNat (0 : UInt8)).drop ((4 : Int).toNat + (min r1.length (subl (List.replicate (8192 : Int).toNat (0 : UInt8)) 4 (((List.replicate (8192 : Int).toNat (0 : UInt8)).length : Int))).length)))).length : Int))).length)))).drop (min r3.length (((((List.replicate (8192 : Int).toNat (0 : UInt8)).take (4 : Int).toNat ++ (r1).take (min r1.length (subl (List.replicate (8192 : Int).toNat (0 : UInt8)) 4 (((List.replicate (8192 : Int).toNat (0 : UInt8)).length : Int))).length) ++ (List.replicate (8192 : Int).toNat (0 : UInt8)).drop ((4 : Int).toNat + (min r1.length (subl (List.replicate (8192 : Int).toNat (0 : UInt8)) 4 (((List.replicate (8192 : Int).toNat (0 : UInt8)).length : Int))).length)))).take (6 : Int).toNat ++ (l0).take (min l0.length (subl (((List.replicate (8192 : Int).toNat (0 : UInt8)).take (4 : Int).toNat ++ (r1).take (min r1.length (subl (List.replicate (8192 : Int).toNat (0 : UInt8)) 4 (((List.replicate (8192 : Int).toNat (0 : UInt8)).length : Int))).length) ++ (List.replicate (8192 : Int).toNat (0 : UInt8)).drop ((4 : Int).toNat + (min r1.length (subl (List.replicate (8192 : Int).toNat (0 : UInt8)) 4 (((List.replicate (8192 : Int).toNat (0 : UInt8)).length : Int))).length)))) 6 (((((List.replicate (8192 : Int).toNat (0 : UInt8)).take (4 : Int).toNat ++ (r1).take (min r1.length (subl (List.replicate (8192 : Int).toNat (0 : UInt8)) 4 (((List.replicate (8192 : Int).toNat (0 : UInt8)).length : Int))).length) ++ (List.replicate (8192 : Int).toNat (0 : UInt8)).drop ((4 : Int).toNat + (min r1.length (subl (List.replicate (8192 : Int).toNat (0 : UInt8)) 4 (((List.replicate (8192 : Int).toNat (0 : UInt8)).length : Int))).length)))).length : Int))).length) ++ (((List.replicate (8192 : Int).toNat (0 : UInt8)).take (4 : Int).toNat ++ (r1).take (min r1.length (subl (List.replicate (8192 : Int).toNat (0 : UInt8)) 4 (((List.replicate (8192 : Int).toNat (0 : UInt8)).length : Int))).length) ++ (List.replicate (8192 : Int).toNat (0 : UInt8)).drop ((4 : Int).toNat + (min r1.length (subl (List.replicate (8192 : Int).toNat (0 : UInt8)) 4 (((List.replicate (8192 : Int).toNat (0 : UInt8)).length : Int))).length)))).drop ((6 : Int).toNat + (min l0.length (subl (((List.replicate (8192 : Int).toNat (0 : UInt8)).take (4 : Int).toNat ++ (r1).take (min r1.length (subl (List.replicate (8192 : Int).toNat (0 : UInt8)) 4 (((List.replicate (8192 : Int).toNat (0 : UInt8)).length : Int))).length) ++ (List.replicate (8192 : Int).toNat (0 : UInt8)).drop ((4 : Int).toNat + (min r1.length (subl (List.replicate (8192 : Int).toNat (0 : UInt8)) 4 (((List.replicate (8192 : Int).toNat (0 : UInt8)).length : Int))).length)))) 6 (((((List.replicate (8192 : Int).toNat (0 : UInt8)).take (4 : Int).toNat ++ (r1).take (min r1.length (subl (List.replicate (8192 : Int).toNat (0 : UInt8)) 4 (((List.replicate (8192 : Int).toNat (0 : UInt8)).length : Int))).length) ++ (List.replicate (8192 : Int).toNat (0 : UInt8)).drop ((4 : Int).toNat + (min r1.length (subl (List.replicate (8192 : Int).toNat (0 : UInt8)) 4 (((List.replicate (8192 : Int).toNat (0 : UInt8)).length : Int))).length)))).length : Int))).length)))).length))).length) (by simp only [List.length_append, List.length_take, List.length_drop, List.length_replicate]; (try unfold subl); (try simp only [List.length_drop, List.length_take, List.length_replicate]); omega)) ?_
 refine T.env1 12 rfl (slc (n' := (((r3).take (min r3.length (((((List.replicate (8192 : Int).toNat (0 : UInt8)).take (4 : Int).toNat ++ (r1).take (min r1.length (subl (List.replicate (8192 : Int).toNat (0 : UInt8)) 4 (((List.replicate (8192 : Int).toNat (0 : UInt8)).length : Int))).length) ++ (List.replicate (8192 : Int).toNat (0 : UInt8)).drop ((4 : Int).toNat + (min r1.length (subl (List.replicate (8192 : Int).toNat (0 : UInt8)) 4 (((List.replicate (8192 : Int).toNat (0 : UInt8)).length : Int))).length)))).take (6 : Int).toNat ++ (l0).take (min l0.length (subl (((List.replicate (8192 : Int).toNat (0 : UInt8)).take (4 : Int).toNat ++ (r1).take (min r1.length (subl (List.replicate (8192 : Int).toNat (0 : UInt8)) 4 (((List.replicate (8192 : Int).toNat (0 : UInt8)).length : Int))).length) ++ (List.replicate (8192 : Int).toNat (0 : UInt8)).drop ((4 : Int).toNat + (min r1.length (subl (List.replicate (8192 : Int).toNat (0 : UInt8)) 4 (((List.replicate (8192 : Int).toNat (0 : UInt8)).length : Int))).length)))) 6 (((((List.replicate (8192 : Int).toNat (0 : UInt8)).take (4 : Int).toNat ++ (r1).take (min r1.length (subl (List.replicate (8192 : Int).toNat (0 : UInt8)) 4 (((List.replicate (8192 : Int).toNat (0 : UInt8)).length : Int))).length) ++ (List.replicate (8192 : Int).toNat (0 : UInt8)).drop ((4 : Int).toNat + (min r1.length (subl (List.replicate (8192 : Int).toNat (0 : UInt8)) 4 (((List.replicate (8192 : Int).toNat (0 : UInt8)).length : Int))).length)))).length : Int))).length) ++ (((List.replicate (8192 : Int).toNat (0 : UInt8)).take (4 : Int).toNat ++ (r1).take (min r1.length (subl (List.replicate (8192 : Int).toNat (0 : UInt8)) 4 (((List.replicate (8192 : Int).toNat (0 : UInt8)).length : Int))).length) ++ (List.replicate (8192 : Int).toNat (0 : UInt8)).drop ((4 : Int).toNat + (min r1.length (subl (List.replicate (8192 : Int).toNat (0 : UInt8)) 4 (((List.replicate (8192 : Int).toNat (0 : UInt8)).length : Int))).length)))).drop ((6 : Int).toNat + (min l0.length (subl (((List.replicate (8192 : Int).toNat (0 : UInt8)).take (4 : Int).toNat ++ (r1).take (min r1.length (subl (List.replicate (8192 : Int).toNat (0 : UInt8)) 4 (((List.replicate (8192 : Int).toNat (0 : UInt8)).length : Int))).length) ++ (List.replicate (8192 : Int).toNat (0 : UInt8)).drop ((4 : Int).toNat + (min r1.length (subl (List.replicate (8192 : Int).toNat (0 : UInt8)) 4 (((List.replicate (8192 : Int).toNat (0 : UInt8)).length : Int))).length)))) 6 (((((List.replicate (8192 : Int).toNat (0 : UInt8)).take (4 : Int).toNat ++ (r1).take (min r1.length (subl (List.replicate (8192 : Int).toNat (0 : UInt8)) 4 (((List.replicate (8192 : Int).toNat (0 : UInt8)).length : Int))).length) ++ (List.replicate (8192 : Int).toNat (0 : UInt8)).drop ((4 : Int).toNat + (min r1.length (subl (List.replicate (8192 : Int).toNat (0 : UInt8)) 4 (((List.replicate (8192 : Int).toNat (0 : UInt8)).length : Int))).length)))).length : Int))).length)))).length) ++ (((((List.replicate (8192 : Int).toNat (0 : UInt8)).take (4 : Int).toNat ++ (r1).take (min r1.length (subl (List.replicate (8192 : Int).toNat (0 : UInt8)) 4 (((List.replicate (8192 : Int).toNat (0 : UInt8)).length : Int))).length) ++ (List.replicate (8192 : Int).toNat (0 : UInt8)).drop ((4 : Int).toNat + (min r1.length (subl (List.replicate (8192 : Int).toNat (0 : UInt8)) 4 (((List.replicate (8192 : Int).toNat (0 : UInt8)).length : Int))).length)))).take (6 : Int).toNat ++ (l0).take (min l0.length (subl (((List.replicate (8192 : Int).toNat (0 : UInt8)).take (4 : Int).toNat ++ (r1).take (min r1.length (subl (List.replicate (8192 : Int).toNat (0 : UInt8)) 4 (((List.replicate (8192 : Int).toNat (0 : UInt8)).length : Int))).length) ++ (List.replicate (8192 : Int).toNat (0 : UInt8)).drop ((4 : Int).toNat + (min r1.length (subl (List.replicate (8192 : Int).toNat (0 : UInt8)) 4 (((List.replicate (8192 : Int).toNat (0 : UInt8)).length : Int))).length)))) 6 (((((List.replicate (8192 : Int).toNat (0 : UInt8)).take (4 : Int).toNat ++ (r1).take (min r1.length (subl (List.replicate (8192 : Int).toNat (0 : UInt8)) 4 (((List.replicate (8192 : Int).toNat (0 : UInt8)).length : Int))).length) ++ (List.replicate (8192 : Int).toNat (0 : UInt8)).drop ((4 : Int).toNat + (min r1.length (subl (List.replicate (8192 : Int).toNat (0 : UInt8)) 4 (((List.replicate (8192 : Int).toNat (0 : UInt8)).length : Int))).length)))).length : Int))).length) ++ (((List.replicate (8192 : Int).toNat (0 : UInt8)).take (4 : Int).toNat ++ (r1).take (min r1.length (subl (List.replicate (8192 : Int).toNat (0 : UInt8)) 4 (((List.replicate (8192 : Int).toNat (0 : UInt8)).length : Int))).length) ++ (List.replicate (8192 : Int).toNat (0 : UInt8)).drop ((4 : Int).toNat + (min r1.length (subl (List.replicate (8192 : Int).toNat (0 : UInt8)) 4 (((List.replicate (8192 : Int).toNat (0 : UInt8)).length : Int))).length)))).drop ((6 : Int).toNat + (min l0.length (subl (((List.replicate (8192 : Int).toNat (0 : UInt8)).take (4 : Int).toNat ++ (r1).take (min r1.length (subl (List.replicate (8192 : Int).toNat (0 : UInt8)) 4 (((List.replicate (8192 : Int).toNat (0 : UInt8)).length : Int))).length) ++ (List.replicate (8192 : Int).toNat (0 : UInt8)).drop ((4 : Int).toNat + (min r1.length (subl (List.replicate (8192 : Int).toNat (0 : UInt8)) 4 (((List.replicate (8192 : Int).toNat (0 : UInt8)).length : Int))).length)))) 6 (((((List.replicate (8192 : Int).toNat (0 : UInt8)).take (4 : Int).toNat ++ (r1).take (min r1.length (subl (List.replicate (8192 : Int).toNat (0 : UInt8)) 4 (((List.replicate (8192 : Int).toNat (0 : UInt8)).length : Int))).length) ++ (List.replicate (8192 : Int).toNat (0 : UInt8)).drop ((4 : Int).toNat + (min r1.length (subl (List.replicate (8192 : Int).toNat (0 : UInt8)) 4 (((List.replicate (8192 : Int).toNat (0 : UInt8)).length : Int))).length)))).length : Int))).length)))).drop (min r3.length (((((List.replicate (8192 : Int).toNat (0 : UInt8)).take (4 : Int).toNat ++ (r1).take (min r1.length (subl (List.replicate (8192 : Int).toNat (0 : UInt8)) 4 (((List.replicate (8192 : Int).toNat (0 : UInt8)).length : Int))).length) ++ (List.replicate (8192 : Int).toNat (0 : UInt8)).drop ((4 : Int).toNat + (min r1.length (subl (List.replicate (8192 : Int).toNat (0 : UInt8)) 4 (((List.replicate (8192 : Int).toNat (0 : UInt8)).length : Int))).length)))).take (6 : Int).toNat ++ (l0).take (min l0.length (subl (((List.replicate (8192 : Int).toNat (0 : UInt8)).take (4 : Int).toNat ++ (r1).take (min r1.length (subl (List.replicate (8192 : Int).toNat (0 : UInt8)) 4 (((List.replicate (8192 : Int).toNat (0 : UInt8)).length : Int))).length) ++ (List.replicate (8192 : Int).toNat (0 : UInt8)).drop ((4 : Int).toNat + (min r1.length (subl (List.replicate (8192 : Int).toNat (0 : UInt8)) 4 (((List.replicate (8192 : Int).toNat (0 : UInt8)).length : Int))).length)))) 6 (((((List.replicate (8192 : Int).toNat (0 : UInt8)).take (4 : Int).toNat ++ (r1).take (min r1.length (subl (List.replicate (8192 : Int).toNat (0 : UInt8)) 4 (((List.replicate (8192 : Int).toNat (0 : UInt8)).length : Int))).length) ++ (List.replicate (8192 : Int).toNat (0 : UInt8)).drop ((4 : Int).toNat + (min r1.length (subl (List.replicate (8192 : Int).toNat (0 : UInt8)) 4 (((List.replicate (8192 : Int).toNat (0 : UInt8)).length : Int))).length)))).length : Int))).length) ++ (((List.replicate (8192 : Int).toNat (0 : UInt8)).take (4 : Int).toNat ++ (r1).take (min r1.length (subl (List.replicate (8192 : Int).toNat (0 : UInt8)) 4 (((List.replicate (8192 : Int).toNat (0 : UInt8)).length : Int))).length) ++ (List.replicate (8192 : Int).toNat (0 : UInt8)).drop ((4 : Int).toNat + (min r1.length (subl (List.replicate (8192 : Int).toNat (0 : UInt8)) 4 (((List.replicate (8192 : Int).toNat (0 : UInt8)).length : Int))).length)))).drop ((6 : Int).toNat + (min l0.length (subl (((List.replicate (8192 : Int).toNat (0 : UInt8)).take (4 : Int).toNat ++ (r1).take (min r1.length (subl (List.replicate (8192 : Int).toNat (0 : UInt8)) 4 (((List.replicate (8192 : Int).toNat (0 : UInt8)).length : Int))).length) ++ (List.replicate (8192 : Int).toNat (0 : UInt8)).drop ((4 : Int).toNat + (min r1.length (subl (List.replicate (8192 : Int).toNat (0 : UInt8)) 4 (((List.replicate (8192 : Int).toNat (0 : UInt8)).length : Int))).length)))) 6 (((((List.replicate (8192 : Int).toNat (0 : UInt8)).take (4 : Int).toNat ++ (r1).take (min r1.length (subl (List.replicate (8192 : Int).toNat (0 : UInt8)) 4 (((List.replicate (8192 : Int).toNat (0 : UInt8)).length : Int))).length) ++ (List.replicate (8192 : Int).toNat (0 : UInt8)).drop ((4 : Int).toNat + (min r1.length (subl (List.replicate (8192 : Int).toNat (0 : UInt8)) 4 (((List.replicate (8192 : Int).toNat (0 : UInt8)).length : Int))).length)))).length : Int))).length)))).length))).length) (by simp only [List.length_append, List.length_take, List.length_drop, List.length_replicate]; (try unfold subl); (try simp only [List.length_drop, List.length_take, List.length_replicate]); omega)) ?_
 refine T.env1 16 rfl (slc (n' := (((r3).take (min r3.length (((((List.replicate (8192 : Int).toNat (0 : UInt8)).take (4 : Int).toNat ++ (r1).take (min r1.length (subl (List.replicate (8192 : Int).toNat (0 : UInt8)) 4 (((List.replicate (8192 : Int).toNat (0 : UInt8)).length : Int))).length) ++ (List.replicate (8192 : Int).toNat (0 : UInt8)).drop ((4 : Int).toNat + (min r1.length (subl (List.replicate (8192 : Int).toNat (0 : UInt8)) 4 (((List.replicate (8192 : Int).toNat (0 : UInt8)).length : Int))).length)))).take (6 : Int).toNat ++ (l0).take (min l0.length (subl (((List.replicate (8192 : Int).toNat (0 : UInt8)).take (4 : Int).toNat ++ (r1).take (min r1.length (subl (List.replicate (8192 : Int).toNat (0 : UInt8)) 4 (((List.replicate (8192 : Int).toNat (0 : UInt8)).length : Int))).length) ++ (List.replicate (8192 : Int).toNat (0 : UInt8)).drop ((4 : Int).toNat + (min r1.length (subl (List.replicate (8192 : Int).toNat (0 : UInt8)) 4 (((List.replicate (8192 : Int).toNat (0 : UInt8)).length : Int))).length)))) 6 (((((List.replicate (8192 : Int).toNat (0 : UInt8)).take (4 : Int).toNat ++ (r1).take (min r1.length (subl (List.replicate (8192 : Int).toNat (0 : UInt8)) 4 (((List.replicate (8192 : Int).toNat (0 : UInt8)).length : Int))).length) ++ (List.replicate (8192 : Int).toNat (0 : UInt8)).drop ((4 : Int).toNat + (min r1.length (subl (List.replicate (8192 : Int).toNat (0 : UInt8)) 4 (((List.replicate (8192 : Int).toNat (0 : UInt8)).length : Int))).length)))).length : Int))).length) ++ (((List.replicate (8192 : Int).toNat (0 : UInt8)).take (4 : Int).toNat ++ (r1).take (min r1.length (subl (List.replicate (8192 : Int).toNat (0 : UInt8)) 4 (((List.replicate (8192 : Int).toNat (0 : UInt8)).length : Int))).length) ++ (List.replicate (8192 : Int).toNat (0 : UInt8)).drop ((4 : Int).toNat + (min r1.length (subl (List.replicate (8192 : Int).toNat (0 : UInt8)) 4 (((List.replicate (8192 : Int).toNat (0 : UInt8)).length : Int))).length)))).drop ((6 : Int).toNat + (min l0.length (subl (((List.replicate (8192 : Int).toNat (0 : UInt8)).take (4 : Int).toNat ++ (r1).take (min r1.length (subl (List.replicate (8192 : Int).toNat (0 : UInt8)) 4 (((List.replicate (8192 : Int).toNat (0 : UInt8)).length : Int))).length) ++ (List.replicate (8192 : Int).toNat (0 : UInt8)).drop ((4 : Int).toNat + (min r1.length (subl (List.replicate (8192 : Int).toNat (0 : UInt8)) 4 (((List.replicate (8192 : Int).toNat (0 : UInt8)).length : Int))).length)))) 6 (((((List.replicate (8192 : Int).toNat (0 : UInt8)).take (4 : Int).toNat ++ (r1).take (min r1.length (subl (List.replicate (8192 : Int).toNat (0 : UInt8)) 4 (((List.replicate (8192 : Int).toNat (0 : UInt8)).length : Int))).length) ++ (List.replicate (8192 : Int).toNat (0 : UInt8)).drop ((4 : Int).toNat + (min r1.length (subl (List.replicate (8192 : Int).toNat (0 : UInt8)) 4 (((List.replicate (8192 : Int).toNat (0 : UInt8)).length : Int))).length)))).length : Int))).length)))).length) ++ (((((List.replicate (8192 : Int).toNat (0 : UInt8)).take (4 : Int).toNat ++ (r1).take (min r1.length (subl (List.replicate (8192 : Int).toNat (0 : UInt8)) 4 (((List.replicate (8192 : Int).toNat (0 : UInt8)).length : Int))).length) ++ (List.replicate (8192 : Int).toNat (0 : UInt8)).drop ((4 : Int).toNat + (min r1.length (subl (List.replicate (8192 : Int).toNat (0 : UInt8)) 4 (((List.replicate (8192 : Int).toNat (0 : UInt8)).length : Int))).length)))).take (6 : Int).toNat ++ (l0).take (min l0.length (subl (((List.replicate (8192 : Int).toNat (0 : UInt8)).take (4 : Int).toNat ++ (r1).take (min r1.length (subl (List.replicate (8192 : Int).toNat (0 : UInt8)) 4 (((List.replicate (8192 : Int).toNat (0 : UInt8)).length : Int))).length) ++ (List.replicate (8192 : Int).toNat (0 : UInt8)).drop ((4 : Int).toNat + (min r1.length (subl (List.replicate (8192 : Int).toNat (0 : UInt8)) 4 (((List.replicate (8192 : Int).toNat (0 : UInt8)).length : Int))).length)))) 6 (((((List.replicate (8192 : Int).toNat (0 : UInt8)).take (4 : Int).toNat ++ (r1).take (min r1.length (subl (List.replicate (8192 : Int).toNat (0 : UInt8)) 4 (((List.replicate (8192 : Int).toNat (0 : UInt8)).length : Int))).length) ++ (List.replicate (8192 : Int).toNat (0 : UInt8)).drop ((4 : Int).toNat + (min r1.length (subl (List.replicate (8192 : Int).toNat (0 : UInt8)) 4 (((List.replicate (8192 : Int).toNat (0 : UInt8)).length : Int))).length)))).length : Int))).length) ++ (((List.replicate (8192 : Int).toNat (0 : UInt8)).take (4 : Int).toNat ++ (r1).take (min r1.length (subl (List.replicate (8192 : Int).toNat (0 : UInt8)) 4 (((List.replicate (8192 : Int).toNat (0 : UInt8)).length : Int))).length) ++ (List.replicate (8192 : Int).toNat (0 : UInt8)).drop ((4 : Int).toNat + (min r1.length (subl (List.replicate (8192 : Int).toNat (0 : UInt8)) 4 (((List.replicate (8192 : Int).toNat (0 : UInt8)).length : Int))).length)))).drop ((6 : Int).toNat + (min l0.length (subl (((List.replicate (8192 : Int).toNat (0 : UInt8)).take (4 : Int).toNat ++ (r1).take (min r1.length (subl (List.replicate (8192 : Int).toNat (0 : UInt8)) 4 (((List.replicate (8192 : Int).toNat (0 : UInt8)).length : Int))).length) ++ (List.replicate (8192 : Int).toNat (0 : UInt8)).drop ((4 : Int).toNat + (min r1.length (subl (List.replicate (8192 : Int).toNat (0 : UInt8)) 4 (((List.replicate (8192 : Int).toNat (0 : UInt8)).length : Int))).length)))) 6 (((((List.replicate (8192 : Int).toNat (0 : UInt8)).take (4 : Int).toNat ++ (r1).take (min r1.length (subl (List.replicate (8192 : Int).toNat (0 : UInt8)) 4 (((List.replicate (8192 : Int).toNat (0 : UInt8)).length : Int))).length) ++ (List.replicate (8192 : Int).toNat (0 : UInt8)).drop ((4 : Int).toNat + (min r1.length (subl (List.replicate (8192 : Int).toNat (0 : UInt8)) 4 (((List.replicate (8192 : Int).toNat (0 : UInt8)).length : Int))).length)))).length : Int))).length)))).drop (min r3.length (((((List.replicate (8192 : Int).toNat (0 : UInt8)).take (4 : Int).toNat ++ (r1).take (min r1.length (subl (List.replicate (8192 : Int).toNat (0 : UInt8)) 4 (((List.replicate (8192 : Int).toNat (0 : UInt8)).length : Int))).length) ++ (List.replicate (8192 : Int).toNat (0 : UInt8)).drop ((4 : Int).toNat + (min r1.length (subl (List.replicate (8192 : Int).toNat (0 : UInt8)) 4 (((List.replicate (8192 : Int).toNat (0 : UInt8)).length : Int))).length)))).take (6 : Int).toNat ++ (l0).take (min l0.length (subl (((List.replicate (8192 : Int).toNat (0 : UInt8)).take (4 : Int).toNat ++ (r1).take (min r1.length (subl (List.replicate (8192 : Int).toNat (0 : UInt8)) 4 (((List.replicate (8192 : Int).toNat (0 : UInt8)).length : Int))).length) ++ (List.replicate (8192 : Int).toNat (0 : UInt8)).drop ((4 : Int).toNat + (min r1.length (subl (List.replicate (8192 : Int).toNat (0 : UInt8)) 4 (((List.replicate (8192 : Int).toNat (0 : UInt8)).length : Int))).length)))) 6 (((((List.replicate (8192 : Int).toNat (0 : UInt8)).take (4 : Int).toNat ++ (r1).take (min r1.length (subl (List.replicate (8192 : Int).toNat (0 : UInt8)) 4 (((List.replicate (8192 : Int).toNat (0 : UInt8)).length : Int))).length) ++ (List.replicate (8192 : Int).toNat (0 : UInt8)).drop ((4 : Int).toNat + (min r1.length (subl (List.replicate (8192 : Int).toNat (0 : UInt8)) 4 (((List.replicate (8192 : Int).toNat (0 : UInt8)).length : Int))).length)))).length : Int))).length) ++ (((List.replicate (8192 : Int).toNat (0 : UInt8)).take (4 : Int).toNat ++ (r1).take (min r1.length (subl (List.replicate (8192 : Int).toNat (0 : UInt8)) 4 (((List.replicate (8192 : Int).toNat (0 : UInt8)).length : Int))).length) ++ (List.replicate (8192 : Int).toNat (0 : UInt8)).drop ((4 : Int).toNat + (min r1.length (subl (List.replicate (8192 : Int).toNat (0 : UInt8)) 4 (((List.replicate (8192 : Int).toNat (0 : UInt8)).length : Int))).length)))).drop ((6 : Int).toNat + (min l0.length (subl (((List.replicate (8192 : Int).toNat (0 : UInt8)).take (4 : Int).toNat ++ (r1).take (min r1.length (subl (List.replicate (8192 : Int).toNat (0 : UInt8)) 4 (((List.replicate (8192 : Int).toNat (0 : UInt8)).length : Int))).length) ++ (List.replicate (8192 : Int).toNat (0 : UInt8)).drop ((4 : Int).toNat + (min r1.length (subl (List.replicate (8192 : Int).toNat (0 : UInt8)) 4 (((List.replicate (8192 : Int).toNat (0 : UInt8)).length : Int))).length)))) 6 (((((List.replicate (8192 : Int).toNat (0 : UInt8)).take (4 : Int).toNat ++ (r1).take (min r1.length (subl (List.replicate (8192 : Int).toNat (0 : UInt8)) 4 (((List.replicate (8192 : Int).toNat (0 : UInt8)).length : Int))).length) ++ (List.replicate (8192 : Int).toNat (0 : UInt8)).drop ((4 : Int).toNat + (min r1.length (subl (List.replicate (8192 : Int).toNat (0 : UInt8)) 4 (((List.replicate (8192 : Int).toNat (0 : UInt8)).length : Int))).length)))).length : Int))).length)))).length))).length) (by simp only [List.length_append, List.length_take, List.length_drop, List.length_replicate]; (try unfold subl); (try simp only [List.length_drop, List.length_take, List.length_replicate]); omega)) ?_
 refine T.env1 17 rfl (slc (n' := (((r3).take (min r3.length (((((List.replicate (8192 : Int).toNat (0 : UInt8)).take (4 : Int).toNat ++ (r1).take (min r1.length (subl (List.replicate (8192 : Int).toNat (0 : UInt8)) 4 (((List.replicate (8192 : Int).toNat (0 : UInt8)).length : Int))).length) ++ (List.replicate (8192 : Int).toNat (0 : UInt8)).drop ((4 : Int).toNat + (min r1.length (subl (List.replicate (8192 : Int).toNat (0 : UInt8)) 4 (((List.replicate (8192 : Int).toNat (0 : UInt8)).length : Int))).length)))).take (6 : Int).toNat ++ (l0).take (min l0.length (subl (((List.replicate (8192 : Int).toNat (0 : UInt8)).take (4 : Int).toNat ++ (r1).take (min r1.length (subl (List.replicate (8192 : Int).toNat (0 : UInt8)) 4 (((List.replicate (8192 : Int).toNat (0 : UInt8)).length : Int))).length) ++ (List.replicate (8192 : Int).toNat (0 : UInt8)).drop ((4 : Int).toNat + (min r1.length (subl (List.replicate (8192 : Int).toNat (0 : UInt8)) 4 (((List.replicate (8192 : Int).toNat (0 : UInt8)).length : Int))).length)))) 6 (((((List.replicate (8192 : Int).toNat (0 : UInt8)).take (4 : Int).toNat ++ (r1).take (min r1.length (subl (List.replicate (8192 : Int).toNat (0 : UInt8)) 4 (((List.replicate (8192 : Int).toNat (0 : UInt8)).length : Int))).length) ++ (List.replicate (8192 : Int).toNat (0 : UInt8)).drop ((4 : Int).toNat + (min r1.length (subl (List.replicate (8192 : Int).toNat (0 : UInt8)) 4 (((List.replicate (8192 : Int).toNat (0 : UInt8)).length : Int))).length)))).length : Int))).length) ++ (((List.replicate (8192 : Int).toNat (0 : UInt8)).take (4 : Int).toNat ++ (r1).take (min r1.length (subl (List.replicate (8192 : Int).toNat (0 : UInt8)) 4 (((List.replicate (8192 : Int).toNat (0 : UInt8)).length : Int))).length) ++ (List.replicate (8192 : Int).toNat (0 : UInt8)).drop ((4 : Int).toNat + (min r1.length (subl (List.replicate (8192 : Int).toNat (0 : UInt8)) 4 (((List.replicate (8192 : Int).toNat (0 : UInt8)).length : Int))).length)))).drop ((6 : Int).toNat + (min l0.length (subl (((List.replicate (8192 : Int).toNat (0 : UInt8)).take (4 : Int).toNat ++ (r1).take (min r1.length (subl (List.replicate (8192 : Int).toNat (0 : UInt8)) 4 (((List.replicate (8192 : Int).toNat (0 : UInt8)).length : Int))).length) ++ (List.replicate (8192 : Int).toNat (0 : UInt8)).drop ((4 : Int).toNat + (min r1.length (subl (List.replicate (8192 : Int).toNat (0 : UInt8)) 4 (((List.replicate (8192 : Int).toNat (0 : UInt8)).length : Int))).length)))) 6 (((((List.replicate (8192 : Int).toNat (0 : UInt8)).take (4 : Int).toNat ++ (r1).take (min r1.length (subl (List.replicate (8192 : Int).toNat (0 : UInt8)) 4 (((List.replicate (8192 : Int).toNat (0 : UInt8)).length : Int))).length) ++ (List.replicate (8192 : Int).toNat (0 : UInt8)).drop ((4 : Int).toNat + (min r1.length (subl (List.replicate (8192 : Int).toNat (0 : UInt8)) 4 (((List.replicate (8192 : Int).toNat (0 : UInt8)).length : Int))).length)))).length : Int))).length)))).length) ++ (((((List.replicate (8192 : Int).toNat (0 : UInt8)).take (4 : Int).toNat ++ (r1).take (min r1.length (subl (List.replicate (8192 : Int).toNat (0 : UInt8)) 4 (((List.replicate (8192 : Int).toNat (0 : UInt8)).length : Int))).length) ++ (List.replicate (8192 : Int).toNat (0 : UInt8)).drop ((4 : Int).toNat + (min r1.length (subl (List.replicate (8192 : Int).toNat (0 : UInt8)) 4 (((List.replicate (8192 : Int).toNat (0 : UInt8)).length : Int))).length)))).take (6 : Int).toNat ++ (l0).take (min l0.length (subl (((List.replicate (8192 : Int).toNat (0 : UInt8)).take (4 : Int).toNat ++ (r1).take (min r1.length (subl (List.replicate (8192 : Int).toNat (0 : UInt8)) 4 (((List.replicate (8192 : Int).toNat (0 : UInt8)).length : Int))).length) ++ (List.replicate (8192 : Int).toNat (0 : UInt8)).drop ((4 : Int).toNat + (min r1.length (subl (List.replicate (8192 : Int).toNat (0 : UInt8)) 4 (((List.replicate (8192 : Int).toNat (0 : UInt8)).length : Int))).length)))) 6 (((((List.replicate (8192 : Int).toNat (0 : UInt8)).take (4 : Int).toNat ++ (r1).take (min r1.length (subl (List.replicate (8192 : Int).toNat (0 : UInt8)) 4 (((List.replicate (8192 : Int).toNat (0 : UInt8)).length : Int))).length) ++ (List.replicate (8192 : Int).toNat (0 : UInt8)).drop ((4 : Int).toNat + (min r1.length (subl (List.replicate (8192 : Int).toNat (0 : UInt8)) 4 (((List.replicate (8192 : Int).toNat (0 : UInt8)).length : Int))).length)))).length : Int))).length) ++ (((List.replicate (8192 : Int).toNat (0 : UInt8)).take (4 : Int).toNat ++ (r1).take (min r1.length (subl (List.replicate (8192 : Int).toNat (0 : UInt8)) 4 (((List.replicate (8192 : Int).toNat (0 : UInt8)).length : Int))).length) ++ (List.replicate (8192 : Int).toNat (0 : UInt8)).drop ((4 : Int).toNat + (min r1.length (subl (List.replicate (8192 : Int).toNat (0 : UInt8)) 4 (((List.replicate (8192 : Int).toNat (0 : UInt8)).length : Int))).length)))).drop ((6 : Int).toNat + (min l0.length (subl (((List.replicate (8192 : Int).toNat (0 : UInt8)).take (4 : Int).toNat ++ (r1).take (min r1.length (subl (List.replicate (8192 : Int).toNat (0 : UInt8)) 4 (((List.replicate (8192 : Int).toNat (0 : UInt8)).length : Int))).length) ++ (List.replicate (8192 : Int).toNat (0 : UInt8)).drop ((4 : Int).toNat + (min r1.length (subl (List.replicate (8192 : Int).toNat (0 : UInt8)) 4 (((List.replicate (8192 : Int).toNat (0 : UInt8)).length : Int))).length)))) 6 (((((List.replicate (8192 : Int).toNat (0 : UInt8)).take (4 : Int).toNat ++ (r1).take (min r1.length (subl (List.replicate (8192 : Int).toNat (0 : UInt8)) 4 (((List.replicate (8192 : Int).toNat (0 : UInt8)).length : Int))).length) ++ (List.replicate (8192 : Int).toNat (0 : UInt8)).drop ((4 : Int).toNat + (min r1.length (subl (List.replicate (8192 : Int).toNat (0 : UInt8)) 4 (((List.replicate (8192 : Int).toNat (0 : UInt8)).length : Int))).length)))).length : Int))).length)))).drop (min r3.length (((((List.replicate (8192 : Int).toNat (0 : UInt8)).take (4 : Int).toNat ++ (r1).take (min r1.length (subl (List.replicate (8192 : Int).toNat (0 : UInt8)) 4 (((List.replicate (8192 : Int).toNat (0 : UInt8)).length : Int))).length) ++ (List.replicate (8192 : Int).toNat (0 : UInt8)).drop ((4 : Int).toNat + (min r1.length (subl (List.replicate (8192 : Int).toNat (0 : UInt8)) 4 (((List.replicate (8192 : Int).toNat (0 : UInt8)).length : Int))).length)))).take (6 : Int).toNat ++ (l0).take (min l0.length (subl (((List.replicate (8192 : Int).toNat (0 : UInt8)).take (4 : Int).toNat ++ (r1).take (min r1.length (subl (List.replicate (8192 : Int).toNat (0 : UInt8)) 4 (((List.replicate (8192 : Int).toNat (0 : UInt8)).length : Int))).length) ++ (List.replicate (8192 : Int).toNat (0 : UInt8)).drop ((4 : Int).toNat + (min r1.length (subl (List.replicate (8192 : Int).toNat (0 : UInt8)) 4 (((List.replicate (8192 : Int).toNat (0 : UInt8)).length : Int))).length)))) 6 (((((List.replicate (8192 : Int).toNat (0 : UInt8)).take (4 : Int).toNat ++ (r1).take (min r1.length (subl (List.replicate (8192 : Int).toNat (0 : UInt8)) 4 (((List.replicate (8192 : Int).toNat (0 : UInt8)).length : Int))).length) ++ (List.replicate (8192 : Int).toNat (0 : UInt8)).drop ((4 : Int).toNat + (min r1.length (subl (List.replicate (8192 : Int).toNat (0 : UInt8)) 4 (((List.replicate (8192 : Int).toNat (0 : UInt8)).length : Int))).length)))).length : Int))).length) ++ (((List.replicate (8192 : Int).toNat (0 : UInt8)).take (4 : Int).toNat ++ (r1).take (min r1.length (subl (List.replicate (8192 : Int).toNat (0 : UInt8)) 4 (((List.replicate (8192 : Int).toNat (0 : UInt8)).length : Int))).length) ++ (List.replicate (8192 : Int).toNat (0 : UInt8)).drop ((4 : Int).toNat + (min r1.length (subl (List.replicate (8192 : Int).toNat (0 : UInt8)) 4 (((List.replicate (8192 : Int).toNat (0 : UInt8)).length : Int))).length)))).drop ((6 : Int).toNat + (min l0.length (subl (((List.replicate (8192 : Int).toNat (0 : UInt8)).take (4 : Int).toNat ++ (r1).take (min r1.length (subl (List.replicate (8192 : Int).toNat (0 : UInt8)) 4 (((List.replicate (8192 : Int).toNat (0 : UInt8)).length : Int))).length) ++ (List.replicate (8192 : Int).toNat (0 : UInt8)).drop ((4 : Int).toNat + (min r1.length (subl (List.replicate (8192 : Int).toNat (0 : UInt8)) 4 (((List.replicate (8192 : Int).toNat (0 : UInt8)).length : Int))).length)))) 6 (((((List.replicate (8192 : Int).toNat (0 : UInt8)).take (4 : Int).toNat ++ (r1).take (min r1.length (subl (List.replicate (8192 : Int).toNat (0 : UInt8)) 4 (((List.replicate (8192 : Int).toNat (0 : UInt8)).length : Int))).length) ++ (List.replicate (8192 : Int).toNat (0 : UInt8)).drop ((4 : Int).toNat + (min r1.length (subl (List.replicate (8192 : Int).toNat (0 : UInt8)) 4 (((List.replicate (8192 : Int).toNat (0 : UInt8)).length : Int))).length)))).length : Int))).length)))).length))).length) (by simp only [List.length_append, List.length_take, List.length_drop, List.length_replicate]; (try unfold subl); (try simp only [List.length_drop, List.length_take, List.length_replicate]); omega)) ?_
 refine T.nil ?_
 refine T.then_normal ?_
 refine T.seq ?_
 refine T.region ?_
 refine T.move .list rfl (wants0 rfl) rfl rfl ?_
 refine T.assign .list rfl (wants0 rfl) rfl rfl ?_
 refine T.nil ?_
 refine T.then_normal ?_
 refine T.ret ?_
 obtain rfl := inv_some hr
 refine T.pick [2] 4 rfl rfl (Nat.le_add_left _ _) rfl ?_
 refine T.ret1 rfl rfl (fun w hS => ⟨(some ⟨b1, 0, none⟩, (8192 : Int).toNat), rfl, hS⟩)
end Go.Proofs.Ytccifnjlfhdpiaa
