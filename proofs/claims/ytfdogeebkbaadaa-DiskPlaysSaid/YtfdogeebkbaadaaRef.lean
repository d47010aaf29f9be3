/- Ref: what the functions compute, and that the program computes it; printed by a program of ours. -/
import Derived.Test.YtfdogeebkbaadaaDiskT
set_option linter.unusedVariables false
set_option linter.unusedSimpArgs false
namespace Go.Proofs.Ytfdogeebkbaadaa
open Go.RowKit
noncomputable def ref3_New.impl (a0 : Int) : Option (((Bool × Int × Int × Int × Int × Int) × List (List UInt8) × (List (Int × (List UInt8))))) :=
  chk (0 ≤ a0 ∧ a0 * 24 ≤ 140737488355328) (some ((false, 0, 0, 0, 0, 0), List.replicate (a0 : Int).toNat ([] : List UInt8), ([] : List (Int × List UInt8))))
set_option maxRecDepth 100000 in
set_option maxHeartbeats 4000000 in
theorem ref3_New.c {B : World} {hs : List MP} {w : World} {a0 : Int} (hS : St B (hs) w) {r : ((Bool × Int × Int × Int × Int × Int) × List (List UInt8) × (List (Int × (List UInt8))))} (hr : ref3_New.impl a0 = some r) :
    Calls Try.prog 24 #[.int .i64 a0] w fun e w' => ∃ x : (Nat) × (Option Addr × Nat) × (Option Addr × Nat) × (Ads), e = .returned (.pointer (some ⟨x.1, 0, none⟩)) ∧ St B (Cl x.1 61 [.slice x.2.1.1 r.2.1.length x.2.1.2, .slice x.2.2.1.1 r.2.2.length x.2.2.1.2, .bool r.1.1, .int .i64 r.1.2.1, .int .u64 r.1.2.2.1, .int .i64 r.1.2.2.2.1, .int .i64 r.1.2.2.2.2.1, .int .i64 r.1.2.2.2.2.2] :: Bf (Elt.slice E8) 33 x.2.1.1 x.2.1.2 r.2.1 :: Hb 77 x.2.2.1.1 x.2.2.1.2 (x.2.2.2) r.2.2 :: Bb 5 (x.2.2.2) r.2.2 :: hs) w' := by
 unfold ref3_New.impl at hr
 refine calls_T Try.func24 rfl rfl rfl hS ?_
 refine T.seq ?_
 refine T.region ?_
 refine T.assign .list rfl (wants0 rfl) rfl rfl ?_
 refine T.nil ?_
 refine T.then_normal ?_
 refine T.seq ?_
 refine T.region ?_
 refine T.move .list rfl (wants0 rfl) rfl rfl ?_
 obtain ⟨hc1, hr⟩ := inv_chk hr
 refine T.makeE .list (Elt.slice E8) (z0 := []) rfl (fun _ => ⟨none, 0, rfl, Nat.le_refl _, .inl rfl⟩) rfl (wants0 rfl) rfl rfl rfl rfl hc1 (fun b1 => ?_)
 refine T.build .list (vals := [(0, .slice (some ⟨b1, 0, none⟩) ((List.replicate (a0 : Int).toNat ([] : List UInt8)).length) ((a0 : Int).toNat))]) (cells := #[.slice (some ⟨b1, 0, none⟩) ((List.replicate (a0 : Int).toNat ([] : List UInt8)).length) ((a0 : Int).toNat), .slice none 0 0, .bool false, .int .i64 0, .int .u64 0, .int .i64 0, .int .i64 0, .int .i64 0]) rfl (wants0 rfl) rfl rfl (run_buildStruct (sizes := [1, 1, 1, 4, 1]) (by kernel_rfl) (by kernel_rfl)) ?_
 refine T.boxS .list rfl (wants0 rfl) rfl rfl (cs := [.slice (some ⟨b1, 0, none⟩) ((List.replicate (a0 : Int).toNat ([] : List UInt8)).length) ((a0 : Int).toNat), .slice none 0 0, .bool false, .int .i64 0, .int .u64 0, .int .i64 0, .int .i64 0, .int .i64 0]) rfl (fun b2 => ?_)
 refine T.assign .list rfl (wants0 rfl) rfl rfl ?_
 refine T.nil ?_
 refine T.then_normal ?_
 refine T.ret ?_
 obtain rfl := inv_some hr
 refine T.nilHb 77 5 ?_
 refine T.pick [2, 3, 0, 1] 4 rfl rfl (Nat.le_add_left _ _) rfl ?_
 refine T.ret1 rfl rfl (fun w hS => ⟨(b2, (some ⟨b1, 0, none⟩, (a0 : Int).toNat), (none, 0), noAds), rfl, hS⟩)

noncomputable def ref3_full.k1 (s1 : List UInt8) : Option (List UInt8) :=
  some s1
noncomputable def ref3_full.st1 (l0 : List UInt8) (s2 : List UInt8 × Int) : Option ((List UInt8 × Int) ⊕ (List UInt8)) :=
  (if ((decide (s2.2 < ((l0.length : Int))))) = true then chk (0 ≤ s2.2 ∧ s2.2 < (l0.length : Int)) (chk (0 ≤ s2.2 ∧ s2.2 < (s2.1.length : Int)) (some (.inl (((s2.1).set (s2.2 : Int).toNat ((l0).getD (s2.2 : Int).toNat default)), IntKind.i64.wrap (s2.2 + 1))))) else some (.inr s2.1))
noncomputable def ref3_full.impl (l0 : List UInt8) : Option (List UInt8) :=
  chk (0 ≤ (8192 : Int) ∧ (8192 : Int) * 1 ≤ 140737488355328) ((loop (ref3_full.st1 l0) (List.replicate (8192 : Int).toNat (0 : UInt8), 0)).bind (fun e1 => ref3_full.k1 e1))
set_option maxRecDepth 100000 in
set_option maxHeartbeats 4000000 in
theorem ref3_full.c {B : World} {hs : List MP} {w : World} {i0 c0 : Nat} {A0 : Option Addr} {l0 : List UInt8} (hS : St B (hs) w) (h0 : (hs)[i0]? = some (Ro E8 A0 c0 l0)) {r : List UInt8} (hr : ref3_full.impl l0 = some r) :
    Calls Try.prog 38 #[.slice A0 l0.length c0] w fun e w' => ∃ x : (Option Addr × Nat), e = .returned (.slice x.1 r.length x.2) ∧ St B (Bf E8 5 x.1 x.2 r :: hs) w' := by
 unfold ref3_full.impl at hr
 refine calls_T Try.func38 rfl rfl rfl hS ?_
 refine T.front i0 h0 ?_
 refine T.seq ?_
 refine T.region ?_
 refine T.assign .list rfl (wants0 rfl) rfl rfl ?_
 refine T.nil ?_
 refine T.then_normal ?_
 refine T.seq ?_
 refine T.region ?_
 obtain ⟨hc1, hr⟩ := inv_chk hr
 refine T.make .list (enc := b8) (h1' := fun _ => rfl) (z0 := (0 : UInt8)) (by rfl) rfl (wants0 rfl) rfl rfl rfl rfl hc1 (fun b1 => ?_)
 refine T.assign .list rfl (wants0 rfl) rfl rfl ?_
 refine T.nil ?_
 refine T.then_normal ?_
 refine T.seqJ (fun (s1 : List UInt8) (x1 : (Option Addr × Nat)) => [(3, .slice x1.1 s1.length x1.2)]) (fun s1 x1 => Bf E8 5 x1.1 x1.2 s1 :: hs) (fun s1 => ref3_full.k1 s1 = some r) (fun s1 x1 hk1 => ?_) (fun J1 => ?_)
 ·unfold ref3_full.k1 at hk1
  refine T.seq ?_
  refine T.region ?_
  refine T.move .list rfl (wants0 rfl) rfl rfl ?_
  refine T.assign .list rfl (wants0 rfl) rfl rfl ?_
  refine T.nil ?_
  refine T.then_normal ?_
  refine T.ret ?_
  obtain rfl := inv_some hk1
  refine T.pick [0] 1 rfl rfl (Nat.le_add_left _ _) rfl ?_
  refine T.ret1 rfl rfl (fun w hS => ⟨(x1.1, x1.2), rfl, hS⟩)
 ·refine T.seq ?_
  refine T.region ?_
  refine T.assign .list rfl (wants0 rfl) rfl rfl ?_
  refine T.nil ?_
  refine T.then_normal ?_
  refine T.block ?_
  obtain ⟨e1, hl1, hr⟩ := inv_bind hr
  refine T.le (EnvLe.cons rfl (EnvLe.cons rfl (EnvLe.cons rfl EnvLe.nil))) (T.pick [1, 0] 2 rfl rfl (Nat.le_add_left _ _) rfl (T.loop (s0 := (List.replicate (8192 : Int).toNat (0 : UInt8), 0)) (env := fun s2 x2 => [(0, .slice A0 l0.length c0), (3, .slice x2.1 s2.1.length x2.2), (4, .int .i64 s2.2)]) (hs := fun (s2 : List UInt8 × Int) (x2 : (Option Addr × Nat)) => Ro E8 A0 c0 l0 :: Bf E8 5 x2.1 x2.2 s2.1 :: hs) hl1 (some ⟨b1, 0, none⟩, (8192 : Int).toNat) (fun K1 s2 x2 o1 he1 hm1 hx1 => ?_)))
  unfold ref3_full.st1 at he1
  refine T.seq ?_
  refine T.seq ?_
  refine T.region ?_
  refine T.move .list rfl (wants0 rfl) rfl rfl ?_
  refine T.move .list rfl (wants0 rfl) rfl rfl ?_
  refine T.lenSlice .list rfl (wants0 rfl) rfl rfl ?_
  refine T.bin .list rfl (wants0 rfl) rfl rfl rfl rfl ?_
  refine T.nil ?_
  refine T.then_normal ?_
  refine T.cond rfl (fun hb1 => ?_) (fun hb1 => ?_)
  ·replace he1 := inv_posB hb1 he1
   refine T.skip ?_
   refine T.then_normal ?_
   refine T.seq ?_
   refine T.block ?_
   refine T.region ?_
   refine T.move .list rfl (wants0 rfl) rfl rfl ?_
   refine T.move .list rfl (wants0 rfl) rfl rfl ?_
   refine T.move .list rfl (wants0 rfl) rfl rfl ?_
   refine T.move .list rfl (wants0 rfl) rfl rfl ?_
   obtain ⟨hc2, he1⟩ := inv_chk he1
   refine T.idxRo .list 0 rfl rfl (wants0 rfl) rfl rfl rfl hc2.1 hc2.2 (Nat.le_refl _) ?_
   refine T.ldRo1 .list 0 rfl rfl (wants0 rfl) rfl rfl hc2.1 hc2.2 ?_
   obtain ⟨hc3, he1⟩ := inv_chk he1
   refine T.idxBf .list 1 rfl rfl (wants0 rfl) rfl rfl rfl hc3.1 hc3.2 (Nat.le_refl _) ?_
   refine T.stBf .list 1 rfl rfl (wants0 rfl) rfl rfl rfl rfl hc3.1 hc3.2 rfl ?_
   refine T.nil ?_
   refine T.in_normal ?_
   refine T.then_normal ?_
   refine T.region ?_
   refine T.move .list rfl (wants0 rfl) rfl rfl ?_
   refine T.bin .list rfl (wants0 rfl) rfl rfl rfl rfl ?_
   refine T.assign .list rfl (wants0 rfl) rfl rfl ?_
   refine T.nil ?_
   refine T.then_normal ?_
   obtain rfl := inv_some he1
   refine T.env1 3 rfl (slc (n' := (((s2.1).set (s2.2 : Int).toNat ((l0).getD (s2.2 : Int).toNat default))).length) (by simp only [List.length_set])) ?_
   exact T.le (EnvLe.cons rfl (EnvLe.cons rfl (EnvLe.cons rfl EnvLe.nil))) (T.pick [0, 1] 2 rfl rfl (Nat.le_add_left _ _) rfl (hm1 (((s2.1).set (s2.2 : Int).toNat ((l0).getD (s2.2 : Int).toNat default)), IntKind.i64.wrap (s2.2 + 1)) rfl (x2.1, x2.2)))
  ·replace he1 := inv_negB hb1 he1
   refine T.exit ?_
   refine T.then_exit ?_
   refine T.then_exit ?_
   obtain rfl := inv_some he1
   obtain rfl := hx1 _ rfl
   refine T.in_hit ?_
   refine T.then_normal ?_
   exact T.le (EnvLe.cons rfl EnvLe.nil) (T.pick [1] 2 rfl rfl (Nat.le_add_left _ _) rfl (J1 s2.1 (x2.1, x2.2) hr))

noncomputable def ref3_Disk_lose.k1 (o0 : Bool × Int × Int × Int × Int × Int) (s1 : List (List UInt8)) : Option ((Bool × Int × Int × Int × Int × Int) × List (List UInt8) × (List (Int × List UInt8))) :=
  some ((true, 0, 0, 0, 0, IntKind.i64.wrap (o0.2.2.2.2.2 + 1)), s1, ([] : List (Int × List UInt8)))
noncomputable def ref3_Disk_lose.k2 (s2 : List (List UInt8) × Int) (s3 : List (List UInt8)) : Option ((List (List UInt8) × Int) ⊕ (List (List UInt8))) :=
  some (.inl (s3, IntKind.i64.wrap (s2.2 + 1)))
noncomputable def ref3_Disk_lose.k3 (q0b : List (Int × List UInt8)) (s2 : List (List UInt8) × Int) (s4 : List UInt8) : Option ((List (List UInt8) × Int) ⊕ (List (List UInt8))) :=
  chk (0 ≤ (((((q0b).getD (s2.2 : Int).toNat default)).1)) ∧ (((((q0b).getD (s2.2 : Int).toNat default)).1)) < (s2.1.length : Int)) (ref3_Disk_lose.k2 s2 ((s2.1).set (((((q0b).getD (s2.2 : Int).toNat default)).1) : Int).toNat s4))
noncomputable def ref3_Disk_lose.st2 (a1 : Int × Int × Int × Int) (q0b : List (Int × List UInt8)) (s2 : List (List UInt8) × Int) (s5 : List UInt8 × Int) : Option ((List UInt8 × Int) ⊕ (List UInt8)) :=
  (if ((decide (s5.2 < (min (max a1.2.2.2 0) 8192)))) = true then chk (0 ≤ s5.2 ∧ s5.2 < ((((((q0b).getD (s2.2 : Int).toNat default)).2)).length : Int)) (chk (0 ≤ s5.2 ∧ s5.2 < (s5.1.length : Int)) (some (.inl (((s5.1).set (s5.2 : Int).toNat ((((((q0b).getD (s2.2 : Int).toNat default)).2)).getD (s5.2 : Int).toNat default)), IntKind.i64.wrap (s5.2 + 1))))) else some (.inr s5.1))
noncomputable def ref3_Disk_lose.st1 (q0b : List (Int × List UInt8)) (a1 : Int × Int × Int × Int) (s2 : List (List UInt8) × Int) : Option ((List (List UInt8) × Int) ⊕ (List (List UInt8))) :=
  (if ((decide (s2.2 < ((q0b.length : Int))))) = true then chk (0 ≤ s2.2 ∧ s2.2 < (q0b.length : Int)) ((if ((decide (s2.2 = a1.2.2.1))) = true then chk (0 ≤ (((((q0b).getD (s2.2 : Int).toNat default)).1)) ∧ (((((q0b).getD (s2.2 : Int).toNat default)).1)) < (s2.1.length : Int)) ((ref3_full.impl ((((s2.1).getD (((((q0b).getD (s2.2 : Int).toNat default)).1) : Int).toNat default)))).bind fun r1 => (loop (ref3_Disk_lose.st2 a1 q0b s2) (r1, 0)).bind (fun e2 => ref3_Disk_lose.k3 q0b s2 e2)) else (if ((decide (((bitsOf .and .u64 (shrI .u64 a1.2.1 (IntKind.u64.wrap (Int.tmod s2.2 64))) 1)) = 1))) = true then chk (0 ≤ (((((q0b).getD (s2.2 : Int).toNat default)).1)) ∧ (((((q0b).getD (s2.2 : Int).toNat default)).1)) < (s2.1.length : Int)) (ref3_Disk_lose.k2 s2 ((s2.1).set (((((q0b).getD (s2.2 : Int).toNat default)).1) : Int).toNat ((((q0b).getD (s2.2 : Int).toNat default)).2))) else ref3_Disk_lose.k2 s2 s2.1))) else some (.inr s2.1))
noncomputable def ref3_Disk_lose.impl (o0 : Bool × Int × Int × Int × Int × Int) (q0a : List (List UInt8)) (q0b : List (Int × List UInt8)) (a1 : Int × Int × Int × Int) : Option ((Bool × Int × Int × Int × Int × Int) × List (List UInt8) × (List (Int × List UInt8))) :=
  (loop (ref3_Disk_lose.st1 q0b a1) (q0a, 0)).bind (fun e1 => ref3_Disk_lose.k1 o0 e1)
set_option maxRecDepth 100000 in
set_option maxHeartbeats 4000000 in
theorem ref3_Disk_lose.c {B : World} {hs : List MP} {w : World} {p0 : Nat} {o0 : Bool × Int × Int × Int × Int × Int} {c0a : Nat} {A0a : Option Addr} {q0a : List (List UInt8)} {c0b : Nat} {A0b : Option Addr} {d0b : Ads} {q0b : List (Int × List UInt8)} {a1 : Int × Int × Int × Int} (hS : St B (Cl p0 61 [.slice A0a q0a.length c0a, .slice A0b q0b.length c0b, .bool o0.1, .int .i64 o0.2.1, .int .u64 o0.2.2.1, .int .i64 o0.2.2.2.1, .int .i64 o0.2.2.2.2.1, .int .i64 o0.2.2.2.2.2] :: Bf (Elt.slice E8) 33 A0a c0a q0a :: Hb 77 A0b c0b d0b q0b :: Bb 5 d0b q0b :: hs) w) {r : (Bool × Int × Int × Int × Int × Int) × List (List UInt8) × (List (Int × List UInt8))} (hr : ref3_Disk_lose.impl o0 q0a q0b a1 = some r) :
    Calls Try.prog 39 #[.pointer (some ⟨p0, 0, none⟩), .agg #[.int .i64 a1.1, .int .u64 a1.2.1, .int .i64 a1.2.2.1, .int .i64 a1.2.2.2]] w fun e w' => ∃ x : (Option Addr × Nat) × (Option Addr × Nat) × (Ads), e = .returned (.tuple #[]) ∧ St B (Cl p0 61 [.slice x.1.1 r.2.1.length x.1.2, .slice x.2.1.1 r.2.2.length x.2.1.2, .bool r.1.1, .int .i64 r.1.2.1, .int .u64 r.1.2.2.1, .int .i64 r.1.2.2.2.1, .int .i64 r.1.2.2.2.2.1, .int .i64 r.1.2.2.2.2.2] :: Bf (Elt.slice E8) 33 x.1.1 x.1.2 r.2.1 :: Hb 77 x.2.1.1 x.2.1.2 x.2.2 r.2.2 :: Bb 5 x.2.2 r.2.2 :: hs) w' := by
 unfold ref3_Disk_lose.impl at hr
 refine calls_T Try.func39 rfl rfl rfl hS ?_
 refine T.seq ?_
 refine T.region ?_
 refine T.boxS .list rfl (wants0 rfl) rfl rfl (cs := [.int .i64 a1.1, .int .u64 a1.2.1, .int .i64 a1.2.2.1, .int .i64 a1.2.2.2]) rfl (fun b1 => ?_)
 refine T.nil ?_
 refine T.then_normal ?_
 refine T.pick [3, 4, 0, 1, 2] 5 rfl rfl (Nat.le_add_left _ _) (hs' := Hb 77 A0b c0b d0b q0b :: Bb 5 d0b q0b :: Cl b1 25 [.int .i64 a1.1, .int .u64 a1.2.1, .int .i64 a1.2.2.1, .int .i64 a1.2.2.2] :: Cl p0 61 [.slice A0a q0a.length c0a, .slice A0b q0b.length c0b, .bool o0.1, .int .i64 o0.2.1, .int .u64 o0.2.2.1, .int .i64 o0.2.2.2.1, .int .i64 o0.2.2.2.2.1, .int .i64 o0.2.2.2.2.2] :: Bf (Elt.slice E8) 33 A0a c0a q0a :: hs) rfl ?_
 refine T.hbFreeze ?_
 refine T.seqJ (fun (s1 : List (List UInt8)) (x1 : (Option Addr × Nat)) => [(0, .pointer (some ⟨p0, 0, none⟩))]) (fun s1 x1 => Cl p0 61 [.slice x1.1 s1.length x1.2, .slice A0b q0b.length c0b, .bool o0.1, .int .i64 o0.2.1, .int .u64 o0.2.2.1, .int .i64 o0.2.2.2.1, .int .i64 o0.2.2.2.2.1, .int .i64 o0.2.2.2.2.2] :: Bf (Elt.slice E8) 33 x1.1 x1.2 s1 :: Bf ((Elt.pair E64 (Elt.slice E8))) 77 A0b c0b q0b :: hs) (fun s1 => ref3_Disk_lose.k1 o0 s1 = some r) (fun s1 x1 hk1 => ?_) (fun J1 => ?_)
 ·unfold ref3_Disk_lose.k1 at hk1
  refine T.seq ?_
  refine T.region ?_
  refine T.move .list rfl (wants0 rfl) rfl rfl ?_
  refine T.nilCheck .list rfl (wants0 rfl) rfl rfl ?_
  refine T.field .list rfl (wants0 rfl) rfl rfl ?_
  refine T.store .list 0 rfl rfl (wants0 rfl) rfl rfl rfl rfl (Nat.le_of_ble_eq_true rfl) rfl (cs' := [.slice x1.1 s1.length x1.2, .slice none 0 0, .bool o0.1, .int .i64 o0.2.1, .int .u64 o0.2.2.1, .int .i64 o0.2.2.2.1, .int .i64 o0.2.2.2.2.1, .int .i64 o0.2.2.2.2.2]) rfl rfl ?_
  refine T.nil ?_
  refine T.then_normal ?_
  refine T.seq ?_
  refine T.region ?_
  refine T.move .list rfl (wants0 rfl) rfl rfl ?_
  refine T.nilCheck .list rfl (wants0 rfl) rfl rfl ?_
  refine T.field .list rfl (wants0 rfl) rfl rfl ?_
  refine T.store .list 0 rfl rfl (wants0 rfl) rfl rfl rfl rfl (Nat.le_of_ble_eq_true rfl) rfl (cs' := [.slice x1.1 s1.length x1.2, .slice none 0 0, .bool true, .int .i64 o0.2.1, .int .u64 o0.2.2.1, .int .i64 o0.2.2.2.1, .int .i64 o0.2.2.2.2.1, .int .i64 o0.2.2.2.2.2]) rfl rfl ?_
  refine T.nil ?_
  refine T.then_normal ?_
  refine T.seq ?_
  refine T.region ?_
  refine T.move .list rfl (wants0 rfl) rfl rfl ?_
  refine T.build .list (vals := []) (cells := #[.int .i64 0, .int .u64 0, .int .i64 0, .int .i64 0]) rfl (wants0 rfl) rfl rfl (run_buildStruct (sizes := [1, 1, 1, 1]) (by kernel_rfl) (by kernel_rfl)) ?_
  refine T.nilCheck .list rfl (wants0 rfl) rfl rfl ?_
  refine T.field .list rfl (wants0 rfl) rfl rfl ?_
  refine T.store .list 0 rfl rfl (wants0 rfl) rfl rfl rfl rfl (Nat.le_of_ble_eq_true rfl) rfl (cs' := [.slice x1.1 s1.length x1.2, .slice none 0 0, .bool true, .int .i64 0, .int .u64 0, .int .i64 0, .int .i64 0, .int .i64 o0.2.2.2.2.2]) rfl rfl ?_
  refine T.nil ?_
  refine T.then_normal ?_
  refine T.region ?_
  refine T.move .list rfl (wants0 rfl) rfl rfl ?_
  refine T.nilCheck .list rfl (wants0 rfl) rfl rfl ?_
  refine T.field .list rfl (wants0 rfl) rfl rfl ?_
  refine T.load .list 0 rfl rfl (wants0 rfl) rfl rfl rfl ?_
  refine T.bin .list rfl (wants0 rfl) rfl rfl rfl rfl ?_
  refine T.nilCheck .list rfl (wants0 rfl) rfl rfl ?_
  refine T.field .list rfl (wants0 rfl) rfl rfl ?_
  refine T.store .list 0 rfl rfl (wants0 rfl) rfl rfl rfl rfl (Nat.le_of_ble_eq_true rfl) rfl (cs' := [.slice x1.1 s1.length x1.2, .slice none 0 0, .bool true, .int .i64 0, .int .u64 0, .int .i64 0, .int .i64 0, .int .i64 (IntKind.i64.wrap (o0.2.2.2.2.2 + 1))]) rfl rfl ?_
  refine T.nil ?_
  obtain rfl := inv_some hk1
  refine T.nilHb 77 5 ?_
  refine T.pick [2, 3, 0, 1] 5 rfl rfl (Nat.le_add_left _ _) rfl ?_
  refine T.end0 rfl (fun w hS => ⟨((x1.1, x1.2), (none, 0), noAds), rfl, hS⟩)
 ·refine T.seq ?_
  refine T.region ?_
  refine T.assign .list rfl (wants0 rfl) rfl rfl ?_
  refine T.nil ?_
  refine T.then_normal ?_
  refine T.block ?_
  obtain ⟨e1, hl1, hr⟩ := inv_bind hr
  refine T.le (EnvLe.cons rfl (EnvLe.cons rfl (EnvLe.cons rfl EnvLe.nil))) (T.pick [2, 3, 0, 1] 4 rfl rfl (Nat.le_add_left _ _) rfl (T.loop (s0 := (q0a, 0)) (env := fun s2 x2 => [(0, .pointer (some ⟨p0, 0, none⟩)), (3, .pointer (some ⟨b1, 0, none⟩)), (4, .int .i64 s2.2)]) (hs := fun (s2 : List (List UInt8) × Int) (x2 : (Option Addr × Nat)) => Cl p0 61 [.slice x2.1 s2.1.length x2.2, .slice A0b q0b.length c0b, .bool o0.1, .int .i64 o0.2.1, .int .u64 o0.2.2.1, .int .i64 o0.2.2.2.1, .int .i64 o0.2.2.2.2.1, .int .i64 o0.2.2.2.2.2] :: Bf (Elt.slice E8) 33 x2.1 x2.2 s2.1 :: Bf ((Elt.pair E64 (Elt.slice E8))) 77 A0b c0b q0b :: Cl b1 25 [.int .i64 a1.1, .int .u64 a1.2.1, .int .i64 a1.2.2.1, .int .i64 a1.2.2.2] :: hs) hl1 (A0a, c0a) (fun K1 s2 x2 o1 he1 hm1 hx1 => ?_)))
  unfold ref3_Disk_lose.st1 at he1
  refine T.seq ?_
  refine T.seq ?_
  refine T.region ?_
  refine T.move .list rfl (wants0 rfl) rfl rfl ?_
  refine T.move .list rfl (wants0 rfl) rfl rfl ?_
  refine T.nilCheck .list rfl (wants0 rfl) rfl rfl ?_
  refine T.field .list rfl (wants0 rfl) rfl rfl ?_
  refine T.load .list 0 rfl rfl (wants0 rfl) rfl rfl rfl ?_
  refine T.lenSlice .list rfl (wants0 rfl) rfl rfl ?_
  refine T.bin .list rfl (wants0 rfl) rfl rfl rfl rfl ?_
  refine T.nil ?_
  refine T.then_normal ?_
  refine T.cond rfl (fun hb1 => ?_) (fun hb1 => ?_)
  ·replace he1 := inv_posB hb1 he1
   refine T.skip ?_
   refine T.then_normal ?_
   refine T.seqJ (fun (s3 : List (List UInt8)) (x3 : (Option Addr × Nat)) => [(0, .pointer (some ⟨p0, 0, none⟩)), (3, .pointer (some ⟨b1, 0, none⟩)), (4, .int .i64 s2.2)]) (fun s3 x3 => Cl p0 61 [.slice x3.1 s3.length x3.2, .slice A0b q0b.length c0b, .bool o0.1, .int .i64 o0.2.1, .int .u64 o0.2.2.1, .int .i64 o0.2.2.2.1, .int .i64 o0.2.2.2.2.1, .int .i64 o0.2.2.2.2.2] :: Bf (Elt.slice E8) 33 x3.1 x3.2 s3 :: Bf ((Elt.pair E64 (Elt.slice E8))) 77 A0b c0b q0b :: Cl b1 25 [.int .i64 a1.1, .int .u64 a1.2.1, .int .i64 a1.2.2.1, .int .i64 a1.2.2.2] :: hs) (fun s3 => ref3_Disk_lose.k2 s2 s3 = some o1) (fun s3 x3 hk2 => ?_) (fun J2 => ?_)
   ·unfold ref3_Disk_lose.k2 at hk2
    refine T.region ?_
    refine T.move .list rfl (wants0 rfl) rfl rfl ?_
    refine T.bin .list rfl (wants0 rfl) rfl rfl rfl rfl ?_
    refine T.assign .list rfl (wants0 rfl) rfl rfl ?_
    refine T.nil ?_
    refine T.then_normal ?_
    obtain rfl := inv_some hk2
    exact T.le (EnvLe.cons rfl (EnvLe.cons rfl (EnvLe.cons rfl EnvLe.nil))) (T.pick [0, 1, 2, 3] 4 rfl rfl (Nat.le_add_left _ _) rfl (hm1 (s3, IntKind.i64.wrap (s2.2 + 1)) rfl (x3.1, x3.2)))
   ·refine T.block ?_
    refine T.seq ?_
    refine T.region ?_
    refine T.move .list rfl (wants0 rfl) rfl rfl ?_
    refine T.nilCheck .list rfl (wants0 rfl) rfl rfl ?_
    refine T.field .list rfl (wants0 rfl) rfl rfl ?_
    refine T.load .list 0 rfl rfl (wants0 rfl) rfl rfl rfl ?_
    refine T.move .list rfl (wants0 rfl) rfl rfl ?_
    obtain ⟨hc1, he1⟩ := inv_chk he1
    refine T.idxBf .list 2 rfl rfl (wants0 rfl) rfl rfl rfl hc1.1 hc1.2 (Nat.le_refl _) ?_
    refine T.ldFBf 2 .list Fd.self (Sh.pair Sh.sc Sh.slice) rfl (.inl rfl) rfl rfl hc1.1 hc1.2 rfl (wants0 rfl) rfl rfl rfl (v := fun x4 => .agg #[.int .i64 (((((q0b).getD (s2.2 : Int).toNat default)).1)), .slice x4.2.1 ((((((q0b).getD (s2.2 : Int).toNat default)).2)).length) x4.2.2]) (hs' := fun x4 => Ro E8 x4.2.1 x4.2.2 (((((q0b).getD (s2.2 : Int).toNat default)).2)) :: Cl p0 61 [.slice x2.1 s2.1.length x2.2, .slice A0b q0b.length c0b, .bool o0.1, .int .i64 o0.2.1, .int .u64 o0.2.2.1, .int .i64 o0.2.2.2.1, .int .i64 o0.2.2.2.2.1, .int .i64 o0.2.2.2.2.2] :: Bf (Elt.slice E8) 33 x2.1 x2.2 s2.1 :: Bf ((Elt.pair E64 (Elt.slice E8))) 77 A0b c0b q0b :: Cl b1 25 [.int .i64 a1.1, .int .u64 a1.2.1, .int .i64 a1.2.2.1, .int .i64 a1.2.2.2] :: hs) (fun _ => rfl) (fun _ => rfl) (fun x4 => ?_)
    refine T.allocS .list rfl (wants0 rfl) rfl (cs := [.int .i64 0, .slice none 0 0]) rfl (fun b2 => ?_)
    refine T.store .list 0 rfl rfl (wants0 rfl) rfl rfl rfl rfl (Nat.le_of_ble_eq_true rfl) rfl (cs' := [.int .i64 (((((q0b).getD (s2.2 : Int).toNat default)).1)), .slice x4.2.1 ((((((q0b).getD (s2.2 : Int).toNat default)).2)).length) x4.2.2]) rfl rfl ?_
    refine T.nil ?_
    refine T.then_normal ?_
    refine T.seq ?_
    refine T.region ?_
    refine T.move .list rfl (wants0 rfl) rfl rfl ?_
    refine T.field .list rfl (wants0 rfl) rfl rfl ?_
    refine T.load .list 5 rfl rfl (wants0 rfl) rfl rfl rfl ?_
    refine T.bin .list rfl (wants0 rfl) rfl rfl rfl rfl ?_
    refine T.nil ?_
    refine T.then_normal ?_
    refine T.cond rfl (fun hb2 => ?_) (fun hb2 => ?_)
    ·replace he1 := inv_posB hb2 he1
     refine T.seq ?_
     refine T.region ?_
     refine T.field .list rfl (wants0 rfl) rfl rfl ?_
     refine T.load .list 5 rfl rfl (wants0 rfl) rfl rfl rfl ?_
     refine T.max2 .list rfl (wants0 rfl) rfl rfl rfl ?_
     refine T.min2 .list rfl (wants0 rfl) rfl rfl rfl ?_
     refine T.assign .list rfl (wants0 rfl) rfl rfl ?_
     refine T.nil ?_
     refine T.then_normal ?_
     refine T.seq ?_
     refine T.plan [(0, 0), (1, 0), (2, 0), (4, 0), (3, 1), (5, 1), (6, 0), (7, 1), (8, 2), (9, 0)] mixed (by kernel_rfl) (by kernel_rfl) rfl (fun d _ _ _ _ h => by cases d <;> exact h) ?_
     refine T.move (.plan rfl) rfl (wants0 rfl) rfl rfl ?_
     refine T.nilCheck (.plan rfl) rfl (wants0 rfl) rfl rfl ?_
     refine T.field (.plan rfl) rfl (wants0 rfl) rfl rfl ?_
     refine T.field (.plan rfl) rfl (wants0 rfl) rfl rfl ?_
     refine T.load (.plan rfl) 2 rfl rfl (wants0 rfl) rfl rfl rfl ?_
     refine T.load (.plan rfl) 0 rfl rfl (wants0 rfl) rfl rfl rfl ?_
     obtain ⟨hc2, he1⟩ := inv_chk he1
     refine T.idxBf (.plan rfl) 3 rfl rfl (wants0 rfl) rfl rfl rfl hc2.1 hc2.2 (Nat.le_refl _) ?_
     refine T.ldFBf 3 (.plan rfl) Fd.self Sh.slice rfl (.inr rfl) rfl rfl hc2.1 hc2.2 rfl (wants0 rfl) rfl rfl rfl (v := fun x5 => .slice x5.1 (((((s2.1).getD (((((q0b).getD (s2.2 : Int).toNat default)).1) : Int).toNat default))).length) x5.2) (hs' := fun x5 => Ro E8 x5.1 x5.2 ((((s2.1).getD (((((q0b).getD (s2.2 : Int).toNat default)).1) : Int).toNat default))) :: Cl b2 77 [.int .i64 (((((q0b).getD (s2.2 : Int).toNat default)).1)), .slice x4.2.1 ((((((q0b).getD (s2.2 : Int).toNat default)).2)).length) x4.2.2] :: Ro E8 x4.2.1 x4.2.2 (((((q0b).getD (s2.2 : Int).toNat default)).2)) :: Cl p0 61 [.slice x2.1 s2.1.length x2.2, .slice A0b q0b.length c0b, .bool o0.1, .int .i64 o0.2.1, .int .u64 o0.2.2.1, .int .i64 o0.2.2.2.1, .int .i64 o0.2.2.2.2.1, .int .i64 o0.2.2.2.2.2] :: Bf (Elt.slice E8) 33 x2.1 x2.2 s2.1 :: Bf ((Elt.pair E64 (Elt.slice E8))) 77 A0b c0b q0b :: Cl b1 25 [.int .i64 a1.1, .int .u64 a1.2.1, .int .i64 a1.2.2.1, .int .i64 a1.2.2.2] :: hs) (fun _ => rfl) (fun _ => rfl) (fun x5 => ?_)
     obtain ⟨r1, hg1, he1⟩ := inv_bind he1
     refine T.call (.plan rfl) (wants0 rfl) rfl (run_callF (vs := [_]) rfl Try.func38 rfl (by decide) rfl) (fun w hS => ref3_full.c hS (i0 := 0) rfl hg1) (fun x6 => ?_)
     refine T.assign (.plan rfl) rfl (wants0 rfl) rfl rfl ?_
     refine T.planEnd ?_
     refine T.then_normal ?_
     refine T.seqJ (fun (s4 : List UInt8) (x7 : (Option Addr × Nat)) => [(0, .pointer (some ⟨p0, 0, none⟩)), (3, .pointer (some ⟨b1, 0, none⟩)), (4, .int .i64 s2.2), (5, .pointer (some ⟨b2, 0, none⟩)), (7, .slice x7.1 s4.length x7.2)]) (fun s4 x7 => Cl p0 61 [.slice x2.1 s2.1.length x2.2, .slice A0b q0b.length c0b, .bool o0.1, .int .i64 o0.2.1, .int .u64 o0.2.2.1, .int .i64 o0.2.2.2.1, .int .i64 o0.2.2.2.2.1, .int .i64 o0.2.2.2.2.2] :: Bf (Elt.slice E8) 33 x2.1 x2.2 s2.1 :: Bf ((Elt.pair E64 (Elt.slice E8))) 77 A0b c0b q0b :: Cl b1 25 [.int .i64 a1.1, .int .u64 a1.2.1, .int .i64 a1.2.2.1, .int .i64 a1.2.2.2] :: Cl b2 77 [.int .i64 (((((q0b).getD (s2.2 : Int).toNat default)).1)), .slice x4.2.1 ((((((q0b).getD (s2.2 : Int).toNat default)).2)).length) x4.2.2] :: Ro E8 x4.2.1 x4.2.2 (((((q0b).getD (s2.2 : Int).toNat default)).2)) :: Bf E8 5 x7.1 x7.2 s4 :: hs) (fun s4 => ref3_Disk_lose.k3 q0b s2 s4 = some o1) (fun s4 x7 hk3 => ?_) (fun J3 => ?_)
     ·unfold ref3_Disk_lose.k3 at hk3
      refine T.plan [(0, 0), (1, 0), (2, 0), (4, 0), (6, 0), (3, 1), (5, 1), (7, 0), (8, 2)] mixed (by kernel_rfl) (by kernel_rfl) rfl (fun d _ _ _ _ h => by cases d <;> exact h) ?_
      refine T.move (.plan rfl) rfl (wants0 rfl) rfl rfl ?_
      refine T.nilCheck (.plan rfl) rfl (wants0 rfl) rfl rfl ?_
      refine T.field (.plan rfl) rfl (wants0 rfl) rfl rfl ?_
      refine T.field (.plan rfl) rfl (wants0 rfl) rfl rfl ?_
      refine T.move (.plan rfl) rfl (wants0 rfl) rfl rfl ?_
      refine T.load (.plan rfl) 0 rfl rfl (wants0 rfl) rfl rfl rfl ?_
      refine T.load (.plan rfl) 4 rfl rfl (wants0 rfl) rfl rfl rfl ?_
      obtain ⟨hc3, hk3⟩ := inv_chk hk3
      refine T.idxBf (.plan rfl) 1 rfl rfl (wants0 rfl) rfl rfl rfl hc3.1 hc3.2 (Nat.le_refl _) ?_
      refine T.freeze 6 rfl rfl rfl ?_
      refine T.stBfV (.plan rfl) 1 (z := s4) rfl rfl rfl (wants0 rfl) rfl rfl rfl (Has.slice 6 rfl rfl) hc3.1 hc3.2 rfl ?_
      refine T.planEnd ?_
      refine T.in_normal ?_
      refine T.then_normal ?_
      refine T.clEq 0 (cs' := [.slice x2.1 ((((s2.1).set (((((q0b).getD (s2.2 : Int).toNat default)).1) : Int).toNat s4)).length) x2.2, .slice A0b q0b.length c0b, .bool o0.1, .int .i64 o0.2.1, .int .u64 o0.2.2.1, .int .i64 o0.2.2.2.1, .int .i64 o0.2.2.2.2.1, .int .i64 o0.2.2.2.2.2]) rfl (by simp only [List.length_set]) rfl ?_
      exact T.le (EnvLe.cons rfl (EnvLe.cons rfl (EnvLe.cons rfl EnvLe.nil))) (T.pick [0, 1, 2, 3] 7 rfl rfl (Nat.le_add_left _ _) rfl (J2 ((s2.1).set (((((q0b).getD (s2.2 : Int).toNat default)).1) : Int).toNat s4) (x2.1, x2.2) hk3))
     ·refine T.seq ?_
      refine T.region ?_
      refine T.assign .list rfl (wants0 rfl) rfl rfl ?_
      refine T.nil ?_
      refine T.then_normal ?_
      refine T.block ?_
      obtain ⟨e2, hl2, he1⟩ := inv_bind he1
      refine T.le (EnvLe.cons rfl (EnvLe.cons rfl (EnvLe.cons rfl (EnvLe.cons rfl (EnvLe.cons rfl (EnvLe.cons rfl (EnvLe.cons rfl EnvLe.nil))))))) (T.pick [4, 5, 6, 7, 2, 3, 0] 8 rfl rfl (Nat.le_add_left _ _) rfl (T.loop (s0 := (r1, 0)) (env := fun s5 x8 => [(0, .pointer (some ⟨p0, 0, none⟩)), (3, .pointer (some ⟨b1, 0, none⟩)), (4, .int .i64 s2.2), (5, .pointer (some ⟨b2, 0, none⟩)), (6, .int .i64 (min (max a1.2.2.2 0) 8192)), (7, .slice x8.1 s5.1.length x8.2), (8, .int .i64 s5.2)]) (hs := fun (s5 : List UInt8 × Int) (x8 : (Option Addr × Nat)) => Cl p0 61 [.slice x2.1 s2.1.length x2.2, .slice A0b q0b.length c0b, .bool o0.1, .int .i64 o0.2.1, .int .u64 o0.2.2.1, .int .i64 o0.2.2.2.1, .int .i64 o0.2.2.2.2.1, .int .i64 o0.2.2.2.2.2] :: Bf (Elt.slice E8) 33 x2.1 x2.2 s2.1 :: Bf ((Elt.pair E64 (Elt.slice E8))) 77 A0b c0b q0b :: Cl b1 25 [.int .i64 a1.1, .int .u64 a1.2.1, .int .i64 a1.2.2.1, .int .i64 a1.2.2.2] :: Cl b2 77 [.int .i64 (((((q0b).getD (s2.2 : Int).toNat default)).1)), .slice x4.2.1 ((((((q0b).getD (s2.2 : Int).toNat default)).2)).length) x4.2.2] :: Ro E8 x4.2.1 x4.2.2 (((((q0b).getD (s2.2 : Int).toNat default)).2)) :: Bf E8 5 x8.1 x8.2 s5.1 :: hs) hl2 (x6.1, x6.2) (fun K2 s5 x8 o2 he2 hm2 hx2 => ?_)))
      unfold ref3_Disk_lose.st2 at he2
      refine T.seq ?_
      refine T.seq ?_
      refine T.region ?_
      refine T.move .list rfl (wants0 rfl) rfl rfl ?_
      refine T.move .list rfl (wants0 rfl) rfl rfl ?_
      refine T.bin .list rfl (wants0 rfl) rfl rfl rfl rfl ?_
      refine T.nil ?_
      refine T.then_normal ?_
      refine T.cond rfl (fun hb3 => ?_) (fun hb3 => ?_)
      ·replace he2 := inv_posB hb3 he2
       refine T.skip ?_
       refine T.then_normal ?_
       refine T.seq ?_
       refine T.block ?_
       refine T.region ?_
       refine T.move .list rfl (wants0 rfl) rfl rfl ?_
       refine T.move .list rfl (wants0 rfl) rfl rfl ?_
       refine T.field .list rfl (wants0 rfl) rfl rfl ?_
       refine T.load .list 4 rfl rfl (wants0 rfl) rfl rfl rfl ?_
       refine T.move .list rfl (wants0 rfl) rfl rfl ?_
       obtain ⟨hc4, he2⟩ := inv_chk he2
       refine T.idxRo .list 5 rfl rfl (wants0 rfl) rfl rfl rfl hc4.1 hc4.2 (Nat.le_refl _) ?_
       refine T.ldRo1 .list 5 rfl rfl (wants0 rfl) rfl rfl hc4.1 hc4.2 ?_
       obtain ⟨hc5, he2⟩ := inv_chk he2
       refine T.idxBf .list 6 rfl rfl (wants0 rfl) rfl rfl rfl hc5.1 hc5.2 (Nat.le_refl _) ?_
       refine T.stBf .list 6 rfl rfl (wants0 rfl) rfl rfl rfl rfl hc5.1 hc5.2 rfl ?_
       refine T.nil ?_
       refine T.in_normal ?_
       refine T.then_normal ?_
       refine T.region ?_
       refine T.move .list rfl (wants0 rfl) rfl rfl ?_
       refine T.bin .list rfl (wants0 rfl) rfl rfl rfl rfl ?_
       refine T.assign .list rfl (wants0 rfl) rfl rfl ?_
       refine T.nil ?_
       refine T.then_normal ?_
       obtain rfl := inv_some he2
       refine T.env1 7 rfl (slc (n' := (((s5.1).set (s5.2 : Int).toNat ((((((q0b).getD (s2.2 : Int).toNat default)).2)).getD (s5.2 : Int).toNat default))).length) (by simp only [List.length_set])) ?_
       exact T.le (EnvLe.cons rfl (EnvLe.cons rfl (EnvLe.cons rfl (EnvLe.cons rfl (EnvLe.cons rfl (EnvLe.cons rfl (EnvLe.cons rfl EnvLe.nil))))))) (T.pick [0, 1, 2, 3, 4, 5, 6] 7 rfl rfl (Nat.le_add_left _ _) rfl (hm2 (((s5.1).set (s5.2 : Int).toNat ((((((q0b).getD (s2.2 : Int).toNat default)).2)).getD (s5.2 : Int).toNat default)), IntKind.i64.wrap (s5.2 + 1)) rfl (x8.1, x8.2)))
      ·replace he2 := inv_negB hb3 he2
       refine T.exit ?_
       refine T.then_exit ?_
       refine T.then_exit ?_
       obtain rfl := inv_some he2
       obtain rfl := hx2 _ rfl
       refine T.in_hit ?_
       refine T.then_normal ?_
       exact T.le (EnvLe.cons rfl (EnvLe.cons rfl (EnvLe.cons rfl (EnvLe.cons rfl (EnvLe.cons rfl EnvLe.nil))))) (T.pick [0, 1, 2, 3, 4, 5, 6] 7 rfl rfl (Nat.le_add_left _ _) rfl (J3 s5.1 (x8.1, x8.2) he1))
    ·replace he1 := inv_negB hb2 he1
     refine T.seq ?_
     refine T.region ?_
     refine T.field .list rfl (wants0 rfl) rfl rfl ?_
     refine T.load .list 5 rfl rfl (wants0 rfl) rfl rfl rfl ?_
     refine T.move .list rfl (wants0 rfl) rfl rfl ?_
     refine T.rem .list rfl (wants0 rfl) rfl rfl rfl (by decide) ?_
     refine T.conv .list rfl (wants0 rfl) rfl rfl rfl ?_
     refine T.shr .list rfl (wants0 rfl) rfl rfl rfl (wrap_nn rfl) ?_
     refine T.bin .list rfl (wants0 rfl) rfl rfl rfl rfl ?_
     refine T.bin .list rfl (wants0 rfl) rfl rfl rfl rfl ?_
     refine T.nil ?_
     refine T.then_normal ?_
     refine T.cond rfl (fun hb4 => ?_) (fun hb4 => ?_)
     ·replace he1 := inv_posB hb4 he1
      refine T.plan [(0, 0), (1, 0), (2, 0), (4, 0), (6, 0), (3, 1), (5, 1), (7, 1), (8, 0), (9, 2)] mixed (by kernel_rfl) (by kernel_rfl) rfl (fun d _ _ _ _ h => by cases d <;> exact h) ?_
      refine T.move (.plan rfl) rfl (wants0 rfl) rfl rfl ?_
      refine T.nilCheck (.plan rfl) rfl (wants0 rfl) rfl rfl ?_
      refine T.field (.plan rfl) rfl (wants0 rfl) rfl rfl ?_
      refine T.field (.plan rfl) rfl (wants0 rfl) rfl rfl ?_
      refine T.field (.plan rfl) rfl (wants0 rfl) rfl rfl ?_
      refine T.load (.plan rfl) 2 rfl rfl (wants0 rfl) rfl rfl rfl ?_
      refine T.load (.plan rfl) 0 rfl rfl (wants0 rfl) rfl rfl rfl ?_
      refine T.load (.plan rfl) 0 rfl rfl (wants0 rfl) rfl rfl rfl ?_
      obtain ⟨hc6, he1⟩ := inv_chk he1
      refine T.idxBf (.plan rfl) 3 rfl rfl (wants0 rfl) rfl rfl rfl hc6.1 hc6.2 (Nat.le_refl _) ?_
      refine T.stBfV (.plan rfl) 3 (z := ((((q0b).getD (s2.2 : Int).toNat default)).2)) rfl rfl rfl (wants0 rfl) rfl rfl rfl (Has.slice 1 rfl rfl) hc6.1 hc6.2 rfl ?_
      refine T.planEnd ?_
      refine T.in_normal ?_
      refine T.then_normal ?_
      refine T.clEq 2 (cs' := [.slice x2.1 ((((s2.1).set (((((q0b).getD (s2.2 : Int).toNat default)).1) : Int).toNat ((((q0b).getD (s2.2 : Int).toNat default)).2))).length) x2.2, .slice A0b q0b.length c0b, .bool o0.1, .int .i64 o0.2.1, .int .u64 o0.2.2.1, .int .i64 o0.2.2.2.1, .int .i64 o0.2.2.2.2.1, .int .i64 o0.2.2.2.2.2]) rfl (by simp only [List.length_set]) rfl ?_
      exact T.le (EnvLe.cons rfl (EnvLe.cons rfl (EnvLe.cons rfl EnvLe.nil))) (T.pick [2, 3, 4, 5] 6 rfl rfl (Nat.le_add_left _ _) rfl (J2 ((s2.1).set (((((q0b).getD (s2.2 : Int).toNat default)).1) : Int).toNat ((((q0b).getD (s2.2 : Int).toNat default)).2)) (x2.1, x2.2) he1))
     ·replace he1 := inv_negB hb4 he1
      refine T.skip ?_
      refine T.in_normal ?_
      refine T.then_normal ?_
      exact T.le (EnvLe.cons rfl (EnvLe.cons rfl (EnvLe.cons rfl EnvLe.nil))) (T.pick [2, 3, 4, 5] 6 rfl rfl (Nat.le_add_left _ _) rfl (J2 s2.1 (x2.1, x2.2) he1))
  ·replace he1 := inv_negB hb1 he1
   refine T.exit ?_
   refine T.then_exit ?_
   refine T.then_exit ?_
   obtain rfl := inv_some he1
   obtain rfl := hx1 _ rfl
   refine T.in_hit ?_
   refine T.then_normal ?_
   exact T.le (EnvLe.cons rfl EnvLe.nil) (T.pick [0, 1, 2] 4 rfl rfl (Nat.le_add_left _ _) rfl (J1 s2.1 (x2.1, x2.2) hr))

noncomputable def ref3_Disk_now.impl (o0 : Bool × Int × Int × Int × Int × Int) (q0a : List (List UInt8)) (q0b : List (Int × List UInt8)) : Option (Bool × (Bool × Int × Int × Int × Int × Int) × List (List UInt8) × (List (Int × List UInt8))) :=
  (if ((decide (o0.2.1 < 1))) = true then some (false, (o0.1, o0.2.1, o0.2.2.1, o0.2.2.2.1, o0.2.2.2.2.1, o0.2.2.2.2.2), q0a, q0b) else (if ((decide ((0 : Int) < (IntKind.i64.wrap (o0.2.1 - 1))))) = true then some (false, (o0.1, IntKind.i64.wrap (o0.2.1 - 1), o0.2.2.1, o0.2.2.2.1, o0.2.2.2.2.1, o0.2.2.2.2.2), q0a, q0b) else (ref3_Disk_lose.impl ((o0.1, IntKind.i64.wrap (o0.2.1 - 1), o0.2.2.1, o0.2.2.2.1, o0.2.2.2.2.1, o0.2.2.2.2.2)) q0a q0b ((IntKind.i64.wrap (o0.2.1 - 1), o0.2.2.1, o0.2.2.2.1, o0.2.2.2.2.1))).bind fun r1 => some (true, (r1.1.1, r1.1.2.1, r1.1.2.2.1, r1.1.2.2.2.1, r1.1.2.2.2.2.1, r1.1.2.2.2.2.2), r1.2.1, r1.2.2)))
set_option maxRecDepth 100000 in
set_option maxHeartbeats 4000000 in
theorem ref3_Disk_now.c {B : World} {hs : List MP} {w : World} {p0 : Nat} {o0 : Bool × Int × Int × Int × Int × Int} {c0a : Nat} {A0a : Option Addr} {q0a : List (List UInt8)} {c0b : Nat} {A0b : Option Addr} {d0b : Ads} {q0b : List (Int × List UInt8)} (hS : St B (Cl p0 61 [.slice A0a q0a.length c0a, .slice A0b q0b.length c0b, .bool o0.1, .int .i64 o0.2.1, .int .u64 o0.2.2.1, .int .i64 o0.2.2.2.1, .int .i64 o0.2.2.2.2.1, .int .i64 o0.2.2.2.2.2] :: Bf (Elt.slice E8) 33 A0a c0a q0a :: Hb 77 A0b c0b d0b q0b :: Bb 5 d0b q0b :: hs) w) {r : Bool × (Bool × Int × Int × Int × Int × Int) × List (List UInt8) × (List (Int × List UInt8))} (hr : ref3_Disk_now.impl o0 q0a q0b = some r) :
    Calls Try.prog 37 #[.pointer (some ⟨p0, 0, none⟩)] w fun e w' => ∃ x : (Option Addr × Nat) × (Option Addr × Nat) × (Ads), e = .returned (.bool r.1) ∧ St B (Cl p0 61 [.slice x.1.1 r.2.2.1.length x.1.2, .slice x.2.1.1 r.2.2.2.length x.2.1.2, .bool r.2.1.1, .int .i64 r.2.1.2.1, .int .u64 r.2.1.2.2.1, .int .i64 r.2.1.2.2.2.1, .int .i64 r.2.1.2.2.2.2.1, .int .i64 r.2.1.2.2.2.2.2] :: Bf (Elt.slice E8) 33 x.1.1 x.1.2 r.2.2.1 :: Hb 77 x.2.1.1 x.2.1.2 x.2.2 r.2.2.2 :: Bb 5 x.2.2 r.2.2.2 :: hs) w' := by
 unfold ref3_Disk_now.impl at hr
 refine calls_T Try.func37 rfl rfl rfl hS ?_
 refine T.seq ?_
 refine T.region ?_
 refine T.assign .list rfl (wants0 rfl) rfl rfl ?_
 refine T.nil ?_
 refine T.then_normal ?_
 refine T.seq ?_
 refine T.seq ?_
 refine T.region ?_
 refine T.move .list rfl (wants0 rfl) rfl rfl ?_
 refine T.nilCheck .list rfl (wants0 rfl) rfl rfl ?_
 refine T.field .list rfl (wants0 rfl) rfl rfl ?_
 refine T.field .list rfl (wants0 rfl) rfl rfl ?_
 refine T.load .list 0 rfl rfl (wants0 rfl) rfl rfl rfl ?_
 refine T.bin .list rfl (wants0 rfl) rfl rfl rfl rfl ?_
 refine T.nil ?_
 refine T.then_normal ?_
 refine T.cond rfl (fun hb1 => ?_) (fun hb1 => ?_)
 ·replace hr := inv_posB hb1 hr
  refine T.seq ?_
  refine T.region ?_
  refine T.assign .list rfl (wants0 rfl) rfl rfl ?_
  refine T.nil ?_
  refine T.then_normal ?_
  refine T.ret ?_
  refine T.then_ret ?_
  obtain rfl := inv_some hr
  refine T.pick [0, 1, 2, 3] 4 rfl rfl (Nat.le_add_left _ _) rfl ?_
  refine T.ret1 rfl rfl (fun w hS => ⟨((A0a, c0a), (A0b, c0b), d0b), rfl, hS⟩)
 ·replace hr := inv_negB hb1 hr
  refine T.skip ?_
  refine T.then_normal ?_
  refine T.seq ?_
  refine T.region ?_
  refine T.move .list rfl (wants0 rfl) rfl rfl ?_
  refine T.nilCheck .list rfl (wants0 rfl) rfl rfl ?_
  refine T.field .list rfl (wants0 rfl) rfl rfl ?_
  refine T.field .list rfl (wants0 rfl) rfl rfl ?_
  refine T.load .list 0 rfl rfl (wants0 rfl) rfl rfl rfl ?_
  refine T.bin .list rfl (wants0 rfl) rfl rfl rfl rfl ?_
  refine T.nilCheck .list rfl (wants0 rfl) rfl rfl ?_
  refine T.field .list rfl (wants0 rfl) rfl rfl ?_
  refine T.field .list rfl (wants0 rfl) rfl rfl ?_
  refine T.store .list 0 rfl rfl (wants0 rfl) rfl rfl rfl rfl (Nat.le_of_ble_eq_true rfl) rfl (cs' := [.slice A0a q0a.length c0a, .slice A0b q0b.length c0b, .bool o0.1, .int .i64 (IntKind.i64.wrap (o0.2.1 - 1)), .int .u64 o0.2.2.1, .int .i64 o0.2.2.2.1, .int .i64 o0.2.2.2.2.1, .int .i64 o0.2.2.2.2.2]) rfl rfl ?_
  refine T.nil ?_
  refine T.then_normal ?_
  refine T.seq ?_
  refine T.seq ?_
  refine T.region ?_
  refine T.move .list rfl (wants0 rfl) rfl rfl ?_
  refine T.nilCheck .list rfl (wants0 rfl) rfl rfl ?_
  refine T.field .list rfl (wants0 rfl) rfl rfl ?_
  refine T.field .list rfl (wants0 rfl) rfl rfl ?_
  refine T.load .list 0 rfl rfl (wants0 rfl) rfl rfl rfl ?_
  refine T.bin .list rfl (wants0 rfl) rfl rfl rfl rfl ?_
  refine T.nil ?_
  refine T.then_normal ?_
  refine T.cond rfl (fun hb2 => ?_) (fun hb2 => ?_)
  ·replace hr := inv_posB hb2 hr
   refine T.seq ?_
   refine T.region ?_
   refine T.assign .list rfl (wants0 rfl) rfl rfl ?_
   refine T.nil ?_
   refine T.then_normal ?_
   refine T.ret ?_
   refine T.then_ret ?_
   obtain rfl := inv_some hr
   refine T.pick [0, 1, 2, 3] 4 rfl rfl (Nat.le_add_left _ _) rfl ?_
   refine T.ret1 rfl rfl (fun w hS => ⟨((A0a, c0a), (A0b, c0b), d0b), rfl, hS⟩)
  ·replace hr := inv_negB hb2 hr
   refine T.skip ?_
   refine T.then_normal ?_
   refine T.seq ?_
   refine T.region ?_
   refine T.move .list rfl (wants0 rfl) rfl rfl ?_
   refine T.move .list rfl (wants0 rfl) rfl rfl ?_
   refine T.nilCheck .list rfl (wants0 rfl) rfl rfl ?_
   refine T.field .list rfl (wants0 rfl) rfl rfl ?_
   refine T.loadN .list 0 rfl rfl (wants0 rfl) rfl rfl (vs := [.int .i64 (IntKind.i64.wrap (o0.2.1 - 1)), .int .u64 o0.2.2.1, .int .i64 o0.2.2.2.1, .int .i64 o0.2.2.2.2.1]) rfl rfl ?_
   refine T.pick [0, 1, 2, 3] 4 rfl rfl (Nat.le_add_left _ _) (hs' := Cl p0 61 [.slice A0a q0a.length c0a, .slice A0b q0b.length c0b, .bool o0.1, .int .i64 (IntKind.i64.wrap (o0.2.1 - 1)), .int .u64 o0.2.2.1, .int .i64 o0.2.2.2.1, .int .i64 o0.2.2.2.2.1, .int .i64 o0.2.2.2.2.2] :: Bf (Elt.slice E8) 33 A0a c0a q0a :: Hb 77 A0b c0b d0b q0b :: Bb 5 d0b q0b :: hs) rfl ?_
   obtain ⟨r1, hg1, hr⟩ := inv_bind hr
   refine T.call .list (wants0 rfl) rfl (run_callF (vs := [_, _]) rfl Try.func39 rfl (by decide) rfl) (fun w hS => ref3_Disk_lose.c hS (o0 := (o0.1, IntKind.i64.wrap (o0.2.1 - 1), o0.2.2.1, o0.2.2.2.1, o0.2.2.2.2.1, o0.2.2.2.2.2)) (q0a := q0a) (q0b := q0b) (a1 := (IntKind.i64.wrap (o0.2.1 - 1), o0.2.2.1, o0.2.2.2.1, o0.2.2.2.2.1))  hg1) (fun x1 => ?_)
   refine T.nil ?_
   refine T.then_normal ?_
   refine T.seq ?_
   refine T.region ?_
   refine T.assign .list rfl (wants0 rfl) rfl rfl ?_
   refine T.nil ?_
   refine T.then_normal ?_
   refine T.ret ?_
   obtain rfl := inv_some hr
   refine T.pick [0, 1, 2, 3] 4 rfl rfl (Nat.le_add_left _ _) rfl ?_
   refine T.ret1 rfl rfl (fun w hS => ⟨((x1.1.1, x1.1.2), (x1.2.1.1, x1.2.1.2), x1.2.2), rfl, hS⟩)

noncomputable def ref3_Disk_Write.k1 (o0 : Bool × Int × Int × Int × Int × Int) (q0a : List (List UInt8)) (q0b : List (Int × List UInt8)) (l2 : List UInt8) (a1 : Int) (s1 : Bool) : Option (Int × (Bool × Int × Int × Int × Int × Int) × List (List UInt8) × (List (Int × List UInt8))) :=
  (if s1 = true then some (1, (o0.1, o0.2.1, o0.2.2.1, o0.2.2.2.1, o0.2.2.2.2.1, o0.2.2.2.2.2), q0a, q0b) else (ref3_Disk_now.impl ((o0.1, o0.2.1, o0.2.2.1, o0.2.2.2.1, o0.2.2.2.2.1, o0.2.2.2.2.2)) q0a q0b).bind fun r1 => (if r1.1 = true then some (20, (r1.2.1.1, r1.2.1.2.1, r1.2.1.2.2.1, r1.2.1.2.2.2.1, r1.2.1.2.2.2.2.1, r1.2.1.2.2.2.2.2), r1.2.2.1, r1.2.2.2) else (ref3_full.impl l2).bind fun r2 => chk ((r1.2.2.2.length + 1) * 32 ≤ 140737488355328) (some (0, (r1.2.1.1, r1.2.1.2.1, r1.2.1.2.2.1, r1.2.1.2.2.2.1, r1.2.1.2.2.2.2.1, r1.2.1.2.2.2.2.2), r1.2.2.1, (r1.2.2.2 ++ [(a1, r2)])))))
noncomputable def ref3_Disk_Write.impl (o0 : Bool × Int × Int × Int × Int × Int) (q0a : List (List UInt8)) (q0b : List (Int × List UInt8)) (a1 : Int) (l2 : List UInt8) : Option (Int × (Bool × Int × Int × Int × Int × Int) × List (List UInt8) × (List (Int × List UInt8))) :=
  (if o0.1 = true then some (20, (o0.1, o0.2.1, o0.2.2.1, o0.2.2.2.1, o0.2.2.2.2.1, o0.2.2.2.2.2), q0a, q0b) else (if ((decide (a1 < 0))) = true then ref3_Disk_Write.k1 o0 q0a q0b l2 a1 true else (if ((decide ((((q0a.length : Int))) ≤ a1))) = true then ref3_Disk_Write.k1 o0 q0a q0b l2 a1 true else ref3_Disk_Write.k1 o0 q0a q0b l2 a1 (decide ((8192 : Int) < ((l2.length : Int)))))))
set_option maxRecDepth 100000 in
set_option maxHeartbeats 4000000 in
theorem ref3_Disk_Write.c {B : World} {hs : List MP} {w : World} {p0 : Nat} {o0 : Bool × Int × Int × Int × Int × Int} {c0a : Nat} {A0a : Option Addr} {q0a : List (List UInt8)} {c0b : Nat} {A0b : Option Addr} {d0b : Ads} {q0b : List (Int × List UInt8)} {a1 : Int} {i2 c2 : Nat} {A2 : Option Addr} {l2 : List UInt8} (hS : St B (Cl p0 61 [.slice A0a q0a.length c0a, .slice A0b q0b.length c0b, .bool o0.1, .int .i64 o0.2.1, .int .u64 o0.2.2.1, .int .i64 o0.2.2.2.1, .int .i64 o0.2.2.2.2.1, .int .i64 o0.2.2.2.2.2] :: Bf (Elt.slice E8) 33 A0a c0a q0a :: Hb 77 A0b c0b d0b q0b :: Bb 5 d0b q0b :: hs) w) (h2 : (Cl p0 61 [.slice A0a q0a.length c0a, .slice A0b q0b.length c0b, .bool o0.1, .int .i64 o0.2.1, .int .u64 o0.2.2.1, .int .i64 o0.2.2.2.1, .int .i64 o0.2.2.2.2.1, .int .i64 o0.2.2.2.2.2] :: Bf (Elt.slice E8) 33 A0a c0a q0a :: Hb 77 A0b c0b d0b q0b :: Bb 5 d0b q0b :: hs)[i2]? = some (Ro E8 A2 c2 l2)) {r : Int × (Bool × Int × Int × Int × Int × Int) × List (List UInt8) × (List (Int × List UInt8))} (hr : ref3_Disk_Write.impl o0 q0a q0b a1 l2 = some r) :
    Calls Try.prog 25 #[.pointer (some ⟨p0, 0, none⟩), .int .i64 a1, .slice A2 l2.length c2] w fun e w' => ∃ x : (Option Addr × Nat) × (Option Addr × Nat) × (Ads), e = .returned (.int .i64 r.1) ∧ St B (Cl p0 61 [.slice x.1.1 r.2.2.1.length x.1.2, .slice x.2.1.1 r.2.2.2.length x.2.1.2, .bool r.2.1.1, .int .i64 r.2.1.2.1, .int .u64 r.2.1.2.2.1, .int .i64 r.2.1.2.2.2.1, .int .i64 r.2.1.2.2.2.2.1, .int .i64 r.2.1.2.2.2.2.2] :: Bf (Elt.slice E8) 33 x.1.1 x.1.2 r.2.2.1 :: Hb 77 x.2.1.1 x.2.1.2 x.2.2 r.2.2.2 :: Bb 5 x.2.2 r.2.2.2 :: hs) w' := by
 unfold ref3_Disk_Write.impl at hr
 refine calls_T Try.func25 rfl rfl rfl hS ?_
 refine T.front i2 h2 ?_
 refine T.seq ?_
 refine T.region ?_
 refine T.assign .list rfl (wants0 rfl) rfl rfl ?_
 refine T.nil ?_
 refine T.then_normal ?_
 refine T.seq ?_
 refine T.block ?_
 refine T.seq ?_
 refine T.region ?_
 refine T.move .list rfl (wants0 rfl) rfl rfl ?_
 refine T.nilCheck .list rfl (wants0 rfl) rfl rfl ?_
 refine T.field .list rfl (wants0 rfl) rfl rfl ?_
 refine T.load .list 1 rfl rfl (wants0 rfl) rfl rfl rfl ?_
 refine T.assign .list rfl (wants0 rfl) rfl rfl ?_
 refine T.nil ?_
 refine T.then_normal ?_
 refine T.cond rfl (fun hb1 => ?_) (fun hb1 => ?_)
 ·replace hr := inv_posB hb1 hr
  refine T.seq ?_
  refine T.region ?_
  refine T.assign .list rfl (wants0 rfl) rfl rfl ?_
  refine T.nil ?_
  refine T.then_normal ?_
  refine T.ret ?_
  refine T.in_ret ?_
  refine T.then_ret ?_
  obtain rfl := inv_some hr
  refine T.pick [1, 2, 3, 4] 5 rfl rfl (Nat.le_add_left _ _) rfl ?_
  refine T.ret1 rfl rfl (fun w hS => ⟨((A0a, c0a), (A0b, c0b), d0b), rfl, hS⟩)
 ·replace hr := inv_negB hb1 hr
  refine T.seqJ (fun (s1 : Bool) (x1 : Unit) => [(0, .pointer (some ⟨p0, 0, none⟩)), (1, .int .i64 a1), (2, .slice A2 l2.length c2), (12, .bool s1)]) (fun s1 x1 => Cl p0 61 [.slice A0a q0a.length c0a, .slice A0b q0b.length c0b, .bool o0.1, .int .i64 o0.2.1, .int .u64 o0.2.2.1, .int .i64 o0.2.2.2.1, .int .i64 o0.2.2.2.2.1, .int .i64 o0.2.2.2.2.2] :: Bf (Elt.slice E8) 33 A0a c0a q0a :: Hb 77 A0b c0b d0b q0b :: Bb 5 d0b q0b :: Ro E8 A2 c2 l2 :: hs) (fun s1 => ref3_Disk_Write.k1 o0 q0a q0b l2 a1 s1 = some r) (fun s1 x1 hk1 => ?_) (fun J1 => ?_)
  ·unfold ref3_Disk_Write.k1 at hk1
   refine T.cond rfl (fun hb2 => ?_) (fun hb2 => ?_)
   ·replace hk1 := inv_posB hb2 hk1
    refine T.seq ?_
    refine T.region ?_
    refine T.assign .list rfl (wants0 rfl) rfl rfl ?_
    refine T.nil ?_
    refine T.then_normal ?_
    refine T.ret ?_
    refine T.in_ret ?_
    refine T.then_ret ?_
    obtain rfl := inv_some hk1
    refine T.pick [0, 1, 2, 3] 5 rfl rfl (Nat.le_add_left _ _) rfl ?_
    refine T.ret1 rfl rfl (fun w hS => ⟨((A0a, c0a), (A0b, c0b), d0b), rfl, hS⟩)
   ·replace hk1 := inv_negB hb2 hk1
    refine T.seq ?_
    refine T.region ?_
    refine T.move .list rfl (wants0 rfl) rfl rfl ?_
    refine T.pick [0, 1, 2, 3, 4] 5 rfl rfl (Nat.le_add_left _ _) (hs' := Cl p0 61 [.slice A0a q0a.length c0a, .slice A0b q0b.length c0b, .bool o0.1, .int .i64 o0.2.1, .int .u64 o0.2.2.1, .int .i64 o0.2.2.2.1, .int .i64 o0.2.2.2.2.1, .int .i64 o0.2.2.2.2.2] :: Bf (Elt.slice E8) 33 A0a c0a q0a :: Hb 77 A0b c0b d0b q0b :: Bb 5 d0b q0b :: Ro E8 A2 c2 l2 :: hs) rfl ?_
    obtain ⟨r1, hg1, hk1⟩ := inv_bind hk1
    refine T.call .list (wants0 rfl) rfl (run_callF (vs := [_]) rfl Try.func37 rfl (by decide) rfl) (fun w hS => ref3_Disk_now.c hS (o0 := (o0.1, o0.2.1, o0.2.2.1, o0.2.2.2.1, o0.2.2.2.2.1, o0.2.2.2.2.2)) (q0a := q0a) (q0b := q0b)  hg1) (fun x2 => ?_)
    refine T.assign .list rfl (wants0 rfl) rfl rfl ?_
    refine T.nil ?_
    refine T.then_normal ?_
    refine T.cond rfl (fun hb3 => ?_) (fun hb3 => ?_)
    ·replace hk1 := inv_posB hb3 hk1
     refine T.seq ?_
     refine T.region ?_
     refine T.assign .list rfl (wants0 rfl) rfl rfl ?_
     refine T.nil ?_
     refine T.then_normal ?_
     refine T.ret ?_
     refine T.in_ret ?_
     refine T.then_ret ?_
     obtain rfl := inv_some hk1
     refine T.pick [0, 1, 2, 3] 5 rfl rfl (Nat.le_add_left _ _) rfl ?_
     refine T.ret1 rfl rfl (fun w hS => ⟨((x2.1.1, x2.1.2), (x2.2.1.1, x2.2.1.2), x2.2.2), rfl, hS⟩)
    ·replace hk1 := inv_negB hb3 hk1
     refine T.skip ?_
     refine T.in_normal ?_
     refine T.then_normal ?_
     refine T.seq ?_
     refine T.dStart mixed ?_
     refine T.move (.dPure (i := 0) rfl (by kernel_rfl) (fun d _ _ _ _ h => by cases d <;> exact h)) rfl (wants0 rfl) rfl rfl ?_
     refine T.move (.dPure (i := 1) rfl (by kernel_rfl) (fun d _ _ _ _ h => by cases d <;> exact h)) rfl (wants0 rfl) rfl rfl ?_
     refine T.nilCheck (.dPure (i := 2) rfl (by kernel_rfl) (fun d _ _ _ _ h => by cases d <;> exact h)) rfl (wants0 rfl) rfl rfl ?_
     refine T.field (.dPure (i := 3) rfl (by kernel_rfl) (fun d _ _ _ _ h => by cases d <;> exact h)) rfl (wants0 rfl) rfl rfl ?_
     refine T.move (.dPure (i := 5) rfl (by kernel_rfl) (fun d _ _ _ _ h => by cases d <;> exact h)) rfl (wants0 rfl) rfl rfl ?_
     refine T.move (.dPure (i := 6) rfl (by kernel_rfl) (fun d _ _ _ _ h => by cases d <;> exact h)) rfl (wants0 rfl) rfl rfl ?_
     refine T.dAdd 13 (fun w => w.heap[p0]? = some (.cells [.slice x2.1.1 r1.2.2.1.length x2.1.2, .slice x2.2.1.1 r1.2.2.2.length x2.2.1.2, .bool r1.2.1.1, .int .i64 r1.2.1.2.1, .int .u64 r1.2.1.2.2.1, .int .i64 r1.2.1.2.2.2.1, .int .i64 r1.2.1.2.2.2.2.1, .int .i64 r1.2.1.2.2.2.2.2].toArray 61 (0, 0))) (Cl.stays 0 rfl) ?_
     refine T.valS 0 (i := 4) (.slice x2.2.1.1 r1.2.2.2.length x2.2.1.2) rfl rfl (by kernel_rfl) (by kernel_rfl) (fun d _ _ _ _ h => by cases d <;> exact h) (wants0 rfl) rfl (run_ldCl rfl rfl rfl) ?_
     obtain ⟨r2, hg2, hk1⟩ := inv_bind hk1
     refine T.dOnly (i := 7) (by kernel_rfl) ?_
     refine T.call (.dOne rfl (by kernel_rfl)) (wants0 rfl) rfl (run_callF (vs := [_]) rfl Try.func38 rfl (by decide) rfl) (fun w hS => ref3_full.c hS (i0 := 4) rfl hg2) (fun x3 => ?_)
     refine T.dNext (phi_cons (.inr (Cl.stays 1 rfl)) phi_nil) ?_
     refine T.build (.dPure (i := 8) rfl (by kernel_rfl) (fun d _ _ _ _ h => by cases d <;> exact h)) (vals := [(0, .int .i64 a1), (1, .slice x3.1 r2.length x3.2)]) (cells := #[.int .i64 a1, .slice x3.1 r2.length x3.2]) rfl (wants0 rfl) rfl rfl (run_buildStruct (sizes := [1, 1]) (by kernel_rfl) (by kernel_rfl)) ?_
     refine T.dOnly (i := 9) (by kernel_rfl) ?_
     refine T.lit (E := EOp) (.dOne rfl (by kernel_rfl)) (vals := [(0, .agg #[.int .i64 a1, .slice x3.1 r2.length x3.2])]) (cells := #[.int .i64 a1, .slice x3.1 r2.length x3.2]) rfl (wants0 rfl) rfl rfl rfl rfl rfl (by kernel_rfl) [(a1, x3.1, r2.length, x3.2)] rfl (fun _ _ _ _ ho => encsOp) (fun b1 => ?_)
     refine T.dNext (phi_cons (.inr (Cl.stays 2 rfl)) phi_nil) ?_
     obtain ⟨hc1, hk1⟩ := inv_chk hk1
     refine T.dOnly (i := 10) (by kernel_rfl) ?_
     refine T.appHb (.dOne rfl (by kernel_rfl)) 4 0 (bs := r2) rfl rfl rfl (wants0 rfl) rfl rfl rfl rfl rfl rfl hc1 (fun _ _ => rfl) (fun A4 c4 => ?_)
     refine T.pick [1, 5, 4, 0, 2, 3, 6] 7 rfl rfl (Nat.le_add_left _ _) (hs' := Bf E8 5 x3.1 x3.2 r2 :: Bb 5 x2.2.2 r1.2.2.2 :: Bf EOp 77 A4 c4 (hdr x2.2.2 r1.2.2.2 ++ [(a1, x3.1, r2.length, x3.2)]) :: Bf EOp 77 (some ⟨b1, 0, none⟩) 1 ([(a1, x3.1, r2.length, x3.2)]) :: Cl p0 61 [.slice x2.1.1 r1.2.2.1.length x2.1.2, .slice x2.2.1.1 r1.2.2.2.length x2.2.1.2, .bool r1.2.1.1, .int .i64 r1.2.1.2.1, .int .u64 r1.2.1.2.2.1, .int .i64 r1.2.1.2.2.2.1, .int .i64 r1.2.1.2.2.2.2.1, .int .i64 r1.2.1.2.2.2.2.2] :: Bf (Elt.slice E8) 33 x2.1.1 x2.1.2 r1.2.2.1 :: Ro E8 A2 c2 l2 :: hs) rfl ?_
     refine T.snocHb ?_
     refine T.dNext (phi_cons (.inr (Cl.stays 3 rfl)) phi_nil) ?_
     refine T.nilCheck (.dPure (i := 11) rfl (by kernel_rfl) (fun d _ _ _ _ h => by cases d <;> exact h)) rfl (wants0 rfl) rfl rfl ?_
     refine T.field (.dPure (i := 12) rfl (by kernel_rfl) (fun d _ _ _ _ h => by cases d <;> exact h)) rfl (wants0 rfl) rfl rfl ?_
     refine T.dOnly (i := 13) (by kernel_rfl) ?_
     refine T.store (.dOne rfl (by kernel_rfl)) 3 rfl rfl (wants0 rfl) rfl rfl rfl rfl (Nat.le_of_ble_eq_true rfl) rfl (cs' := [.slice x2.1.1 r1.2.2.1.length x2.1.2, .slice A4 (((r1.2.2.2 ++ [(a1, r2)])).length) c4, .bool r1.2.1.1, .int .i64 r1.2.1.2.1, .int .u64 r1.2.1.2.2.1, .int .i64 r1.2.1.2.2.2.1, .int .i64 r1.2.1.2.2.2.2.1, .int .i64 r1.2.1.2.2.2.2.2]) rfl rfl ?_
     refine T.dNext (phi_cons (.inl (by kernel_rfl)) phi_nil) ?_
     refine T.dDone (by kernel_rfl) ?_
     refine T.then_normal ?_
     refine T.seq ?_
     refine T.region ?_
     refine T.assign .list rfl (wants0 rfl) rfl rfl ?_
     refine T.nil ?_
     refine T.then_normal ?_
     refine T.ret ?_
     obtain rfl := inv_some hk1
     refine T.pick [3, 4, 0, 1] 6 rfl rfl (Nat.le_add_left _ _) rfl ?_
     refine T.ret1 rfl rfl (fun w hS => ⟨((x2.1.1, x2.1.2), (A4, c4), (upd x2.2.2 r1.2.2.2.length (x3.1, x3.2))), rfl, hS⟩)
  ·refine T.region ?_
   refine T.move .list rfl (wants0 rfl) rfl rfl ?_
   refine T.bin .list rfl (wants0 rfl) rfl rfl rfl rfl ?_
   refine T.move .list rfl (wants0 rfl) rfl rfl ?_
   refine T.bool (b := (decide (a1 < 0))) (fun hb4 => ?_) (fun hb4 => ?_)
   ·replace hr := inv_posB hb4 hr
    refine T.leave .list (wantsNot rfl rfl rfl hb4) rfl ?_
    refine T.leave .list (wantsNot rfl rfl rfl hb4) rfl ?_
    refine T.leave .list (wantsNot rfl rfl rfl hb4) rfl ?_
    refine T.leave .list (wantsNot rfl rfl rfl hb4) rfl ?_
    refine T.leave .list (wantsNot rfl rfl rfl hb4) rfl ?_
    refine T.leave .list (wantsNot rfl rfl rfl hb4) rfl ?_
    refine T.leave .list (wantsNot rfl rfl rfl hb4) rfl ?_
    refine T.pickT .list rfl (wants0 rfl) rfl rfl hb4 rfl ?_
    refine T.move .list rfl (wants0 rfl) rfl rfl ?_
    refine T.leave .list (wantsNot rfl rfl rfl rfl) rfl ?_
    refine T.leave .list (wantsNot rfl rfl rfl rfl) rfl ?_
    refine T.leave .list (wantsNot rfl rfl rfl rfl) rfl ?_
    refine T.pickT .list rfl (wants0 rfl) rfl rfl rfl rfl ?_
    refine T.assign .list rfl (wants0 rfl) rfl rfl ?_
    refine T.nil ?_
    refine T.then_normal ?_
    exact T.le (EnvLe.cons rfl (EnvLe.cons rfl (EnvLe.cons rfl (EnvLe.cons rfl EnvLe.nil)))) (T.pick [1, 2, 3, 4, 0] 5 rfl rfl (Nat.le_add_left _ _) rfl (J1 true () hr))
   ·replace hr := inv_negB hb4 hr
    refine T.move .list rfl (wants1 rfl rfl rfl hb4) rfl rfl ?_
    refine T.move .list rfl (wants1 rfl rfl rfl hb4) rfl rfl ?_
    refine T.nilCheck .list rfl (wants1 rfl rfl rfl hb4) rfl rfl ?_
    refine T.field .list rfl (wants1 rfl rfl rfl hb4) rfl rfl ?_
    refine T.load .list 1 rfl rfl (wants1 rfl rfl rfl hb4) rfl rfl rfl ?_
    refine T.lenSlice .list rfl (wants1 rfl rfl rfl hb4) rfl rfl ?_
    refine T.bin .list rfl (wants1 rfl rfl rfl hb4) rfl rfl rfl rfl ?_
    refine T.pickF .list rfl (wants0 rfl) rfl rfl hb4 rfl ?_
    refine T.move .list rfl (wants0 rfl) rfl rfl ?_
    refine T.bool (b := (decide ((((q0a.length : Int))) ≤ a1))) (fun hb5 => ?_) (fun hb5 => ?_)
    ·replace hr := inv_posB hb5 hr
     refine T.leave .list (wantsNot rfl rfl rfl hb5) rfl ?_
     refine T.leave .list (wantsNot rfl rfl rfl hb5) rfl ?_
     refine T.leave .list (wantsNot rfl rfl rfl hb5) rfl ?_
     refine T.pickT .list rfl (wants0 rfl) rfl rfl hb5 rfl ?_
     refine T.assign .list rfl (wants0 rfl) rfl rfl ?_
     refine T.nil ?_
     refine T.then_normal ?_
     exact T.le (EnvLe.cons rfl (EnvLe.cons rfl (EnvLe.cons rfl (EnvLe.cons rfl EnvLe.nil)))) (T.pick [1, 2, 3, 4, 0] 5 rfl rfl (Nat.le_add_left _ _) rfl (J1 true () hr))
    ·replace hr := inv_negB hb5 hr
     refine T.move .list rfl (wants1 rfl rfl rfl hb5) rfl rfl ?_
     refine T.lenSlice .list rfl (wants1 rfl rfl rfl hb5) rfl rfl ?_
     refine T.bin .list rfl (wants1 rfl rfl rfl hb5) rfl rfl rfl rfl ?_
     refine T.pickF .list rfl (wants0 rfl) rfl rfl hb5 rfl ?_
     refine T.assign .list rfl (wants0 rfl) rfl rfl ?_
     refine T.nil ?_
     refine T.then_normal ?_
     exact T.le (EnvLe.cons rfl (EnvLe.cons rfl (EnvLe.cons rfl (EnvLe.cons rfl EnvLe.nil)))) (T.pick [1, 2, 3, 4, 0] 5 rfl rfl (Nat.le_add_left _ _) rfl (J1 (decide ((8192 : Int) < ((l2.length : Int)))) () hr))

noncomputable def ref3_Disk_Flush.k2 (s1 : List (List UInt8) × (List (Int × List UInt8)) × Bool × Int × Int × Int × Int × Int × Bool) (s2 : List (List UInt8)) : Option (Int × (Bool × Int × Int × Int × Int × Int) × List (List UInt8) × (List (Int × List UInt8))) :=
  some (0, (s1.2.2.1, s1.2.2.2.1, s1.2.2.2.2.1, s1.2.2.2.2.2.1, s1.2.2.2.2.2.2.1, s1.2.2.2.2.2.2.2.1), s2, ([] : List (Int × List UInt8)))
noncomputable def ref3_Disk_Flush.st1 (s1 : List (List UInt8) × (List (Int × List UInt8)) × Bool × Int × Int × Int × Int × Int × Bool) (s3 : List (List UInt8) × Int) : Option ((List (List UInt8) × Int) ⊕ (List (List UInt8))) :=
  (if ((decide (s3.2 < ((s1.2.1.length : Int))))) = true then chk (0 ≤ s3.2 ∧ s3.2 < (s1.2.1.length : Int)) (chk (0 ≤ s3.2 ∧ s3.2 < (s1.2.1.length : Int)) (chk (0 ≤ (((((s1.2.1).getD (s3.2 : Int).toNat default)).1)) ∧ (((((s1.2.1).getD (s3.2 : Int).toNat default)).1)) < (s3.1.length : Int)) (some (.inl (((s3.1).set (((((s1.2.1).getD (s3.2 : Int).toNat default)).1) : Int).toNat ((((s1.2.1).getD (s3.2 : Int).toNat default)).2)), IntKind.i64.wrap (s3.2 + 1)))))) else some (.inr s3.1))
noncomputable def ref3_Disk_Flush.k1 (s1 : List (List UInt8) × (List (Int × List UInt8)) × Bool × Int × Int × Int × Int × Int × Bool) : Option (Int × (Bool × Int × Int × Int × Int × Int) × List (List UInt8) × (List (Int × List UInt8))) :=
  (if s1.2.2.2.2.2.2.2.2 = true then some (20, (s1.2.2.1, s1.2.2.2.1, s1.2.2.2.2.1, s1.2.2.2.2.2.1, s1.2.2.2.2.2.2.1, s1.2.2.2.2.2.2.2.1), s1.1, s1.2.1) else (loop (ref3_Disk_Flush.st1 s1) (s1.1, 0)).bind (fun e1 => ref3_Disk_Flush.k2 s1 e1))
noncomputable def ref3_Disk_Flush.impl (o0 : Bool × Int × Int × Int × Int × Int) (q0a : List (List UInt8)) (q0b : List (Int × List UInt8)) : Option (Int × (Bool × Int × Int × Int × Int × Int) × List (List UInt8) × (List (Int × List UInt8))) :=
  (if o0.1 = true then ref3_Disk_Flush.k1 (q0a, q0b, o0.1, o0.2.1, o0.2.2.1, o0.2.2.2.1, o0.2.2.2.2.1, o0.2.2.2.2.2, true) else (ref3_Disk_now.impl ((o0.1, o0.2.1, o0.2.2.1, o0.2.2.2.1, o0.2.2.2.2.1, o0.2.2.2.2.2)) q0a q0b).bind fun r1 => ref3_Disk_Flush.k1 (r1.2.2.1, r1.2.2.2, r1.2.1.1, r1.2.1.2.1, r1.2.1.2.2.1, r1.2.1.2.2.2.1, r1.2.1.2.2.2.2.1, r1.2.1.2.2.2.2.2, r1.1))
set_option maxRecDepth 100000 in
set_option maxHeartbeats 4000000 in
theorem ref3_Disk_Flush.c {B : World} {hs : List MP} {w : World} {p0 : Nat} {o0 : Bool × Int × Int × Int × Int × Int} {c0a : Nat} {A0a : Option Addr} {q0a : List (List UInt8)} {c0b : Nat} {A0b : Option Addr} {d0b : Ads} {q0b : List (Int × List UInt8)} (hS : St B (Cl p0 61 [.slice A0a q0a.length c0a, .slice A0b q0b.length c0b, .bool o0.1, .int .i64 o0.2.1, .int .u64 o0.2.2.1, .int .i64 o0.2.2.2.1, .int .i64 o0.2.2.2.2.1, .int .i64 o0.2.2.2.2.2] :: Bf (Elt.slice E8) 33 A0a c0a q0a :: Hb 77 A0b c0b d0b q0b :: Bb 5 d0b q0b :: hs) w) {r : Int × (Bool × Int × Int × Int × Int × Int) × List (List UInt8) × (List (Int × List UInt8))} (hr : ref3_Disk_Flush.impl o0 q0a q0b = some r) :
    Calls Try.prog 26 #[.pointer (some ⟨p0, 0, none⟩)] w fun e w' => ∃ x : (Option Addr × Nat) × (Option Addr × Nat) × (Ads), e = .returned (.int .i64 r.1) ∧ St B (Cl p0 61 [.slice x.1.1 r.2.2.1.length x.1.2, .slice x.2.1.1 r.2.2.2.length x.2.1.2, .bool r.2.1.1, .int .i64 r.2.1.2.1, .int .u64 r.2.1.2.2.1, .int .i64 r.2.1.2.2.2.1, .int .i64 r.2.1.2.2.2.2.1, .int .i64 r.2.1.2.2.2.2.2] :: Bf (Elt.slice E8) 33 x.1.1 x.1.2 r.2.2.1 :: Hb 77 x.2.1.1 x.2.1.2 x.2.2 r.2.2.2 :: Bb 5 x.2.2 r.2.2.2 :: hs) w' := by
 unfold ref3_Disk_Flush.impl at hr
 refine calls_T Try.func26 rfl rfl rfl hS ?_
 refine T.seq ?_
 refine T.region ?_
 refine T.assign .list rfl (wants0 rfl) rfl rfl ?_
 refine T.nil ?_
 refine T.then_normal ?_
 refine T.seq ?_
 refine T.seqJ (fun (s1 : List (List UInt8) × (List (Int × List UInt8)) × Bool × Int × Int × Int × Int × Int × Bool) (x1 : (Option Addr × Nat) × (Option Addr × Nat) × (Ads)) => [(0, .pointer (some ⟨p0, 0, none⟩)), (11, .bool s1.2.2.2.2.2.2.2.2)]) (fun s1 x1 => Cl p0 61 [.slice x1.1.1 s1.1.length x1.1.2, .slice x1.2.1.1 s1.2.1.length x1.2.1.2, .bool s1.2.2.1, .int .i64 s1.2.2.2.1, .int .u64 s1.2.2.2.2.1, .int .i64 s1.2.2.2.2.2.1, .int .i64 s1.2.2.2.2.2.2.1, .int .i64 s1.2.2.2.2.2.2.2.1] :: Bf (Elt.slice E8) 33 x1.1.1 x1.1.2 s1.1 :: Hb 77 x1.2.1.1 x1.2.1.2 x1.2.2 s1.2.1 :: Bb 5 x1.2.2 s1.2.1 :: hs) (fun s1 => ref3_Disk_Flush.k1 s1 = some r) (fun s1 x1 hk1 => ?_) (fun J1 => ?_)
 ·unfold ref3_Disk_Flush.k1 at hk1
  refine T.cond rfl (fun hb1 => ?_) (fun hb1 => ?_)
  ·replace hk1 := inv_posB hb1 hk1
   refine T.seq ?_
   refine T.region ?_
   refine T.assign .list rfl (wants0 rfl) rfl rfl ?_
   refine T.nil ?_
   refine T.then_normal ?_
   refine T.ret ?_
   refine T.then_ret ?_
   obtain rfl := inv_some hk1
   refine T.pick [0, 1, 2, 3] 4 rfl rfl (Nat.le_add_left _ _) rfl ?_
   refine T.ret1 rfl rfl (fun w hS => ⟨((x1.1.1, x1.1.2), (x1.2.1.1, x1.2.1.2), x1.2.2), rfl, hS⟩)
  ·replace hk1 := inv_negB hb1 hk1
   refine T.skip ?_
   refine T.then_normal ?_
   refine T.pick [2, 3, 0, 1] 4 rfl rfl (Nat.le_add_left _ _) (hs' := Hb 77 x1.2.1.1 x1.2.1.2 x1.2.2 s1.2.1 :: Bb 5 x1.2.2 s1.2.1 :: Cl p0 61 [.slice x1.1.1 s1.1.length x1.1.2, .slice x1.2.1.1 s1.2.1.length x1.2.1.2, .bool s1.2.2.1, .int .i64 s1.2.2.2.1, .int .u64 s1.2.2.2.2.1, .int .i64 s1.2.2.2.2.2.1, .int .i64 s1.2.2.2.2.2.2.1, .int .i64 s1.2.2.2.2.2.2.2.1] :: Bf (Elt.slice E8) 33 x1.1.1 x1.1.2 s1.1 :: hs) rfl ?_
   refine T.hbFreeze ?_
   refine T.seqJ (fun (s2 : List (List UInt8)) (x2 : (Option Addr × Nat)) => [(0, .pointer (some ⟨p0, 0, none⟩))]) (fun s2 x2 => Cl p0 61 [.slice x2.1 s2.length x2.2, .slice x1.2.1.1 s1.2.1.length x1.2.1.2, .bool s1.2.2.1, .int .i64 s1.2.2.2.1, .int .u64 s1.2.2.2.2.1, .int .i64 s1.2.2.2.2.2.1, .int .i64 s1.2.2.2.2.2.2.1, .int .i64 s1.2.2.2.2.2.2.2.1] :: Bf (Elt.slice E8) 33 x2.1 x2.2 s2 :: Bf ((Elt.pair E64 (Elt.slice E8))) 77 x1.2.1.1 x1.2.1.2 s1.2.1 :: hs) (fun s2 => ref3_Disk_Flush.k2 s1 s2 = some r) (fun s2 x2 hk2 => ?_) (fun J2 => ?_)
   ·unfold ref3_Disk_Flush.k2 at hk2
    refine T.seq ?_
    refine T.region ?_
    refine T.move .list rfl (wants0 rfl) rfl rfl ?_
    refine T.nilCheck .list rfl (wants0 rfl) rfl rfl ?_
    refine T.field .list rfl (wants0 rfl) rfl rfl ?_
    refine T.store .list 0 rfl rfl (wants0 rfl) rfl rfl rfl rfl (Nat.le_of_ble_eq_true rfl) rfl (cs' := [.slice x2.1 s2.length x2.2, .slice none 0 0, .bool s1.2.2.1, .int .i64 s1.2.2.2.1, .int .u64 s1.2.2.2.2.1, .int .i64 s1.2.2.2.2.2.1, .int .i64 s1.2.2.2.2.2.2.1, .int .i64 s1.2.2.2.2.2.2.2.1]) rfl rfl ?_
    refine T.nil ?_
    refine T.then_normal ?_
    refine T.seq ?_
    refine T.region ?_
    refine T.assign .list rfl (wants0 rfl) rfl rfl ?_
    refine T.nil ?_
    refine T.then_normal ?_
    refine T.ret ?_
    obtain rfl := inv_some hk2
    refine T.nilHb 77 5 ?_
    refine T.pick [2, 3, 0, 1] 5 rfl rfl (Nat.le_add_left _ _) rfl ?_
    refine T.ret1 rfl rfl (fun w hS => ⟨((x2.1, x2.2), (none, 0), noAds), rfl, hS⟩)
   ·refine T.seq ?_
    refine T.region ?_
    refine T.assign .list rfl (wants0 rfl) rfl rfl ?_
    refine T.nil ?_
    refine T.then_normal ?_
    refine T.block ?_
    obtain ⟨e1, hl1, hk1⟩ := inv_bind hk1
    refine T.le (EnvLe.cons rfl (EnvLe.cons rfl EnvLe.nil)) (T.pick [1, 2, 0] 3 rfl rfl (Nat.le_add_left _ _) rfl (T.loop (s0 := (s1.1, 0)) (env := fun s3 x3 => [(0, .pointer (some ⟨p0, 0, none⟩)), (3, .int .i64 s3.2)]) (hs := fun (s3 : List (List UInt8) × Int) (x3 : (Option Addr × Nat)) => Cl p0 61 [.slice x3.1 s3.1.length x3.2, .slice x1.2.1.1 s1.2.1.length x1.2.1.2, .bool s1.2.2.1, .int .i64 s1.2.2.2.1, .int .u64 s1.2.2.2.2.1, .int .i64 s1.2.2.2.2.2.1, .int .i64 s1.2.2.2.2.2.2.1, .int .i64 s1.2.2.2.2.2.2.2.1] :: Bf (Elt.slice E8) 33 x3.1 x3.2 s3.1 :: Bf ((Elt.pair E64 (Elt.slice E8))) 77 x1.2.1.1 x1.2.1.2 s1.2.1 :: hs) hl1 (x1.1.1, x1.1.2) (fun K1 s3 x3 o1 he1 hm1 hx1 => ?_)))
    unfold ref3_Disk_Flush.st1 at he1
    refine T.seq ?_
    refine T.seq ?_
    refine T.region ?_
    refine T.move .list rfl (wants0 rfl) rfl rfl ?_
    refine T.move .list rfl (wants0 rfl) rfl rfl ?_
    refine T.nilCheck .list rfl (wants0 rfl) rfl rfl ?_
    refine T.field .list rfl (wants0 rfl) rfl rfl ?_
    refine T.load .list 0 rfl rfl (wants0 rfl) rfl rfl rfl ?_
    refine T.lenSlice .list rfl (wants0 rfl) rfl rfl ?_
    refine T.bin .list rfl (wants0 rfl) rfl rfl rfl rfl ?_
    refine T.nil ?_
    refine T.then_normal ?_
    refine T.cond rfl (fun hb2 => ?_) (fun hb2 => ?_)
    ·replace he1 := inv_posB hb2 he1
     refine T.skip ?_
     refine T.then_normal ?_
     refine T.seq ?_
     refine T.block ?_
     refine T.plan [(0, 0), (1, 0), (2, 0), (4, 0), (5, 0), (6, 0), (8, 0), (12, 0), (13, 0), (14, 0), (16, 0), (3, 1), (7, 1), (9, 0), (10, 0), (11, 1), (15, 1), (17, 0), (18, 0), (19, 1), (20, 0), (21, 2)] mixed (by kernel_rfl) (by kernel_rfl) rfl (fun d _ _ _ _ h => by cases d <;> exact h) ?_
     refine T.move (.plan rfl) rfl (wants0 rfl) rfl rfl ?_
     refine T.nilCheck (.plan rfl) rfl (wants0 rfl) rfl rfl ?_
     refine T.field (.plan rfl) rfl (wants0 rfl) rfl rfl ?_
     refine T.move (.plan rfl) rfl (wants0 rfl) rfl rfl ?_
     refine T.nilCheck (.plan rfl) rfl (wants0 rfl) rfl rfl ?_
     refine T.field (.plan rfl) rfl (wants0 rfl) rfl rfl ?_
     refine T.move (.plan rfl) rfl (wants0 rfl) rfl rfl ?_
     refine T.move (.plan rfl) rfl (wants0 rfl) rfl rfl ?_
     refine T.nilCheck (.plan rfl) rfl (wants0 rfl) rfl rfl ?_
     refine T.field (.plan rfl) rfl (wants0 rfl) rfl rfl ?_
     refine T.move (.plan rfl) rfl (wants0 rfl) rfl rfl ?_
     refine T.load (.plan rfl) 0 rfl rfl (wants0 rfl) rfl rfl rfl ?_
     refine T.load (.plan rfl) 0 rfl rfl (wants0 rfl) rfl rfl rfl ?_
     obtain ⟨hc1, he1⟩ := inv_chk he1
     refine T.idxBf (.plan rfl) 2 rfl rfl (wants0 rfl) rfl rfl rfl hc1.1 hc1.2 (Nat.le_refl _) ?_
     refine T.fieldBf (.plan rfl) 2 rfl hc1.1 hc1.2 rfl (wants0 rfl) rfl rfl ?_
     refine T.fldBf 2 (.plan rfl) (Fd.fst Fd.self) rfl rfl hc1.1 hc1.2 rfl (wants0 rfl) rfl rfl rfl ?_
     refine T.load (.plan rfl) 0 rfl rfl (wants0 rfl) rfl rfl rfl ?_
     obtain ⟨hc2, he1⟩ := inv_chk he1
     refine T.idxBf (.plan rfl) 2 rfl rfl (wants0 rfl) rfl rfl rfl hc2.1 hc2.2 (Nat.le_refl _) ?_
     refine T.fieldBf (.plan rfl) 2 rfl hc2.1 hc2.2 rfl (wants0 rfl) rfl rfl ?_
     refine T.ldFBf 2 (.plan rfl) (Fd.snd Fd.self) Sh.slice rfl (.inr rfl) rfl rfl hc2.1 hc2.2 rfl (wants0 rfl) rfl rfl rfl (v := fun x4 => .slice x4.1 ((((((s1.2.1).getD (s3.2 : Int).toNat default)).2)).length) x4.2) (hs' := fun x4 => Ro E8 x4.1 x4.2 (((((s1.2.1).getD (s3.2 : Int).toNat default)).2)) :: Cl p0 61 [.slice x3.1 s3.1.length x3.2, .slice x1.2.1.1 s1.2.1.length x1.2.1.2, .bool s1.2.2.1, .int .i64 s1.2.2.2.1, .int .u64 s1.2.2.2.2.1, .int .i64 s1.2.2.2.2.2.1, .int .i64 s1.2.2.2.2.2.2.1, .int .i64 s1.2.2.2.2.2.2.2.1] :: Bf (Elt.slice E8) 33 x3.1 x3.2 s3.1 :: Bf ((Elt.pair E64 (Elt.slice E8))) 77 x1.2.1.1 x1.2.1.2 s1.2.1 :: hs) (fun _ => rfl) (fun _ => rfl) (fun x4 => ?_)
     obtain ⟨hc3, he1⟩ := inv_chk he1
     refine T.idxBf (.plan rfl) 2 rfl rfl (wants0 rfl) rfl rfl rfl hc3.1 hc3.2 (Nat.le_refl _) ?_
     refine T.stBfV (.plan rfl) 2 (z := ((((s1.2.1).getD (s3.2 : Int).toNat default)).2)) rfl rfl rfl (wants0 rfl) rfl rfl rfl (Has.slice 0 rfl rfl) hc3.1 hc3.2 rfl ?_
     refine T.planEnd ?_
     refine T.in_normal ?_
     refine T.then_normal ?_
     refine T.region ?_
     refine T.move .list rfl (wants0 rfl) rfl rfl ?_
     refine T.bin .list rfl (wants0 rfl) rfl rfl rfl rfl ?_
     refine T.assign .list rfl (wants0 rfl) rfl rfl ?_
     refine T.nil ?_
     refine T.then_normal ?_
     obtain rfl := inv_some he1
     refine T.clEq 1 (cs' := [.slice x3.1 ((((s3.1).set (((((s1.2.1).getD (s3.2 : Int).toNat default)).1) : Int).toNat ((((s1.2.1).getD (s3.2 : Int).toNat default)).2))).length) x3.2, .slice x1.2.1.1 s1.2.1.length x1.2.1.2, .bool s1.2.2.1, .int .i64 s1.2.2.2.1, .int .u64 s1.2.2.2.2.1, .int .i64 s1.2.2.2.2.2.1, .int .i64 s1.2.2.2.2.2.2.1, .int .i64 s1.2.2.2.2.2.2.2.1]) rfl (by simp only [List.length_set]) rfl ?_
     exact T.le (EnvLe.cons rfl (EnvLe.cons rfl EnvLe.nil)) (T.pick [1, 2, 3] 4 rfl rfl (Nat.le_add_left _ _) rfl (hm1 (((s3.1).set (((((s1.2.1).getD (s3.2 : Int).toNat default)).1) : Int).toNat ((((s1.2.1).getD (s3.2 : Int).toNat default)).2)), IntKind.i64.wrap (s3.2 + 1)) rfl (x3.1, x3.2)))
    ·replace he1 := inv_negB hb2 he1
     refine T.exit ?_
     refine T.then_exit ?_
     refine T.then_exit ?_
     obtain rfl := inv_some he1
     obtain rfl := hx1 _ rfl
     refine T.in_hit ?_
     refine T.then_normal ?_
     exact T.le (EnvLe.cons rfl EnvLe.nil) (T.pick [0, 1, 2] 3 rfl rfl (Nat.le_add_left _ _) rfl (J2 s3.1 (x3.1, x3.2) hk1))
 ·refine T.region ?_
  refine T.move .list rfl (wants0 rfl) rfl rfl ?_
  refine T.nilCheck .list rfl (wants0 rfl) rfl rfl ?_
  refine T.field .list rfl (wants0 rfl) rfl rfl ?_
  refine T.load .list 0 rfl rfl (wants0 rfl) rfl rfl rfl ?_
  refine T.move .list rfl (wants0 rfl) rfl rfl ?_
  refine T.bool (b := o0.1) (fun hb3 => ?_) (fun hb3 => ?_)
  ·replace hr := inv_posB hb3 hr
   refine T.leave .list (wantsNot rfl rfl rfl hb3) rfl ?_
   refine T.leave .list (wantsNot rfl rfl rfl hb3) rfl ?_
   refine T.pickT .list rfl (wants0 rfl) rfl rfl hb3 rfl ?_
   refine T.nil ?_
   refine T.then_normal ?_
   exact T.le (EnvLe.cons rfl (EnvLe.cons rfl EnvLe.nil)) (T.pick [0, 1, 2, 3] 4 rfl rfl (Nat.le_add_left _ _) rfl (J1 (q0a, q0b, o0.1, o0.2.1, o0.2.2.1, o0.2.2.2.1, o0.2.2.2.2.1, o0.2.2.2.2.2, true) ((A0a, c0a), (A0b, c0b), d0b) hr))
  ·replace hr := inv_negB hb3 hr
   refine T.move .list rfl (wants1 rfl rfl rfl hb3) rfl rfl ?_
   refine T.pick [0, 1, 2, 3] 4 rfl rfl (Nat.le_add_left _ _) (hs' := Cl p0 61 [.slice A0a q0a.length c0a, .slice A0b q0b.length c0b, .bool o0.1, .int .i64 o0.2.1, .int .u64 o0.2.2.1, .int .i64 o0.2.2.2.1, .int .i64 o0.2.2.2.2.1, .int .i64 o0.2.2.2.2.2] :: Bf (Elt.slice E8) 33 A0a c0a q0a :: Hb 77 A0b c0b d0b q0b :: Bb 5 d0b q0b :: hs) rfl ?_
   obtain ⟨r1, hg1, hr⟩ := inv_bind hr
   refine T.call .list (wants1 rfl rfl rfl hb3) rfl (run_callF (vs := [_]) rfl Try.func37 rfl (by decide) rfl) (fun w hS => ref3_Disk_now.c hS (o0 := (o0.1, o0.2.1, o0.2.2.1, o0.2.2.2.1, o0.2.2.2.2.1, o0.2.2.2.2.2)) (q0a := q0a) (q0b := q0b)  hg1) (fun x5 => ?_)
   refine T.pickF .list rfl (wants0 rfl) rfl rfl hb3 rfl ?_
   refine T.nil ?_
   refine T.then_normal ?_
   exact T.le (EnvLe.cons rfl (EnvLe.cons rfl EnvLe.nil)) (T.pick [0, 1, 2, 3] 4 rfl rfl (Nat.le_add_left _ _) rfl (J1 (r1.2.2.1, r1.2.2.2, r1.2.1.1, r1.2.1.2.1, r1.2.1.2.2.1, r1.2.1.2.2.2.1, r1.2.1.2.2.2.2.1, r1.2.1.2.2.2.2.2, r1.1) ((x5.1.1, x5.1.2), (x5.2.1.1, x5.2.1.2), x5.2.2) hr))

noncomputable def ref3_Disk_Read.k2 (s2 : List UInt8) : Option (List UInt8 × Int) :=
  (ref3_full.impl s2).bind fun r1 => some (r1, 0)
noncomputable def ref3_Disk_Read.k3 (s3 : List UInt8 × Int) (s4 : List UInt8) : Option ((List UInt8 × Int) ⊕ (List UInt8)) :=
  some (.inl (s4, IntKind.i64.wrap (s3.2 + 1)))
noncomputable def ref3_Disk_Read.st1 (q0b : List (Int × List UInt8)) (a1 : Int) (s3 : List UInt8 × Int) : Option ((List UInt8 × Int) ⊕ (List UInt8)) :=
  (if ((decide (s3.2 < ((q0b.length : Int))))) = true then chk (0 ≤ s3.2 ∧ s3.2 < (q0b.length : Int)) ((if ((decide (((((((q0b).getD (s3.2 : Int).toNat default)).1))) = a1))) = true then chk (0 ≤ s3.2 ∧ s3.2 < (q0b.length : Int)) (ref3_Disk_Read.k3 s3 ((((q0b).getD (s3.2 : Int).toNat default)).2)) else ref3_Disk_Read.k3 s3 s3.1)) else some (.inr s3.1))
noncomputable def ref3_Disk_Read.k1 (a1 : Int) (q0a : List (List UInt8)) (q0b : List (Int × List UInt8)) (s1 : Bool) : Option (List UInt8 × Int) :=
  (if s1 = true then some (([] : List UInt8), 1) else chk (0 ≤ a1 ∧ a1 < (q0a.length : Int)) ((loop (ref3_Disk_Read.st1 q0b a1) ((((q0a).getD (a1 : Int).toNat default)), 0)).bind (fun e1 => ref3_Disk_Read.k2 e1)))
noncomputable def ref3_Disk_Read.impl (o0 : Bool × Int × Int × Int × Int × Int) (q0a : List (List UInt8)) (q0b : List (Int × List UInt8)) (a1 : Int) : Option (List UInt8 × Int) :=
  (if o0.1 = true then some (([] : List UInt8), 20) else (if ((decide (a1 < 0))) = true then ref3_Disk_Read.k1 a1 q0a q0b true else ref3_Disk_Read.k1 a1 q0a q0b (decide ((((q0a.length : Int))) ≤ a1))))
set_option maxRecDepth 100000 in
set_option maxHeartbeats 4000000 in
theorem ref3_Disk_Read.c {B : World} {hs : List MP} {w : World} {p0 : Nat} {o0 : Bool × Int × Int × Int × Int × Int} {c0a : Nat} {A0a : Option Addr} {q0a : List (List UInt8)} {c0b : Nat} {A0b : Option Addr} {d0b : Ads} {q0b : List (Int × List UInt8)} {a1 : Int} (hS : St B (Cl p0 61 [.slice A0a q0a.length c0a, .slice A0b q0b.length c0b, .bool o0.1, .int .i64 o0.2.1, .int .u64 o0.2.2.1, .int .i64 o0.2.2.2.1, .int .i64 o0.2.2.2.2.1, .int .i64 o0.2.2.2.2.2] :: Bf (Elt.slice E8) 33 A0a c0a q0a :: Hb 77 A0b c0b d0b q0b :: Bb 5 d0b q0b :: hs) w) {r : List UInt8 × Int} (hr : ref3_Disk_Read.impl o0 q0a q0b a1 = some r) :
    Calls Try.prog 30 #[.pointer (some ⟨p0, 0, none⟩), .int .i64 a1] w fun e w' => ∃ x : (Option Addr × Nat), e = .returned (.tuple #[.slice x.1 r.1.length x.2, .int .i64 r.2]) ∧ St B (Bf E8 5 x.1 x.2 r.1 :: Cl p0 61 [.slice A0a q0a.length c0a, .slice A0b q0b.length c0b, .bool o0.1, .int .i64 o0.2.1, .int .u64 o0.2.2.1, .int .i64 o0.2.2.2.1, .int .i64 o0.2.2.2.2.1, .int .i64 o0.2.2.2.2.2] :: Bf (Elt.slice E8) 33 A0a c0a q0a :: Hb 77 A0b c0b d0b q0b :: Bb 5 d0b q0b :: hs) w' := by
 unfold ref3_Disk_Read.impl at hr
 refine calls_T Try.func30 rfl rfl rfl hS ?_
 refine T.seq ?_
 refine T.region ?_
 refine T.assign .list rfl (wants0 rfl) rfl rfl ?_
 refine T.assign .list rfl (wants0 rfl) rfl rfl ?_
 refine T.nil ?_
 refine T.then_normal ?_
 refine T.seq ?_
 refine T.block ?_
 refine T.seq ?_
 refine T.region ?_
 refine T.move .list rfl (wants0 rfl) rfl rfl ?_
 refine T.nilCheck .list rfl (wants0 rfl) rfl rfl ?_
 refine T.field .list rfl (wants0 rfl) rfl rfl ?_
 refine T.load .list 0 rfl rfl (wants0 rfl) rfl rfl rfl ?_
 refine T.assign .list rfl (wants0 rfl) rfl rfl ?_
 refine T.nil ?_
 refine T.then_normal ?_
 refine T.cond rfl (fun hb1 => ?_) (fun hb1 => ?_)
 ·replace hr := inv_posB hb1 hr
  refine T.seq ?_
  refine T.region ?_
  refine T.assign .list rfl (wants0 rfl) rfl rfl ?_
  refine T.assign .list rfl (wants0 rfl) rfl rfl ?_
  refine T.nil ?_
  refine T.then_normal ?_
  refine T.ret ?_
  refine T.in_ret ?_
  refine T.then_ret ?_
  obtain rfl := inv_some hr
  refine T.nilBf E8 5 ?_
  refine T.pick [0, 1, 2, 3, 4] 5 rfl rfl (Nat.le_add_left _ _) rfl ?_
  refine T.ret2 rfl rfl rfl (fun w hS => ⟨(none, 0), rfl, hS⟩)
 ·replace hr := inv_negB hb1 hr
  refine T.seqJ (fun (s1 : Bool) (x1 : Unit) => [(0, .pointer (some ⟨p0, 0, none⟩)), (1, .int .i64 a1), (13, .bool s1)]) (fun s1 x1 => Cl p0 61 [.slice A0a q0a.length c0a, .slice A0b q0b.length c0b, .bool o0.1, .int .i64 o0.2.1, .int .u64 o0.2.2.1, .int .i64 o0.2.2.2.1, .int .i64 o0.2.2.2.2.1, .int .i64 o0.2.2.2.2.2] :: Bf (Elt.slice E8) 33 A0a c0a q0a :: Hb 77 A0b c0b d0b q0b :: Bb 5 d0b q0b :: hs) (fun s1 => ref3_Disk_Read.k1 a1 q0a q0b s1 = some r) (fun s1 x1 hk1 => ?_) (fun J1 => ?_)
  ·unfold ref3_Disk_Read.k1 at hk1
   refine T.cond rfl (fun hb2 => ?_) (fun hb2 => ?_)
   ·replace hk1 := inv_posB hb2 hk1
    refine T.seq ?_
    refine T.region ?_
    refine T.assign .list rfl (wants0 rfl) rfl rfl ?_
    refine T.assign .list rfl (wants0 rfl) rfl rfl ?_
    refine T.nil ?_
    refine T.then_normal ?_
    refine T.ret ?_
    refine T.in_ret ?_
    refine T.then_ret ?_
    obtain rfl := inv_some hk1
    refine T.nilBf E8 5 ?_
    refine T.pick [0, 1, 2, 3, 4] 5 rfl rfl (Nat.le_add_left _ _) rfl ?_
    refine T.ret2 rfl rfl rfl (fun w hS => ⟨(none, 0), rfl, hS⟩)
   ·replace hk1 := inv_negB hb2 hk1
    refine T.skip ?_
    refine T.in_normal ?_
    refine T.then_normal ?_
    refine T.seq ?_
    refine T.region ?_
    refine T.move .list rfl (wants0 rfl) rfl rfl ?_
    refine T.nilCheck .list rfl (wants0 rfl) rfl rfl ?_
    refine T.field .list rfl (wants0 rfl) rfl rfl ?_
    refine T.load .list 0 rfl rfl (wants0 rfl) rfl rfl rfl ?_
    refine T.move .list rfl (wants0 rfl) rfl rfl ?_
    obtain ⟨hc1, hk1⟩ := inv_chk hk1
    refine T.idxBf .list 1 rfl rfl (wants0 rfl) rfl rfl rfl hc1.1 hc1.2 (Nat.le_refl _) ?_
    refine T.ldFBf 1 .list Fd.self Sh.slice rfl (.inr rfl) rfl rfl hc1.1 hc1.2 rfl (wants0 rfl) rfl rfl rfl (v := fun x2 => .slice x2.1 (((((q0a).getD (a1 : Int).toNat default))).length) x2.2) (hs' := fun x2 => Ro E8 x2.1 x2.2 ((((q0a).getD (a1 : Int).toNat default))) :: Cl p0 61 [.slice A0a q0a.length c0a, .slice A0b q0b.length c0b, .bool o0.1, .int .i64 o0.2.1, .int .u64 o0.2.2.1, .int .i64 o0.2.2.2.1, .int .i64 o0.2.2.2.2.1, .int .i64 o0.2.2.2.2.2] :: Bf (Elt.slice E8) 33 A0a c0a q0a :: Hb 77 A0b c0b d0b q0b :: Bb 5 d0b q0b :: hs) (fun _ => rfl) (fun _ => rfl) (fun x2 => ?_)
    refine T.assign .list rfl (wants0 rfl) rfl rfl ?_
    refine T.nil ?_
    refine T.then_normal ?_
    refine T.lend (ros := [Ro E8 x2.1 x2.2 ((((q0a).getD (a1 : Int).toNat default))), Rc p0 61 [.slice A0a q0a.length c0a, .slice A0b q0b.length c0b, .bool o0.1, .int .i64 o0.2.1, .int .u64 o0.2.2.1, .int .i64 o0.2.2.2.1, .int .i64 o0.2.2.2.2.1, .int .i64 o0.2.2.2.2.2], Ro (Elt.slice E8) A0a c0a q0a, Ro ((Elt.pair E64 (Elt.slice E8))) A0b c0b q0b]) (fun w hS => (Ros.cons (hS.roRo 0 rfl) (Ros.cons (hS.rcCl 1 rfl) (Ros.cons (hS.roBf 2 rfl rfl) (Ros.cons (St.roHb (U := 5) (ads := d0b) (hS.pick [3, 4] 5 rfl rfl (Nat.le_add_left _ _) rfl)) Ros.nil))))) (fun w0 hs hs0 hS0 => ?_)
    refine T.seqJ (fun (s2 : List UInt8) (x3 : (Option Addr × Nat)) => [(6, .slice x3.1 s2.length x3.2)]) (fun s2 x3 => Ro E8 x3.1 x3.2 s2 :: hs) (fun s2 => ref3_Disk_Read.k2 s2 = some r) (fun s2 x3 hk2 => ?_) (fun J2 => ?_)
    ·unfold ref3_Disk_Read.k2 at hk2
     refine T.seq ?_
     refine T.region ?_
     refine T.move .list rfl (wants0 rfl) rfl rfl ?_
     obtain ⟨r1, hg1, hk2⟩ := inv_bind hk2
     refine T.call .list (wants0 rfl) rfl (run_callF (vs := [_]) rfl Try.func38 rfl (by decide) rfl) (fun w hS => ref3_full.c hS (i0 := 0) rfl hg1) (fun x4 => ?_)
     refine T.assign .list rfl (wants0 rfl) rfl rfl ?_
     refine T.assign .list rfl (wants0 rfl) rfl rfl ?_
     refine T.nil ?_
     refine T.then_normal ?_
     refine T.ret ?_
     obtain rfl := inv_some hk2
     refine T.ret2 rfl rfl rfl (fun w hS => ⟨(x4.1, x4.2), rfl, (hS0.unborrow (post := [Bf E8 5 x4.1 x4.2 r1]) (hS.pick [0] 2 rfl rfl (Nat.le_add_left _ _) rfl) (Frees.cons (Bf.free .sc) Frees.nil)).pick [0, 2, 3, 4, 5] 6 rfl rfl (Nat.le_add_left _ _) rfl⟩)
    ·refine T.seq ?_
     refine T.region ?_
     refine T.assign .list rfl (wants0 rfl) rfl rfl ?_
     refine T.nil ?_
     refine T.then_normal ?_
     refine T.block ?_
     obtain ⟨e1, hl1, hk1⟩ := inv_bind hk1
     refine T.le (EnvLe.cons rfl (EnvLe.cons rfl (EnvLe.cons rfl (EnvLe.cons rfl EnvLe.nil)))) (T.pick [1, 2, 3, 0] 4 rfl rfl (Nat.le_add_left _ _) rfl (T.loop (s0 := ((((q0a).getD (a1 : Int).toNat default)), 0)) (env := fun s3 x5 => [(0, .pointer (some ⟨p0, 0, none⟩)), (1, .int .i64 a1), (6, .slice x5.1 s3.1.length x5.2), (7, .int .i64 s3.2)]) (hs := fun (s3 : List UInt8 × Int) (x5 : (Option Addr × Nat)) => Rc p0 61 [.slice A0a q0a.length c0a, .slice A0b q0b.length c0b, .bool o0.1, .int .i64 o0.2.1, .int .u64 o0.2.2.1, .int .i64 o0.2.2.2.1, .int .i64 o0.2.2.2.2.1, .int .i64 o0.2.2.2.2.2] :: Ro (Elt.slice E8) A0a c0a q0a :: Ro ((Elt.pair E64 (Elt.slice E8))) A0b c0b q0b :: Ro E8 x5.1 x5.2 s3.1 :: hs) hl1 (x2.1, x2.2) (fun K1 s3 x5 o1 he1 hm1 hx1 => ?_)))
     unfold ref3_Disk_Read.st1 at he1
     refine T.seq ?_
     refine T.seq ?_
     refine T.region ?_
     refine T.move .list rfl (wants0 rfl) rfl rfl ?_
     refine T.move .list rfl (wants0 rfl) rfl rfl ?_
     refine T.nilCheck .list rfl (wants0 rfl) rfl rfl ?_
     refine T.field .list rfl (wants0 rfl) rfl rfl ?_
     refine T.loadRc .list 0 rfl rfl (wants0 rfl) rfl rfl rfl rfl ?_
     refine T.lenSlice .list rfl (wants0 rfl) rfl rfl ?_
     refine T.bin .list rfl (wants0 rfl) rfl rfl rfl rfl ?_
     refine T.nil ?_
     refine T.then_normal ?_
     refine T.cond rfl (fun hb3 => ?_) (fun hb3 => ?_)
     ·replace he1 := inv_posB hb3 he1
      refine T.skip ?_
      refine T.then_normal ?_
      refine T.seqJ (fun (s4 : List UInt8) (x6 : (Option Addr × Nat)) => [(0, .pointer (some ⟨p0, 0, none⟩)), (1, .int .i64 a1), (6, .slice x6.1 s4.length x6.2), (7, .int .i64 s3.2)]) (fun s4 x6 => Rc p0 61 [.slice A0a q0a.length c0a, .slice A0b q0b.length c0b, .bool o0.1, .int .i64 o0.2.1, .int .u64 o0.2.2.1, .int .i64 o0.2.2.2.1, .int .i64 o0.2.2.2.2.1, .int .i64 o0.2.2.2.2.2] :: Ro (Elt.slice E8) A0a c0a q0a :: Ro ((Elt.pair E64 (Elt.slice E8))) A0b c0b q0b :: Ro E8 x6.1 x6.2 s4 :: hs) (fun s4 => ref3_Disk_Read.k3 s3 s4 = some o1) (fun s4 x6 hk3 => ?_) (fun J3 => ?_)
      ·unfold ref3_Disk_Read.k3 at hk3
       refine T.region ?_
       refine T.move .list rfl (wants0 rfl) rfl rfl ?_
       refine T.bin .list rfl (wants0 rfl) rfl rfl rfl rfl ?_
       refine T.assign .list rfl (wants0 rfl) rfl rfl ?_
       refine T.nil ?_
       refine T.then_normal ?_
       obtain rfl := inv_some hk3
       exact T.le (EnvLe.cons rfl (EnvLe.cons rfl (EnvLe.cons rfl (EnvLe.cons rfl EnvLe.nil)))) (T.pick [0, 1, 2, 3] 4 rfl rfl (Nat.le_add_left _ _) rfl (hm1 (s4, IntKind.i64.wrap (s3.2 + 1)) rfl (x6.1, x6.2)))
      ·refine T.block ?_
       refine T.seq ?_
       refine T.region ?_
       refine T.move .list rfl (wants0 rfl) rfl rfl ?_
       refine T.nilCheck .list rfl (wants0 rfl) rfl rfl ?_
       refine T.field .list rfl (wants0 rfl) rfl rfl ?_
       refine T.loadRc .list 0 rfl rfl (wants0 rfl) rfl rfl rfl rfl ?_
       refine T.move .list rfl (wants0 rfl) rfl rfl ?_
       obtain ⟨hc2, he1⟩ := inv_chk he1
       refine T.idxRo .list 2 rfl rfl (wants0 rfl) rfl rfl rfl hc2.1 hc2.2 (Nat.le_refl _) ?_
       refine T.fieldRo .list 2 rfl hc2.1 hc2.2 rfl (wants0 rfl) rfl rfl ?_
       refine T.fldRo 2 .list (Fd.fst Fd.self) rfl rfl hc2.1 hc2.2 rfl (wants0 rfl) rfl rfl rfl ?_
       refine T.move .list rfl (wants0 rfl) rfl rfl ?_
       refine T.bin .list rfl (wants0 rfl) rfl rfl rfl rfl ?_
       refine T.nil ?_
       refine T.then_normal ?_
       refine T.cond rfl (fun hb4 => ?_) (fun hb4 => ?_)
       ·replace he1 := inv_posB hb4 he1
        refine T.region ?_
        refine T.move .list rfl (wants0 rfl) rfl rfl ?_
        refine T.nilCheck .list rfl (wants0 rfl) rfl rfl ?_
        refine T.field .list rfl (wants0 rfl) rfl rfl ?_
        refine T.loadRc .list 0 rfl rfl (wants0 rfl) rfl rfl rfl rfl ?_
        refine T.move .list rfl (wants0 rfl) rfl rfl ?_
        obtain ⟨hc3, he1⟩ := inv_chk he1
        refine T.idxRo .list 2 rfl rfl (wants0 rfl) rfl rfl rfl hc3.1 hc3.2 (Nat.le_refl _) ?_
        refine T.fieldRo .list 2 rfl hc3.1 hc3.2 rfl (wants0 rfl) rfl rfl ?_
        refine T.ldFRo 2 .list (Fd.snd Fd.self) Sh.slice rfl (.inr rfl) rfl rfl hc3.1 hc3.2 rfl (wants0 rfl) rfl rfl rfl (v := fun x7 => .slice x7.1 ((((((q0b).getD (s3.2 : Int).toNat default)).2)).length) x7.2) (hs' := fun x7 => Ro E8 x7.1 x7.2 (((((q0b).getD (s3.2 : Int).toNat default)).2)) :: Rc p0 61 [.slice A0a q0a.length c0a, .slice A0b q0b.length c0b, .bool o0.1, .int .i64 o0.2.1, .int .u64 o0.2.2.1, .int .i64 o0.2.2.2.1, .int .i64 o0.2.2.2.2.1, .int .i64 o0.2.2.2.2.2] :: Ro (Elt.slice E8) A0a c0a q0a :: Ro ((Elt.pair E64 (Elt.slice E8))) A0b c0b q0b :: Ro E8 x5.1 x5.2 s3.1 :: hs) (fun _ => rfl) (fun _ => rfl) (fun x7 => ?_)
        refine T.assign .list rfl (wants0 rfl) rfl rfl ?_
        refine T.nil ?_
        refine T.in_normal ?_
        refine T.then_normal ?_
        exact T.le (EnvLe.cons rfl (EnvLe.cons rfl (EnvLe.cons rfl (EnvLe.cons rfl EnvLe.nil)))) (T.pick [1, 2, 3, 0] 5 rfl rfl (Nat.le_add_left _ _) rfl (J3 ((((q0b).getD (s3.2 : Int).toNat default)).2) (x7.1, x7.2) he1))
       ·replace he1 := inv_negB hb4 he1
        refine T.skip ?_
        refine T.in_normal ?_
        refine T.then_normal ?_
        exact T.le (EnvLe.cons rfl (EnvLe.cons rfl (EnvLe.cons rfl (EnvLe.cons rfl EnvLe.nil)))) (T.pick [0, 1, 2, 3] 4 rfl rfl (Nat.le_add_left _ _) rfl (J3 s3.1 (x5.1, x5.2) he1))
     ·replace he1 := inv_negB hb3 he1
      refine T.exit ?_
      refine T.then_exit ?_
      refine T.then_exit ?_
      obtain rfl := inv_some he1
      obtain rfl := hx1 _ rfl
      refine T.in_hit ?_
      refine T.then_normal ?_
      exact T.le (EnvLe.cons rfl EnvLe.nil) (T.pick [3] 4 rfl rfl (Nat.le_add_left _ _) rfl (J2 s3.1 (x5.1, x5.2) hk1))
  ·refine T.region ?_
   refine T.move .list rfl (wants0 rfl) rfl rfl ?_
   refine T.bin .list rfl (wants0 rfl) rfl rfl rfl rfl ?_
   refine T.move .list rfl (wants0 rfl) rfl rfl ?_
   refine T.bool (b := (decide (a1 < 0))) (fun hb5 => ?_) (fun hb5 => ?_)
   ·replace hr := inv_posB hb5 hr
    refine T.leave .list (wantsNot rfl rfl rfl hb5) rfl ?_
    refine T.leave .list (wantsNot rfl rfl rfl hb5) rfl ?_
    refine T.leave .list (wantsNot rfl rfl rfl hb5) rfl ?_
    refine T.leave .list (wantsNot rfl rfl rfl hb5) rfl ?_
    refine T.leave .list (wantsNot rfl rfl rfl hb5) rfl ?_
    refine T.leave .list (wantsNot rfl rfl rfl hb5) rfl ?_
    refine T.leave .list (wantsNot rfl rfl rfl hb5) rfl ?_
    refine T.pickT .list rfl (wants0 rfl) rfl rfl hb5 rfl ?_
    refine T.assign .list rfl (wants0 rfl) rfl rfl ?_
    refine T.nil ?_
    refine T.then_normal ?_
    exact T.le (EnvLe.cons rfl (EnvLe.cons rfl (EnvLe.cons rfl EnvLe.nil))) (T.pick [0, 1, 2, 3] 4 rfl rfl (Nat.le_add_left _ _) rfl (J1 true () hr))
   ·replace hr := inv_negB hb5 hr
    refine T.move .list rfl (wants1 rfl rfl rfl hb5) rfl rfl ?_
    refine T.move .list rfl (wants1 rfl rfl rfl hb5) rfl rfl ?_
    refine T.nilCheck .list rfl (wants1 rfl rfl rfl hb5) rfl rfl ?_
    refine T.field .list rfl (wants1 rfl rfl rfl hb5) rfl rfl ?_
    refine T.load .list 0 rfl rfl (wants1 rfl rfl rfl hb5) rfl rfl rfl ?_
    refine T.lenSlice .list rfl (wants1 rfl rfl rfl hb5) rfl rfl ?_
    refine T.bin .list rfl (wants1 rfl rfl rfl hb5) rfl rfl rfl rfl ?_
    refine T.pickF .list rfl (wants0 rfl) rfl rfl hb5 rfl ?_
    refine T.assign .list rfl (wants0 rfl) rfl rfl ?_
    refine T.nil ?_
    refine T.then_normal ?_
    exact T.le (EnvLe.cons rfl (EnvLe.cons rfl (EnvLe.cons rfl EnvLe.nil))) (T.pick [0, 1, 2, 3] 4 rfl rfl (Nat.le_add_left _ _) rfl (J1 (decide ((((q0a.length : Int))) ≤ a1)) () hr))

noncomputable def ref3_Disk_Arm.impl (o0 : Bool × Int × Int × Int × Int × Int) (q0a : List (List UInt8)) (q0b : List (Int × List UInt8)) (a1 : Int × Int × Int × Int) : Option ((Bool × Int × Int × Int × Int × Int)) :=
  (if ((!o0.1)) = true then some (o0.1, a1.1, a1.2.1, a1.2.2.1, a1.2.2.2, o0.2.2.2.2.2) else some (o0.1, o0.2.1, o0.2.2.1, o0.2.2.2.1, o0.2.2.2.2.1, o0.2.2.2.2.2))
set_option maxRecDepth 100000 in
set_option maxHeartbeats 4000000 in
theorem ref3_Disk_Arm.c {B : World} {hs : List MP} {w : World} {p0 : Nat} {o0 : Bool × Int × Int × Int × Int × Int} {c0a : Nat} {A0a : Option Addr} {q0a : List (List UInt8)} {c0b : Nat} {A0b : Option Addr} {d0b : Ads} {q0b : List (Int × List UInt8)} {a1 : Int × Int × Int × Int} (hS : St B (Cl p0 61 [.slice A0a q0a.length c0a, .slice A0b q0b.length c0b, .bool o0.1, .int .i64 o0.2.1, .int .u64 o0.2.2.1, .int .i64 o0.2.2.2.1, .int .i64 o0.2.2.2.2.1, .int .i64 o0.2.2.2.2.2] :: Bf (Elt.slice E8) 33 A0a c0a q0a :: Hb 77 A0b c0b d0b q0b :: Bb 5 d0b q0b :: hs) w) {r : (Bool × Int × Int × Int × Int × Int)} (hr : ref3_Disk_Arm.impl o0 q0a q0b a1 = some r) :
    Calls Try.prog 27 #[.pointer (some ⟨p0, 0, none⟩), .agg #[.int .i64 a1.1, .int .u64 a1.2.1, .int .i64 a1.2.2.1, .int .i64 a1.2.2.2]] w fun e w' => ∃ x : Unit, e = .returned (.tuple #[]) ∧ St B (Cl p0 61 [.slice A0a q0a.length c0a, .slice A0b q0b.length c0b, .bool r.1, .int .i64 r.2.1, .int .u64 r.2.2.1, .int .i64 r.2.2.2.1, .int .i64 r.2.2.2.2.1, .int .i64 r.2.2.2.2.2] :: Bf (Elt.slice E8) 33 A0a c0a q0a :: Hb 77 A0b c0b d0b q0b :: Bb 5 d0b q0b :: hs) w' := by
 unfold ref3_Disk_Arm.impl at hr
 refine calls_T Try.func27 rfl rfl rfl hS ?_
 refine T.seq ?_
 refine T.region ?_
 refine T.boxS .list rfl (wants0 rfl) rfl rfl (cs := [.int .i64 a1.1, .int .u64 a1.2.1, .int .i64 a1.2.2.1, .int .i64 a1.2.2.2]) rfl (fun b1 => ?_)
 refine T.nil ?_
 refine T.then_normal ?_
 refine T.seq ?_
 refine T.region ?_
 refine T.move .list rfl (wants0 rfl) rfl rfl ?_
 refine T.nilCheck .list rfl (wants0 rfl) rfl rfl ?_
 refine T.field .list rfl (wants0 rfl) rfl rfl ?_
 refine T.load .list 1 rfl rfl (wants0 rfl) rfl rfl rfl ?_
 refine T.not .list rfl (wants0 rfl) rfl rfl ?_
 refine T.nil ?_
 refine T.then_normal ?_
 refine T.cond rfl (fun hb1 => ?_) (fun hb1 => ?_)
 ·replace hr := inv_posB hb1 hr
  refine T.region ?_
  refine T.move .list rfl (wants0 rfl) rfl rfl ?_
  refine T.loadN .list 0 rfl rfl (wants0 rfl) rfl rfl (vs := [.int .i64 a1.1, .int .u64 a1.2.1, .int .i64 a1.2.2.1, .int .i64 a1.2.2.2]) rfl rfl ?_
  refine T.nilCheck .list rfl (wants0 rfl) rfl rfl ?_
  refine T.field .list rfl (wants0 rfl) rfl rfl ?_
  refine T.store .list 1 rfl rfl (wants0 rfl) rfl rfl rfl rfl (Nat.le_of_ble_eq_true rfl) rfl (cs' := [.slice A0a q0a.length c0a, .slice A0b q0b.length c0b, .bool o0.1, .int .i64 a1.1, .int .u64 a1.2.1, .int .i64 a1.2.2.1, .int .i64 a1.2.2.2, .int .i64 o0.2.2.2.2.2]) rfl rfl ?_
  refine T.nil ?_
  obtain rfl := inv_some hr
  refine T.pick [1, 2, 3, 4] 5 rfl rfl (Nat.le_add_left _ _) rfl ?_
  refine T.end0 rfl (fun w hS => ⟨(), rfl, hS⟩)
 ·replace hr := inv_negB hb1 hr
  refine T.skip ?_
  obtain rfl := inv_some hr
  refine T.pick [1, 2, 3, 4] 5 rfl rfl (Nat.le_add_left _ _) rfl ?_
  refine T.end0 rfl (fun w hS => ⟨(), rfl, hS⟩)

noncomputable def ref3_Disk_Cut.impl (o0 : Bool × Int × Int × Int × Int × Int) (q0a : List (List UInt8)) (q0b : List (Int × List UInt8)) (a1 : Int × Int × Int × Int) : Option ((Bool × Int × Int × Int × Int × Int) × List (List UInt8) × (List (Int × List UInt8))) :=
  (if ((!o0.1)) = true then (ref3_Disk_lose.impl ((o0.1, o0.2.1, o0.2.2.1, o0.2.2.2.1, o0.2.2.2.2.1, o0.2.2.2.2.2)) q0a q0b ((a1.1, a1.2.1, a1.2.2.1, a1.2.2.2))).bind fun r1 => some ((r1.1.1, r1.1.2.1, r1.1.2.2.1, r1.1.2.2.2.1, r1.1.2.2.2.2.1, r1.1.2.2.2.2.2), r1.2.1, r1.2.2) else some ((o0.1, o0.2.1, o0.2.2.1, o0.2.2.2.1, o0.2.2.2.2.1, o0.2.2.2.2.2), q0a, q0b))
set_option maxRecDepth 100000 in
set_option maxHeartbeats 4000000 in
theorem ref3_Disk_Cut.c {B : World} {hs : List MP} {w : World} {p0 : Nat} {o0 : Bool × Int × Int × Int × Int × Int} {c0a : Nat} {A0a : Option Addr} {q0a : List (List UInt8)} {c0b : Nat} {A0b : Option Addr} {d0b : Ads} {q0b : List (Int × List UInt8)} {a1 : Int × Int × Int × Int} (hS : St B (Cl p0 61 [.slice A0a q0a.length c0a, .slice A0b q0b.length c0b, .bool o0.1, .int .i64 o0.2.1, .int .u64 o0.2.2.1, .int .i64 o0.2.2.2.1, .int .i64 o0.2.2.2.2.1, .int .i64 o0.2.2.2.2.2] :: Bf (Elt.slice E8) 33 A0a c0a q0a :: Hb 77 A0b c0b d0b q0b :: Bb 5 d0b q0b :: hs) w) {r : (Bool × Int × Int × Int × Int × Int) × List (List UInt8) × (List (Int × List UInt8))} (hr : ref3_Disk_Cut.impl o0 q0a q0b a1 = some r) :
    Calls Try.prog 28 #[.pointer (some ⟨p0, 0, none⟩), .agg #[.int .i64 a1.1, .int .u64 a1.2.1, .int .i64 a1.2.2.1, .int .i64 a1.2.2.2]] w fun e w' => ∃ x : (Option Addr × Nat) × (Option Addr × Nat) × (Ads), e = .returned (.tuple #[]) ∧ St B (Cl p0 61 [.slice x.1.1 r.2.1.length x.1.2, .slice x.2.1.1 r.2.2.length x.2.1.2, .bool r.1.1, .int .i64 r.1.2.1, .int .u64 r.1.2.2.1, .int .i64 r.1.2.2.2.1, .int .i64 r.1.2.2.2.2.1, .int .i64 r.1.2.2.2.2.2] :: Bf (Elt.slice E8) 33 x.1.1 x.1.2 r.2.1 :: Hb 77 x.2.1.1 x.2.1.2 x.2.2 r.2.2 :: Bb 5 x.2.2 r.2.2 :: hs) w' := by
 unfold ref3_Disk_Cut.impl at hr
 refine calls_T Try.func28 rfl rfl rfl hS ?_
 refine T.seq ?_
 refine T.region ?_
 refine T.boxS .list rfl (wants0 rfl) rfl rfl (cs := [.int .i64 a1.1, .int .u64 a1.2.1, .int .i64 a1.2.2.1, .int .i64 a1.2.2.2]) rfl (fun b1 => ?_)
 refine T.nil ?_
 refine T.then_normal ?_
 refine T.seq ?_
 refine T.region ?_
 refine T.move .list rfl (wants0 rfl) rfl rfl ?_
 refine T.nilCheck .list rfl (wants0 rfl) rfl rfl ?_
 refine T.field .list rfl (wants0 rfl) rfl rfl ?_
 refine T.load .list 1 rfl rfl (wants0 rfl) rfl rfl rfl ?_
 refine T.not .list rfl (wants0 rfl) rfl rfl ?_
 refine T.nil ?_
 refine T.then_normal ?_
 refine T.cond rfl (fun hb1 => ?_) (fun hb1 => ?_)
 ·replace hr := inv_posB hb1 hr
  refine T.region ?_
  refine T.move .list rfl (wants0 rfl) rfl rfl ?_
  refine T.loadN .list 0 rfl rfl (wants0 rfl) rfl rfl (vs := [.int .i64 a1.1, .int .u64 a1.2.1, .int .i64 a1.2.2.1, .int .i64 a1.2.2.2]) rfl rfl ?_
  refine T.pick [1, 2, 3, 4, 0] 5 rfl rfl (Nat.le_add_left _ _) (hs' := Cl p0 61 [.slice A0a q0a.length c0a, .slice A0b q0b.length c0b, .bool o0.1, .int .i64 o0.2.1, .int .u64 o0.2.2.1, .int .i64 o0.2.2.2.1, .int .i64 o0.2.2.2.2.1, .int .i64 o0.2.2.2.2.2] :: Bf (Elt.slice E8) 33 A0a c0a q0a :: Hb 77 A0b c0b d0b q0b :: Bb 5 d0b q0b :: Cl b1 25 [.int .i64 a1.1, .int .u64 a1.2.1, .int .i64 a1.2.2.1, .int .i64 a1.2.2.2] :: hs) rfl ?_
  obtain ⟨r1, hg1, hr⟩ := inv_bind hr
  refine T.call .list (wants0 rfl) rfl (run_callF (vs := [_, _]) rfl Try.func39 rfl (by decide) rfl) (fun w hS => ref3_Disk_lose.c hS (o0 := (o0.1, o0.2.1, o0.2.2.1, o0.2.2.2.1, o0.2.2.2.2.1, o0.2.2.2.2.2)) (q0a := q0a) (q0b := q0b) (a1 := (a1.1, a1.2.1, a1.2.2.1, a1.2.2.2))  hg1) (fun x1 => ?_)
  refine T.nil ?_
  obtain rfl := inv_some hr
  refine T.pick [0, 1, 2, 3] 5 rfl rfl (Nat.le_add_left _ _) rfl ?_
  refine T.end0 rfl (fun w hS => ⟨((x1.1.1, x1.1.2), (x1.2.1.1, x1.2.1.2), x1.2.2), rfl, hS⟩)
 ·replace hr := inv_negB hb1 hr
  refine T.skip ?_
  obtain rfl := inv_some hr
  refine T.pick [1, 2, 3, 4] 5 rfl rfl (Nat.le_add_left _ _) rfl ?_
  refine T.end0 rfl (fun w hS => ⟨((A0a, c0a), (A0b, c0b), d0b), rfl, hS⟩)

noncomputable def ref3_Disk_Flip.k2 (q0a : List (List UInt8)) (a1 : Int) (r1 : List UInt8) (a2 : Int) (s2 : (List (Int × List UInt8))) : Option (Int × List (List UInt8) × (List (Int × List UInt8))) :=
  some (0, ((q0a).set (a1 : Int).toNat ((r1).set (IntKind.i64.wrap (Int.tdiv a2 8) : Int).toNat (u8 (bitsOf .xor .u8 ((((r1).getD (IntKind.i64.wrap (Int.tdiv a2 8) : Int).toNat default).toNat : Int)) (shlI .u8 1 (IntKind.u64.wrap (Int.tmod a2 8))))))), s2)
noncomputable def ref3_Disk_Flip.k3 (s3 : (List (Int × List UInt8)) × Int) (s4 : (List (Int × List UInt8))) : Option (((List (Int × List UInt8)) × Int) ⊕ ((List (Int × List UInt8)))) :=
  some (.inl (s4, IntKind.i64.wrap (s3.2 + 1)))
noncomputable def ref3_Disk_Flip.st1 (a1 : Int) (a2 : Int) (s3 : (List (Int × List UInt8)) × Int) : Option (((List (Int × List UInt8)) × Int) ⊕ ((List (Int × List UInt8)))) :=
  (if ((decide (s3.2 < ((s3.1.length : Int))))) = true then chk (0 ≤ s3.2 ∧ s3.2 < (s3.1.length : Int)) ((if ((decide (((((s3.1).getD (s3.2 : Int).toNat default).1)) = a1))) = true then chk (0 ≤ s3.2 ∧ s3.2 < (s3.1.length : Int)) (chk (0 ≤ s3.2 ∧ s3.2 < (s3.1.length : Int)) (chk (0 ≤ (IntKind.i64.wrap (Int.tdiv a2 8)) ∧ (IntKind.i64.wrap (Int.tdiv a2 8)) < (((s3.1.getD ((s3.2 : Int).toNat) default).2).length : Int)) (chk (0 ≤ (IntKind.i64.wrap (Int.tdiv a2 8)) ∧ (IntKind.i64.wrap (Int.tdiv a2 8)) < (((s3.1.getD ((s3.2 : Int).toNat) default).2).length : Int)) (ref3_Disk_Flip.k3 s3 (s3.1.set ((s3.2 : Int).toNat) ((s3.1.getD ((s3.2 : Int).toNat) default).1, (((s3.1.getD ((s3.2 : Int).toNat) default).2).set (IntKind.i64.wrap (Int.tdiv a2 8) : Int).toNat (u8 (bitsOf .xor .u8 (((((s3.1.getD ((s3.2 : Int).toNat) default).2).getD (IntKind.i64.wrap (Int.tdiv a2 8) : Int).toNat default).toNat : Int)) (shlI .u8 1 (IntKind.u64.wrap (Int.tmod a2 8)))))))))))) else ref3_Disk_Flip.k3 s3 s3.1)) else some (.inr s3.1))
noncomputable def ref3_Disk_Flip.k1 (q0a : List (List UInt8)) (q0b : List (Int × List UInt8)) (a1 : Int) (a2 : Int) (s1 : Bool) : Option (Int × List (List UInt8) × (List (Int × List UInt8))) :=
  (if s1 = true then some (1, q0a, q0b) else chk (0 ≤ a1 ∧ a1 < (q0a.length : Int)) ((ref3_full.impl ((((q0a).getD (a1 : Int).toNat default)))).bind fun r1 => chk (0 ≤ (IntKind.i64.wrap (Int.tdiv a2 8)) ∧ (IntKind.i64.wrap (Int.tdiv a2 8)) < (r1.length : Int)) (chk (0 ≤ (IntKind.i64.wrap (Int.tdiv a2 8)) ∧ (IntKind.i64.wrap (Int.tdiv a2 8)) < (r1.length : Int)) (chk (0 ≤ a1 ∧ a1 < (q0a.length : Int)) ((loop (ref3_Disk_Flip.st1 a1 a2) (q0b, 0)).bind (fun e1 => ref3_Disk_Flip.k2 q0a a1 r1 a2 e1))))))
noncomputable def ref3_Disk_Flip.impl (o0 : Bool × Int × Int × Int × Int × Int) (q0a : List (List UInt8)) (q0b : List (Int × List UInt8)) (a1 : Int) (a2 : Int) : Option (Int × List (List UInt8) × (List (Int × List UInt8))) :=
  (if ((decide (a1 < 0))) = true then ref3_Disk_Flip.k1 q0a q0b a1 a2 true else (if ((decide ((((q0a.length : Int))) ≤ a1))) = true then ref3_Disk_Flip.k1 q0a q0b a1 a2 true else (if ((decide (a2 < 0))) = true then ref3_Disk_Flip.k1 q0a q0b a1 a2 true else ref3_Disk_Flip.k1 q0a q0b a1 a2 (decide ((65535 : Int) < a2)))))
set_option maxRecDepth 100000 in
set_option maxHeartbeats 4000000 in
theorem ref3_Disk_Flip.c {B : World} {hs : List MP} {w : World} {p0 : Nat} {o0 : Bool × Int × Int × Int × Int × Int} {c0a : Nat} {A0a : Option Addr} {q0a : List (List UInt8)} {c0b : Nat} {A0b : Option Addr} {d0b : Ads} {q0b : List (Int × List UInt8)} {a1 : Int} {a2 : Int} (hS : St B (Cl p0 61 [.slice A0a q0a.length c0a, .slice A0b q0b.length c0b, .bool o0.1, .int .i64 o0.2.1, .int .u64 o0.2.2.1, .int .i64 o0.2.2.2.1, .int .i64 o0.2.2.2.2.1, .int .i64 o0.2.2.2.2.2] :: Bf (Elt.slice E8) 33 A0a c0a q0a :: Hb 77 A0b c0b d0b q0b :: Bb 5 d0b q0b :: hs) w) {r : Int × List (List UInt8) × (List (Int × List UInt8))} (hr : ref3_Disk_Flip.impl o0 q0a q0b a1 a2 = some r) :
    Calls Try.prog 29 #[.pointer (some ⟨p0, 0, none⟩), .int .i64 a1, .int .i64 a2] w fun e w' => ∃ x : (Option Addr × Nat) × (Option Addr × Nat) × (Ads), e = .returned (.int .i64 r.1) ∧ St B (Cl p0 61 [.slice x.1.1 r.2.1.length x.1.2, .slice x.2.1.1 r.2.2.length x.2.1.2, .bool o0.1, .int .i64 o0.2.1, .int .u64 o0.2.2.1, .int .i64 o0.2.2.2.1, .int .i64 o0.2.2.2.2.1, .int .i64 o0.2.2.2.2.2] :: Bf (Elt.slice E8) 33 x.1.1 x.1.2 r.2.1 :: Hb 77 x.2.1.1 x.2.1.2 x.2.2 r.2.2 :: Bb 5 x.2.2 r.2.2 :: hs) w' := by
 unfold ref3_Disk_Flip.impl at hr
 refine calls_T Try.func29 rfl rfl rfl hS ?_
 refine T.seq ?_
 refine T.region ?_
 refine T.assign .list rfl (wants0 rfl) rfl rfl ?_
 refine T.nil ?_
 refine T.then_normal ?_
 refine T.seq ?_
 refine T.seqJ (fun (s1 : Bool) (x1 : Unit) => [(0, .pointer (some ⟨p0, 0, none⟩)), (1, .int .i64 a1), (2, .int .i64 a2), (27, .bool s1)]) (fun s1 x1 => Cl p0 61 [.slice A0a q0a.length c0a, .slice A0b q0b.length c0b, .bool o0.1, .int .i64 o0.2.1, .int .u64 o0.2.2.1, .int .i64 o0.2.2.2.1, .int .i64 o0.2.2.2.2.1, .int .i64 o0.2.2.2.2.2] :: Bf (Elt.slice E8) 33 A0a c0a q0a :: Hb 77 A0b c0b d0b q0b :: Bb 5 d0b q0b :: hs) (fun s1 => ref3_Disk_Flip.k1 q0a q0b a1 a2 s1 = some r) (fun s1 x1 hk1 => ?_) (fun J1 => ?_)
 ·unfold ref3_Disk_Flip.k1 at hk1
  refine T.cond rfl (fun hb1 => ?_) (fun hb1 => ?_)
  ·replace hk1 := inv_posB hb1 hk1
   refine T.seq ?_
   refine T.region ?_
   refine T.assign .list rfl (wants0 rfl) rfl rfl ?_
   refine T.nil ?_
   refine T.then_normal ?_
   refine T.ret ?_
   refine T.then_ret ?_
   obtain rfl := inv_some hk1
   refine T.pick [0, 1, 2, 3] 4 rfl rfl (Nat.le_add_left _ _) rfl ?_
   refine T.ret1 rfl rfl (fun w hS => ⟨((A0a, c0a), (A0b, c0b), d0b), rfl, hS⟩)
  ·replace hk1 := inv_negB hb1 hk1
   refine T.skip ?_
   refine T.then_normal ?_
   refine T.seq ?_
   refine T.region ?_
   refine T.move .list rfl (wants0 rfl) rfl rfl ?_
   refine T.nilCheck .list rfl (wants0 rfl) rfl rfl ?_
   refine T.field .list rfl (wants0 rfl) rfl rfl ?_
   refine T.load .list 0 rfl rfl (wants0 rfl) rfl rfl rfl ?_
   refine T.move .list rfl (wants0 rfl) rfl rfl ?_
   obtain ⟨hc1, hk1⟩ := inv_chk hk1
   refine T.idxBf .list 1 rfl rfl (wants0 rfl) rfl rfl rfl hc1.1 hc1.2 (Nat.le_refl _) ?_
   refine T.ldFBf 1 .list Fd.self Sh.slice rfl (.inr rfl) rfl rfl hc1.1 hc1.2 rfl (wants0 rfl) rfl rfl rfl (v := fun x2 => .slice x2.1 (((((q0a).getD (a1 : Int).toNat default))).length) x2.2) (hs' := fun x2 => Ro E8 x2.1 x2.2 ((((q0a).getD (a1 : Int).toNat default))) :: Cl p0 61 [.slice A0a q0a.length c0a, .slice A0b q0b.length c0b, .bool o0.1, .int .i64 o0.2.1, .int .u64 o0.2.2.1, .int .i64 o0.2.2.2.1, .int .i64 o0.2.2.2.2.1, .int .i64 o0.2.2.2.2.2] :: Bf (Elt.slice E8) 33 A0a c0a q0a :: Hb 77 A0b c0b d0b q0b :: Bb 5 d0b q0b :: hs) (fun _ => rfl) (fun _ => rfl) (fun x2 => ?_)
   obtain ⟨r1, hg1, hk1⟩ := inv_bind hk1
   refine T.call .list (wants0 rfl) rfl (run_callF (vs := [_]) rfl Try.func38 rfl (by decide) rfl) (fun w hS => ref3_full.c hS (i0 := 0) rfl hg1) (fun x3 => ?_)
   refine T.assign .list rfl (wants0 rfl) rfl rfl ?_
   refine T.nil ?_
   refine T.then_normal ?_
   refine T.seq ?_
   refine T.region ?_
   refine T.move .list rfl (wants0 rfl) rfl rfl ?_
   refine T.move .list rfl (wants0 rfl) rfl rfl ?_
   refine T.quo .list rfl (wants0 rfl) rfl rfl rfl (by decide) ?_
   refine T.move .list rfl (wants0 rfl) rfl rfl ?_
   refine T.move .list rfl (wants0 rfl) rfl rfl ?_
   refine T.quo .list rfl (wants0 rfl) rfl rfl rfl (by decide) ?_
   obtain ⟨hc2, hk1⟩ := inv_chk hk1
   refine T.idxBf .list 0 rfl rfl (wants0 rfl) rfl rfl rfl hc2.1 hc2.2 (Nat.le_refl _) ?_
   refine T.ldBf1 .list 0 rfl rfl (wants0 rfl) rfl rfl hc2.1 hc2.2 ?_
   refine T.move .list rfl (wants0 rfl) rfl rfl ?_
   refine T.rem .list rfl (wants0 rfl) rfl rfl rfl (by decide) ?_
   refine T.conv .list rfl (wants0 rfl) rfl rfl rfl ?_
   refine T.shl .list rfl (wants0 rfl) rfl rfl rfl (wrap_nn rfl) ?_
   refine T.bin .list rfl (wants0 rfl) rfl rfl rfl rfl ?_
   obtain ⟨hc3, hk1⟩ := inv_chk hk1
   refine T.idxBf .list 0 rfl rfl (wants0 rfl) rfl rfl rfl hc3.1 hc3.2 (Nat.le_refl _) ?_
   refine T.stBf .list 0 rfl rfl (wants0 rfl) rfl rfl rfl (b8_bits _ _ _) hc3.1 hc3.2 rfl ?_
   refine T.nil ?_
   refine T.then_normal ?_
   refine T.seq ?_
   refine T.region ?_
   refine T.move .list rfl (wants0 rfl) rfl rfl ?_
   refine T.nilCheck .list rfl (wants0 rfl) rfl rfl ?_
   refine T.field .list rfl (wants0 rfl) rfl rfl ?_
   refine T.load .list 2 rfl rfl (wants0 rfl) rfl rfl rfl ?_
   refine T.move .list rfl (wants0 rfl) rfl rfl ?_
   refine T.move .list rfl (wants0 rfl) rfl rfl ?_
   obtain ⟨hc4, hk1⟩ := inv_chk hk1
   refine T.idxBf .list 3 rfl rfl (wants0 rfl) rfl rfl rfl hc4.1 hc4.2 (Nat.le_refl _) ?_
   refine T.env1 55 rfl (slc (n' := (((r1).set (IntKind.i64.wrap (Int.tdiv a2 8) : Int).toNat (u8 (bitsOf .xor .u8 ((((r1).getD (IntKind.i64.wrap (Int.tdiv a2 8) : Int).toNat default).toNat : Int)) (shlI .u8 1 (IntKind.u64.wrap (Int.tmod a2 8))))))).length) (by simp only [List.length_set])) ?_
   refine T.freeze 0 rfl rfl rfl ?_
   refine T.stBfV .list 3 (z := ((r1).set (IntKind.i64.wrap (Int.tdiv a2 8) : Int).toNat (u8 (bitsOf .xor .u8 ((((r1).getD (IntKind.i64.wrap (Int.tdiv a2 8) : Int).toNat default).toNat : Int)) (shlI .u8 1 (IntKind.u64.wrap (Int.tmod a2 8))))))) rfl rfl rfl (wants0 rfl) rfl rfl rfl (Has.slice 0 rfl rfl) hc4.1 hc4.2 rfl ?_
   refine T.nil ?_
   refine T.then_normal ?_
   refine T.seqJ (fun (s2 : (List (Int × List UInt8))) (x4 : (Option Addr × Nat) × (Ads)) => []) (fun s2 x4 => Cl p0 61 [.slice A0a ((((q0a).set (a1 : Int).toNat ((r1).set (IntKind.i64.wrap (Int.tdiv a2 8) : Int).toNat (u8 (bitsOf .xor .u8 ((((r1).getD (IntKind.i64.wrap (Int.tdiv a2 8) : Int).toNat default).toNat : Int)) (shlI .u8 1 (IntKind.u64.wrap (Int.tmod a2 8)))))))).length) c0a, .slice x4.1.1 s2.length x4.1.2, .bool o0.1, .int .i64 o0.2.1, .int .u64 o0.2.2.1, .int .i64 o0.2.2.2.1, .int .i64 o0.2.2.2.2.1, .int .i64 o0.2.2.2.2.2] :: Bf (Elt.slice E8) 33 A0a c0a (((q0a).set (a1 : Int).toNat ((r1).set (IntKind.i64.wrap (Int.tdiv a2 8) : Int).toNat (u8 (bitsOf .xor .u8 ((((r1).getD (IntKind.i64.wrap (Int.tdiv a2 8) : Int).toNat default).toNat : Int)) (shlI .u8 1 (IntKind.u64.wrap (Int.tmod a2 8)))))))) :: Hb 77 x4.1.1 x4.1.2 x4.2 s2 :: Bb 5 x4.2 s2 :: hs) (fun s2 => ref3_Disk_Flip.k2 q0a a1 r1 a2 s2 = some r) (fun s2 x4 hk2 => ?_) (fun J2 => ?_)
   ·unfold ref3_Disk_Flip.k2 at hk2
    refine T.seq ?_
    refine T.region ?_
    refine T.assign .list rfl (wants0 rfl) rfl rfl ?_
    refine T.nil ?_
    refine T.then_normal ?_
    refine T.ret ?_
    obtain rfl := inv_some hk2
    refine T.pick [0, 1, 2, 3] 4 rfl rfl (Nat.le_add_left _ _) rfl ?_
    refine T.ret1 rfl rfl (fun w hS => ⟨((A0a, c0a), (x4.1.1, x4.1.2), x4.2), rfl, hS⟩)
   ·refine T.seq ?_
    refine T.region ?_
    refine T.assign .list rfl (wants0 rfl) rfl rfl ?_
    refine T.nil ?_
    refine T.then_normal ?_
    refine T.block ?_
    obtain ⟨e1, hl1, hk1⟩ := inv_bind hk1
    refine T.clEq 2 (cs' := [.slice A0a ((((q0a).set (a1 : Int).toNat ((r1).set (IntKind.i64.wrap (Int.tdiv a2 8) : Int).toNat (u8 (bitsOf .xor .u8 ((((r1).getD (IntKind.i64.wrap (Int.tdiv a2 8) : Int).toNat default).toNat : Int)) (shlI .u8 1 (IntKind.u64.wrap (Int.tmod a2 8)))))))).length) c0a, .slice A0b q0b.length c0b, .bool o0.1, .int .i64 o0.2.1, .int .u64 o0.2.2.1, .int .i64 o0.2.2.2.1, .int .i64 o0.2.2.2.2.1, .int .i64 o0.2.2.2.2.2]) rfl (by simp only [List.length_set]) rfl ?_
    refine T.le (EnvLe.cons rfl (EnvLe.cons rfl (EnvLe.cons rfl (EnvLe.cons rfl EnvLe.nil)))) (T.pick [2, 3, 4, 5] 6 rfl rfl (Nat.le_add_left _ _) rfl (T.loop (s0 := (q0b, 0)) (env := fun s3 x5 => [(0, .pointer (some ⟨p0, 0, none⟩)), (1, .int .i64 a1), (2, .int .i64 a2), (8, .int .i64 s3.2)]) (hs := fun (s3 : (List (Int × List UInt8)) × Int) (x5 : (Option Addr × Nat) × (Ads)) => Cl p0 61 [.slice A0a ((((q0a).set (a1 : Int).toNat ((r1).set (IntKind.i64.wrap (Int.tdiv a2 8) : Int).toNat (u8 (bitsOf .xor .u8 ((((r1).getD (IntKind.i64.wrap (Int.tdiv a2 8) : Int).toNat default).toNat : Int)) (shlI .u8 1 (IntKind.u64.wrap (Int.tmod a2 8)))))))).length) c0a, .slice x5.1.1 s3.1.length x5.1.2, .bool o0.1, .int .i64 o0.2.1, .int .u64 o0.2.2.1, .int .i64 o0.2.2.2.1, .int .i64 o0.2.2.2.2.1, .int .i64 o0.2.2.2.2.2] :: Bf (Elt.slice E8) 33 A0a c0a (((q0a).set (a1 : Int).toNat ((r1).set (IntKind.i64.wrap (Int.tdiv a2 8) : Int).toNat (u8 (bitsOf .xor .u8 ((((r1).getD (IntKind.i64.wrap (Int.tdiv a2 8) : Int).toNat default).toNat : Int)) (shlI .u8 1 (IntKind.u64.wrap (Int.tmod a2 8)))))))) :: Hb 77 x5.1.1 x5.1.2 x5.2 s3.1 :: Bb 5 x5.2 s3.1 :: hs) hl1 ((A0b, c0b), d0b) (fun K1 s3 x5 o1 he1 hm1 hx1 => ?_)))
    unfold ref3_Disk_Flip.st1 at he1
    refine T.seq ?_
    refine T.seq ?_
    refine T.region ?_
    refine T.move .list rfl (wants0 rfl) rfl rfl ?_
    refine T.move .list rfl (wants0 rfl) rfl rfl ?_
    refine T.nilCheck .list rfl (wants0 rfl) rfl rfl ?_
    refine T.field .list rfl (wants0 rfl) rfl rfl ?_
    refine T.load .list 0 rfl rfl (wants0 rfl) rfl rfl rfl ?_
    refine T.lenSlice .list rfl (wants0 rfl) rfl rfl ?_
    refine T.bin .list rfl (wants0 rfl) rfl rfl rfl rfl ?_
    refine T.nil ?_
    refine T.then_normal ?_
    refine T.cond rfl (fun hb2 => ?_) (fun hb2 => ?_)
    ·replace he1 := inv_posB hb2 he1
     refine T.skip ?_
     refine T.then_normal ?_
     refine T.seqJ (fun (s4 : (List (Int × List UInt8))) (x6 : (Option Addr × Nat) × (Ads)) => [(0, .pointer (some ⟨p0, 0, none⟩)), (1, .int .i64 a1), (2, .int .i64 a2), (8, .int .i64 s3.2)]) (fun s4 x6 => Cl p0 61 [.slice A0a ((((q0a).set (a1 : Int).toNat ((r1).set (IntKind.i64.wrap (Int.tdiv a2 8) : Int).toNat (u8 (bitsOf .xor .u8 ((((r1).getD (IntKind.i64.wrap (Int.tdiv a2 8) : Int).toNat default).toNat : Int)) (shlI .u8 1 (IntKind.u64.wrap (Int.tmod a2 8)))))))).length) c0a, .slice x6.1.1 s4.length x6.1.2, .bool o0.1, .int .i64 o0.2.1, .int .u64 o0.2.2.1, .int .i64 o0.2.2.2.1, .int .i64 o0.2.2.2.2.1, .int .i64 o0.2.2.2.2.2] :: Bf (Elt.slice E8) 33 A0a c0a (((q0a).set (a1 : Int).toNat ((r1).set (IntKind.i64.wrap (Int.tdiv a2 8) : Int).toNat (u8 (bitsOf .xor .u8 ((((r1).getD (IntKind.i64.wrap (Int.tdiv a2 8) : Int).toNat default).toNat : Int)) (shlI .u8 1 (IntKind.u64.wrap (Int.tmod a2 8)))))))) :: Hb 77 x6.1.1 x6.1.2 x6.2 s4 :: Bb 5 x6.2 s4 :: hs) (fun s4 => ref3_Disk_Flip.k3 s3 s4 = some o1) (fun s4 x6 hk3 => ?_) (fun J3 => ?_)
     ·unfold ref3_Disk_Flip.k3 at hk3
      refine T.region ?_
      refine T.move .list rfl (wants0 rfl) rfl rfl ?_
      refine T.bin .list rfl (wants0 rfl) rfl rfl rfl rfl ?_
      refine T.assign .list rfl (wants0 rfl) rfl rfl ?_
      refine T.nil ?_
      refine T.then_normal ?_
      obtain rfl := inv_some hk3
      exact T.le (EnvLe.cons rfl (EnvLe.cons rfl (EnvLe.cons rfl (EnvLe.cons rfl EnvLe.nil)))) (T.pick [0, 1, 2, 3] 4 rfl rfl (Nat.le_add_left _ _) rfl (hm1 (s4, IntKind.i64.wrap (s3.2 + 1)) rfl ((x6.1.1, x6.1.2), x6.2)))
     ·refine T.block ?_
      refine T.seq ?_
      refine T.region ?_
      refine T.move .list rfl (wants0 rfl) rfl rfl ?_
      refine T.nilCheck .list rfl (wants0 rfl) rfl rfl ?_
      refine T.field .list rfl (wants0 rfl) rfl rfl ?_
      refine T.load .list 0 rfl rfl (wants0 rfl) rfl rfl rfl ?_
      refine T.move .list rfl (wants0 rfl) rfl rfl ?_
      obtain ⟨hc5, he1⟩ := inv_chk he1
      refine T.idxBf .list 2 rfl rfl (wants0 rfl) rfl rfl rfl hc5.1 hc5.2 (hdr_le (Nat.le_refl _)) ?_
      refine T.fieldBf .list 2 rfl hc5.1 (hdr_lt hc5.2) rfl (wants0 rfl) rfl rfl ?_
      refine T.fldHb 2 .list rfl hc5.1 hc5.2 rfl (wants0 rfl) rfl rfl rfl ?_
      refine T.move .list rfl (wants0 rfl) rfl rfl ?_
      refine T.bin .list rfl (wants0 rfl) rfl rfl rfl rfl ?_
      refine T.nil ?_
      refine T.then_normal ?_
      refine T.cond rfl (fun hb3 => ?_) (fun hb3 => ?_)
      ·replace he1 := inv_posB hb3 he1
       refine T.plan [(0, 0), (1, 0), (2, 0), (4, 0), (8, 0), (9, 0), (10, 0), (11, 0), (12, 0), (14, 0), (18, 0), (19, 0), (22, 0), (23, 0), (24, 0), (25, 0), (3, 1), (5, 0), (6, 0), (7, 1), (13, 1), (15, 0), (16, 0), (17, 1), (20, 0), (21, 1), (26, 0), (27, 0), (28, 2)] mixed (by kernel_rfl) (by kernel_rfl) rfl (fun d _ _ _ _ h => by cases d <;> exact h) ?_
       refine T.move (.plan rfl) rfl (wants0 rfl) rfl rfl ?_
       refine T.nilCheck (.plan rfl) rfl (wants0 rfl) rfl rfl ?_
       refine T.field (.plan rfl) rfl (wants0 rfl) rfl rfl ?_
       refine T.move (.plan rfl) rfl (wants0 rfl) rfl rfl ?_
       refine T.move (.plan rfl) rfl (wants0 rfl) rfl rfl ?_
       refine T.quo (.plan rfl) rfl (wants0 rfl) rfl rfl rfl (by decide) ?_
       refine T.move (.plan rfl) rfl (wants0 rfl) rfl rfl ?_
       refine T.nilCheck (.plan rfl) rfl (wants0 rfl) rfl rfl ?_
       refine T.field (.plan rfl) rfl (wants0 rfl) rfl rfl ?_
       refine T.move (.plan rfl) rfl (wants0 rfl) rfl rfl ?_
       refine T.move (.plan rfl) rfl (wants0 rfl) rfl rfl ?_
       refine T.quo (.plan rfl) rfl (wants0 rfl) rfl rfl rfl (by decide) ?_
       refine T.move (.plan rfl) rfl (wants0 rfl) rfl rfl ?_
       refine T.rem (.plan rfl) rfl (wants0 rfl) rfl rfl rfl (by decide) ?_
       refine T.conv (.plan rfl) rfl (wants0 rfl) rfl rfl rfl ?_
       refine T.shl (.plan rfl) rfl (wants0 rfl) rfl rfl rfl (wrap_nn rfl) ?_
       refine T.load (.plan rfl) 0 rfl rfl (wants0 rfl) rfl rfl rfl ?_
       obtain ⟨hc6, he1⟩ := inv_chk he1
       refine T.idxBf (.plan rfl) 2 rfl rfl (wants0 rfl) rfl rfl rfl hc6.1 hc6.2 (hdr_le (Nat.le_refl _)) ?_
       refine T.fieldBf (.plan rfl) 2 rfl hc6.1 (hdr_lt hc6.2) rfl (wants0 rfl) rfl rfl ?_
       refine T.bufHb 2 (.plan rfl) rfl hc6.1 hc6.2 rfl (wants0 rfl) rfl rfl rfl ?_
       refine T.focusB 3 ((s3.2 : Int).toNat) rfl (toNat_lt hc6.1 hc6.2) rfl ?_
       refine T.load (.plan rfl) 1 rfl rfl (wants0 rfl) rfl rfl rfl ?_
       obtain ⟨hc7, he1⟩ := inv_chk he1
       refine T.idxBf (.plan rfl) 3 rfl rfl (wants0 rfl) rfl rfl rfl hc7.1 hc7.2 (hdr_le (Nat.le_refl _)) ?_
       refine T.fieldBf (.plan rfl) 3 rfl hc7.1 (hdr_lt hc7.2) rfl (wants0 rfl) rfl rfl ?_
       refine T.bufHb 3 (.plan rfl) rfl hc7.1 hc7.2 rfl (wants0 rfl) rfl rfl rfl ?_
       obtain ⟨hc8, he1⟩ := inv_chk he1
       refine T.idxBf (.plan rfl) 0 rfl rfl (wants0 rfl) rfl rfl rfl hc8.1 hc8.2 (Nat.le_refl _) ?_
       refine T.ldBf1 (.plan rfl) 0 rfl rfl (wants0 rfl) rfl rfl hc8.1 hc8.2 ?_
       refine T.bin (.plan rfl) rfl (wants0 rfl) rfl rfl rfl rfl ?_
       obtain ⟨hc9, he1⟩ := inv_chk he1
       refine T.idxBf (.plan rfl) 0 rfl rfl (wants0 rfl) rfl rfl rfl hc9.1 hc9.2 (Nat.le_refl _) ?_
       refine T.stBf (.plan rfl) 0 rfl rfl (wants0 rfl) rfl rfl rfl (b8_bits _ _ _) hc9.1 hc9.2 rfl ?_
       refine T.planEnd ?_
       refine T.in_normal ?_
       refine T.then_normal ?_
       refine T.pick [0, 4, 3, 1, 2] 5 rfl rfl (Nat.le_add_left _ _) (hs' := Bf E8 5 ((x5.2 ((s3.2 : Int).toNat)).1) ((x5.2 ((s3.2 : Int).toNat)).2) ((((s3.1.getD ((s3.2 : Int).toNat) default).2).set (IntKind.i64.wrap (Int.tdiv a2 8) : Int).toNat (u8 (bitsOf .xor .u8 (((((s3.1.getD ((s3.2 : Int).toNat) default).2).getD (IntKind.i64.wrap (Int.tdiv a2 8) : Int).toNat default).toNat : Int)) (shlI .u8 1 (IntKind.u64.wrap (Int.tmod a2 8))))))) :: Bh 5 x5.2 s3.1 ((s3.2 : Int).toNat) :: Hb 77 x5.1.1 x5.1.2 x5.2 s3.1 :: Cl p0 61 [.slice A0a ((((q0a).set (a1 : Int).toNat ((r1).set (IntKind.i64.wrap (Int.tdiv a2 8) : Int).toNat (u8 (bitsOf .xor .u8 ((((r1).getD (IntKind.i64.wrap (Int.tdiv a2 8) : Int).toNat default).toNat : Int)) (shlI .u8 1 (IntKind.u64.wrap (Int.tmod a2 8)))))))).length) c0a, .slice x5.1.1 s3.1.length x5.1.2, .bool o0.1, .int .i64 o0.2.1, .int .u64 o0.2.2.1, .int .i64 o0.2.2.2.1, .int .i64 o0.2.2.2.2.1, .int .i64 o0.2.2.2.2.2] :: Bf (Elt.slice E8) 33 A0a c0a (((q0a).set (a1 : Int).toNat ((r1).set (IntKind.i64.wrap (Int.tdiv a2 8) : Int).toNat (u8 (bitsOf .xor .u8 ((((r1).getD (IntKind.i64.wrap (Int.tdiv a2 8) : Int).toNat default).toNat : Int)) (shlI .u8 1 (IntKind.u64.wrap (Int.tmod a2 8)))))))) :: hs) rfl ?_
       refine T.fillB ((s3.2 : Int).toNat) (toNat_lt hc6.1 hc6.2) (by simp only [List.length_set]) ?_
       refine T.clEq 2 (cs' := [.slice A0a ((((q0a).set (a1 : Int).toNat ((r1).set (IntKind.i64.wrap (Int.tdiv a2 8) : Int).toNat (u8 (bitsOf .xor .u8 ((((r1).getD (IntKind.i64.wrap (Int.tdiv a2 8) : Int).toNat default).toNat : Int)) (shlI .u8 1 (IntKind.u64.wrap (Int.tmod a2 8)))))))).length) c0a, .slice x5.1.1 (((s3.1.set ((s3.2 : Int).toNat) ((s3.1.getD ((s3.2 : Int).toNat) default).1, (((s3.1.getD ((s3.2 : Int).toNat) default).2).set (IntKind.i64.wrap (Int.tdiv a2 8) : Int).toNat (u8 (bitsOf .xor .u8 (((((s3.1.getD ((s3.2 : Int).toNat) default).2).getD (IntKind.i64.wrap (Int.tdiv a2 8) : Int).toNat default).toNat : Int)) (shlI .u8 1 (IntKind.u64.wrap (Int.tmod a2 8))))))))).length) x5.1.2, .bool o0.1, .int .i64 o0.2.1, .int .u64 o0.2.2.1, .int .i64 o0.2.2.2.1, .int .i64 o0.2.2.2.2.1, .int .i64 o0.2.2.2.2.2]) rfl (by simp only [List.length_set]) rfl ?_
       exact T.le (EnvLe.cons rfl (EnvLe.cons rfl (EnvLe.cons rfl (EnvLe.cons rfl EnvLe.nil)))) (T.pick [2, 3, 1, 0] 4 rfl rfl (Nat.le_add_left _ _) rfl (J3 (s3.1.set ((s3.2 : Int).toNat) ((s3.1.getD ((s3.2 : Int).toNat) default).1, (((s3.1.getD ((s3.2 : Int).toNat) default).2).set (IntKind.i64.wrap (Int.tdiv a2 8) : Int).toNat (u8 (bitsOf .xor .u8 (((((s3.1.getD ((s3.2 : Int).toNat) default).2).getD (IntKind.i64.wrap (Int.tdiv a2 8) : Int).toNat default).toNat : Int)) (shlI .u8 1 (IntKind.u64.wrap (Int.tmod a2 8)))))))) ((x5.1.1, x5.1.2), x5.2) he1))
      ·replace he1 := inv_negB hb3 he1
       refine T.skip ?_
       refine T.in_normal ?_
       refine T.then_normal ?_
       exact T.le (EnvLe.cons rfl (EnvLe.cons rfl (EnvLe.cons rfl (EnvLe.cons rfl EnvLe.nil)))) (T.pick [0, 1, 2, 3] 4 rfl rfl (Nat.le_add_left _ _) rfl (J3 s3.1 ((x5.1.1, x5.1.2), x5.2) he1))
    ·replace he1 := inv_negB hb2 he1
     refine T.exit ?_
     refine T.then_exit ?_
     refine T.then_exit ?_
     obtain rfl := inv_some he1
     obtain rfl := hx1 _ rfl
     refine T.in_hit ?_
     refine T.then_normal ?_
     exact T.le EnvLe.nil (T.pick [0, 1, 2, 3] 4 rfl rfl (Nat.le_add_left _ _) rfl (J2 s3.1 ((x5.1.1, x5.1.2), x5.2) hk1))
 ·refine T.region ?_
  refine T.move .list rfl (wants0 rfl) rfl rfl ?_
  refine T.bin .list rfl (wants0 rfl) rfl rfl rfl rfl ?_
  refine T.move .list rfl (wants0 rfl) rfl rfl ?_
  refine T.bool (b := (decide (a1 < 0))) (fun hb4 => ?_) (fun hb4 => ?_)
  ·replace hr := inv_posB hb4 hr
   refine T.leave .list (wantsNot rfl rfl rfl hb4) rfl ?_
   refine T.leave .list (wantsNot rfl rfl rfl hb4) rfl ?_
   refine T.leave .list (wantsNot rfl rfl rfl hb4) rfl ?_
   refine T.leave .list (wantsNot rfl rfl rfl hb4) rfl ?_
   refine T.leave .list (wantsNot rfl rfl rfl hb4) rfl ?_
   refine T.leave .list (wantsNot rfl rfl rfl hb4) rfl ?_
   refine T.leave .list (wantsNot rfl rfl rfl hb4) rfl ?_
   refine T.pickT .list rfl (wants0 rfl) rfl rfl hb4 rfl ?_
   refine T.move .list rfl (wants0 rfl) rfl rfl ?_
   refine T.leave .list (wantsNot rfl rfl rfl rfl) rfl ?_
   refine T.leave .list (wantsNot rfl rfl rfl rfl) rfl ?_
   refine T.pickT .list rfl (wants0 rfl) rfl rfl rfl rfl ?_
   refine T.move .list rfl (wants0 rfl) rfl rfl ?_
   refine T.leave .list (wantsNot rfl rfl rfl rfl) rfl ?_
   refine T.leave .list (wantsNot rfl rfl rfl rfl) rfl ?_
   refine T.pickT .list rfl (wants0 rfl) rfl rfl rfl rfl ?_
   refine T.nil ?_
   refine T.then_normal ?_
   exact T.le (EnvLe.cons rfl (EnvLe.cons rfl (EnvLe.cons rfl (EnvLe.cons rfl EnvLe.nil)))) (T.pick [0, 1, 2, 3] 4 rfl rfl (Nat.le_add_left _ _) rfl (J1 true () hr))
  ·replace hr := inv_negB hb4 hr
   refine T.move .list rfl (wants1 rfl rfl rfl hb4) rfl rfl ?_
   refine T.move .list rfl (wants1 rfl rfl rfl hb4) rfl rfl ?_
   refine T.nilCheck .list rfl (wants1 rfl rfl rfl hb4) rfl rfl ?_
   refine T.field .list rfl (wants1 rfl rfl rfl hb4) rfl rfl ?_
   refine T.load .list 0 rfl rfl (wants1 rfl rfl rfl hb4) rfl rfl rfl ?_
   refine T.lenSlice .list rfl (wants1 rfl rfl rfl hb4) rfl rfl ?_
   refine T.bin .list rfl (wants1 rfl rfl rfl hb4) rfl rfl rfl rfl ?_
   refine T.pickF .list rfl (wants0 rfl) rfl rfl hb4 rfl ?_
   refine T.move .list rfl (wants0 rfl) rfl rfl ?_
   refine T.bool (b := (decide ((((q0a.length : Int))) ≤ a1))) (fun hb5 => ?_) (fun hb5 => ?_)
   ·replace hr := inv_posB hb5 hr
    refine T.leave .list (wantsNot rfl rfl rfl hb5) rfl ?_
    refine T.leave .list (wantsNot rfl rfl rfl hb5) rfl ?_
    refine T.pickT .list rfl (wants0 rfl) rfl rfl hb5 rfl ?_
    refine T.move .list rfl (wants0 rfl) rfl rfl ?_
    refine T.leave .list (wantsNot rfl rfl rfl rfl) rfl ?_
    refine T.leave .list (wantsNot rfl rfl rfl rfl) rfl ?_
    refine T.pickT .list rfl (wants0 rfl) rfl rfl rfl rfl ?_
    refine T.nil ?_
    refine T.then_normal ?_
    exact T.le (EnvLe.cons rfl (EnvLe.cons rfl (EnvLe.cons rfl (EnvLe.cons rfl EnvLe.nil)))) (T.pick [0, 1, 2, 3] 4 rfl rfl (Nat.le_add_left _ _) rfl (J1 true () hr))
   ·replace hr := inv_negB hb5 hr
    refine T.move .list rfl (wants1 rfl rfl rfl hb5) rfl rfl ?_
    refine T.bin .list rfl (wants1 rfl rfl rfl hb5) rfl rfl rfl rfl ?_
    refine T.pickF .list rfl (wants0 rfl) rfl rfl hb5 rfl ?_
    refine T.move .list rfl (wants0 rfl) rfl rfl ?_
    refine T.bool (b := (decide (a2 < 0))) (fun hb6 => ?_) (fun hb6 => ?_)
    ·replace hr := inv_posB hb6 hr
     refine T.leave .list (wantsNot rfl rfl rfl hb6) rfl ?_
     refine T.leave .list (wantsNot rfl rfl rfl hb6) rfl ?_
     refine T.pickT .list rfl (wants0 rfl) rfl rfl hb6 rfl ?_
     refine T.nil ?_
     refine T.then_normal ?_
     exact T.le (EnvLe.cons rfl (EnvLe.cons rfl (EnvLe.cons rfl (EnvLe.cons rfl EnvLe.nil)))) (T.pick [0, 1, 2, 3] 4 rfl rfl (Nat.le_add_left _ _) rfl (J1 true () hr))
    ·replace hr := inv_negB hb6 hr
     refine T.move .list rfl (wants1 rfl rfl rfl hb6) rfl rfl ?_
     refine T.bin .list rfl (wants1 rfl rfl rfl hb6) rfl rfl rfl rfl ?_
     refine T.pickF .list rfl (wants0 rfl) rfl rfl hb6 rfl ?_
     refine T.nil ?_
     refine T.then_normal ?_
     exact T.le (EnvLe.cons rfl (EnvLe.cons rfl (EnvLe.cons rfl (EnvLe.cons rfl EnvLe.nil)))) (T.pick [0, 1, 2, 3] 4 rfl rfl (Nat.le_add_left _ _) rfl (J1 (decide ((65535 : Int) < a2)) () hr))
end Go.Proofs.Ytfdogeebkbaadaa
