/- Wire: what the functions compute, and that the program computes it; printed by a program of ours. -/
import Derived.Test.YtccifnjlfhdpiaaCuts
import Derived.Test.YtccifnjlfhdpiaaAppZ
import Derived.Test.YtccifnjlfhdpiaaOpenEl
set_option linter.unusedVariables false
set_option linter.unusedSimpArgs false
namespace Go.Proofs.Ytccifnjlfhdpiaa
open Go.RowKit
noncomputable def wire_tables_fill.k2 (s2 : List Int × Int) (s3 : List Int) : Option ((List Int × Int) ⊕ (List Int)) :=
  some (.inl (s3, IntKind.i64.wrap (s2.2 + 1)))
noncomputable def wire_tables_fill.st2 (s2 : List Int × Int) (s4 : List Int × Int) : Option ((List Int × Int) ⊕ (List Int)) :=
  (if ((decide (s4.2 < 256))) = true then chk ((0 ≤ s4.2 ∧ s4.2 < 256) ∧ 256 ≤ (((s2.1).drop ((0 + (IntKind.i64.wrap (s2.2 - 1) : Int).toNat * 256))).take 256).length) (chk (0 ≤ (bitsOf .and .u32 (((((s2.1).drop ((0 + (IntKind.i64.wrap (s2.2 - 1) : Int).toNat * 256))).take 256).getD (s4.2 : Int).toNat default)) 255) ∧ (bitsOf .and .u32 (((((s2.1).drop ((0 + (IntKind.i64.wrap (s2.2 - 1) : Int).toNat * 256))).take 256).getD (s4.2 : Int).toNat default)) 255) < 256) (chk (0 ≤ s2.2 ∧ s2.2 < 4) (chk (((0 + (0 : Int).toNat * 256) + (bitsOf .and .u32 (((((s2.1).drop ((0 + (IntKind.i64.wrap (s2.2 - 1) : Int).toNat * 256))).take 256).getD (s4.2 : Int).toNat default)) 255 : Int).toNat * 1) < s4.1.length) (chk (0 ≤ s4.2 ∧ s4.2 < 256) (chk (((0 + (s2.2 : Int).toNat * 256) + (s4.2 : Int).toNat * 1) < s4.1.length) (some (.inl (((s4.1).set (((0 + (s2.2 : Int).toNat * 256) + (s4.2 : Int).toNat * 1)) (bitsOf .xor .u32 (shrI .u32 (((((s2.1).drop ((0 + (IntKind.i64.wrap (s2.2 - 1) : Int).toNat * 256))).take 256).getD (s4.2 : Int).toNat default)) 8) (((s4.1).getD (((0 + (0 : Int).toNat * 256) + (bitsOf .and .u32 (((((s2.1).drop ((0 + (IntKind.i64.wrap (s2.2 - 1) : Int).toNat * 256))).take 256).getD (s4.2 : Int).toNat default)) 255 : Int).toNat * 1)) default)))), IntKind.i64.wrap (s4.2 + 1))))))))) else some (.inr s4.1))
noncomputable def wire_tables_fill.st1 (s2 : List Int × Int) : Option ((List Int × Int) ⊕ (List Int)) :=
  (if ((decide (s2.2 < 4))) = true then chk (0 ≤ (IntKind.i64.wrap (s2.2 - 1)) ∧ (IntKind.i64.wrap (s2.2 - 1)) < 4) (chk ((0 + (IntKind.i64.wrap (s2.2 - 1) : Int).toNat * 256) + 256 ≤ s2.1.length) ((loop (wire_tables_fill.st2 s2) (s2.1, 0)).bind (fun e2 => wire_tables_fill.k2 s2 e2))) else some (.inr s2.1))
noncomputable def wire_tables_fill.k1 (s1 : List Int) : Option (List Int) :=
  (loop (wire_tables_fill.st1) (s1, 1)).bind (fun e1 => some e1)
noncomputable def wire_tables_fill.k3 (s5 : List Int × Int) (s6 : List Int) : Option ((List Int × Int) ⊕ (List Int)) :=
  some (.inl (s6, IntKind.i64.wrap (s5.2 + 1)))
noncomputable def wire_tables_fill.k4 (s5 : List Int × Int) (s7 : Int) : Option ((List Int × Int) ⊕ (List Int)) :=
  chk (0 ≤ s5.2 ∧ s5.2 < 256) (chk (((0 + (0 : Int).toNat * 256) + (s5.2 : Int).toNat * 1) < s5.1.length) (wire_tables_fill.k3 s5 ((s5.1).set (((0 + (0 : Int).toNat * 256) + (s5.2 : Int).toNat * 1)) s7)))
noncomputable def wire_tables_fill.st4 (s8 : Int × Int) : Option ((Int × Int) ⊕ Int) :=
  (if ((decide (s8.2 < 8))) = true then (if ((decide (((bitsOf .and .u32 s8.1 1)) = 1))) = true then some (.inl (bitsOf .xor .u32 (shrI .u32 s8.1 1) 2197175160, IntKind.i64.wrap (s8.2 + 1))) else some (.inl (shrI .u32 s8.1 1, IntKind.i64.wrap (s8.2 + 1)))) else some (.inr s8.1))
noncomputable def wire_tables_fill.st3 (s5 : List Int × Int) : Option ((List Int × Int) ⊕ (List Int)) :=
  (if ((decide (s5.2 < 256))) = true then (loop (wire_tables_fill.st4) (IntKind.u32.wrap s5.2, 0)).bind (fun e4 => wire_tables_fill.k4 s5 e4) else some (.inr s5.1))
noncomputable def wire_tables_fill.impl (l0 : List Int) : Option (List Int) :=
  (loop (wire_tables_fill.st3) (l0, 0)).bind (fun e3 => wire_tables_fill.k1 e3)
set_option maxRecDepth 100000 in
set_option maxHeartbeats 4000000 in
theorem wire_tables_fill.c {B : World} {hs : List MP} {w : World} {p0 : Nat} {l0 : List Int} (hS : St B (Cl p0 89 (l0.map (Value.int .u32)) :: hs) w) {r : List Int} (hr : wire_tables_fill.impl l0 = some r) :
    Calls Try.prog 45 #[.pointer (some ⟨p0, 0, none⟩)] w fun e w' => ∃ x : Unit, e = .returned (.tuple #[]) ∧ St B (Cl p0 89 (r.map (Value.int .u32)) :: hs) w' := by
 unfold wire_tables_fill.impl at hr
 refine calls_T Try.func45 rfl rfl rfl hS ?_
 refine T.seqJ (fun (s1 : List Int) (x1 : Unit) => [(0, .pointer (some ⟨p0, 0, none⟩))]) (fun s1 x1 => Cl p0 89 (s1.map (Value.int .u32)) :: hs) (fun s1 => wire_tables_fill.k1 s1 = some r) (fun s1 x1 hk1 => ?_) (fun J1 => ?_)
 ·unfold wire_tables_fill.k1 at hk1
  refine T.seq ?_
  refine T.region ?_
  refine T.assign .list rfl (wants0 rfl) rfl rfl ?_
  refine T.nil ?_
  refine T.then_normal ?_
  refine T.block ?_
  obtain ⟨e1, hl1, hk1⟩ := inv_bind hk1
  refine T.le (EnvLe.cons rfl (EnvLe.cons rfl EnvLe.nil)) (T.pick [0] 1 rfl rfl (Nat.le_add_left _ _) rfl (T.loop (s0 := (s1, 1)) (env := fun s2 x2 => [(0, .pointer (some ⟨p0, 0, none⟩)), (5, .int .i64 s2.2)]) (hs := fun (s2 : List Int × Int) (x2 : Unit) => Cl p0 89 (s2.1.map (Value.int .u32)) :: hs) hl1 () (fun K1 s2 x2 o1 he1 hm1 hx1 => ?_)))
  unfold wire_tables_fill.st1 at he1
  refine T.seq ?_
  refine T.seq ?_
  refine T.region ?_
  refine T.move .list rfl (wants0 rfl) rfl rfl ?_
  refine T.bin .list rfl (wants0 rfl) rfl rfl rfl rfl ?_
  refine T.nil ?_
  refine T.then_normal ?_
  refine T.cond rfl (fun hb1 => ?_) (fun hb1 => ?_)
  ·replace he1 := inv_posB hb1 he1
   refine T.skip ?_
   refine T.then_normal ?_
   refine T.seqJ (fun (s3 : List Int) (x3 : Unit) => [(0, .pointer (some ⟨p0, 0, none⟩)), (5, .int .i64 s2.2)]) (fun s3 x3 => Cl p0 89 (s3.map (Value.int .u32)) :: hs) (fun s3 => wire_tables_fill.k2 s2 s3 = some o1) (fun s3 x3 hk2 => ?_) (fun J2 => ?_)
   ·unfold wire_tables_fill.k2 at hk2
    refine T.region ?_
    refine T.move .list rfl (wants0 rfl) rfl rfl ?_
    refine T.bin .list rfl (wants0 rfl) rfl rfl rfl rfl ?_
    refine T.assign .list rfl (wants0 rfl) rfl rfl ?_
    refine T.nil ?_
    refine T.then_normal ?_
    obtain rfl := inv_some hk2
    exact T.le (EnvLe.cons rfl (EnvLe.cons rfl EnvLe.nil)) (T.pick [0] 1 rfl rfl (Nat.le_add_left _ _) rfl (hm1 (s3, IntKind.i64.wrap (s2.2 + 1)) rfl ()))
   ·refine T.block ?_
    refine T.seq ?_
    refine T.region ?_
    refine T.move .list rfl (wants0 rfl) rfl rfl ?_
    refine T.move .list rfl (wants0 rfl) rfl rfl ?_
    refine T.bin .list rfl (wants0 rfl) rfl rfl rfl rfl ?_
    refine T.nilCheck .list rfl (wants0 rfl) rfl rfl ?_
    obtain ⟨hc1, he1⟩ := inv_chk he1
    refine T.idxArr .list rfl (wants0 rfl) rfl rfl rfl hc1.1 hc1.2 ?_
    obtain ⟨hc2, he1⟩ := inv_chk he1
    refine T.ldArrN .list 0 rfl rfl (wants0 rfl) rfl rfl hc2 ?_
    refine T.move .list rfl (wants0 rfl) rfl rfl ?_
    refine T.nil ?_
    refine T.then_normal ?_
    refine T.block ?_
    obtain ⟨e2, hl2, he1⟩ := inv_bind he1
    refine T.le (EnvLe.cons rfl (EnvLe.cons rfl (EnvLe.cons rfl (EnvLe.cons rfl EnvLe.nil)))) (T.pick [0] 1 rfl rfl (Nat.le_add_left _ _) rfl (T.loop (s0 := (s2.1, 0)) (env := fun s4 x4 => [(0, .pointer (some ⟨p0, 0, none⟩)), (5, .int .i64 s2.2), (40, .agg ((((s2.1).drop ((0 + (IntKind.i64.wrap (s2.2 - 1) : Int).toNat * 256))).take 256).map (Value.int .u32)).toArray), (41, .int .i64 s4.2)]) (hs := fun (s4 : List Int × Int) (x4 : Unit) => Cl p0 89 (s4.1.map (Value.int .u32)) :: hs) hl2 () (fun K2 s4 x4 o2 he2 hm2 hx2 => ?_)))
    unfold wire_tables_fill.st2 at he2
    refine T.seq ?_
    refine T.region ?_
    refine T.bin .list rfl (wants0 rfl) rfl rfl rfl rfl ?_
    refine T.nil ?_
    refine T.then_normal ?_
    refine T.seq ?_
    refine T.cond rfl (fun hb2 => ?_) (fun hb2 => ?_)
    ·replace he2 := inv_posB hb2 he2
     refine T.skip ?_
     refine T.then_normal ?_
     refine T.seq ?_
     refine T.block ?_
     refine T.seq ?_
     refine T.region ?_
     refine T.move .list rfl (wants0 rfl) rfl rfl ?_
     obtain ⟨hc3, he2⟩ := inv_chk he2
     refine T.indexAgg .list (L := (((s2.1).drop ((0 + (IntKind.i64.wrap (s2.2 - 1) : Int).toNat * 256))).take 256)) rfl (wants0 rfl) rfl rfl rfl hc3.1.1 hc3.1.2 hc3.2 (fun _ => rfl) ?_
     refine T.assign .list rfl (wants0 rfl) rfl rfl ?_
     refine T.assign .list rfl (wants0 rfl) rfl rfl ?_
     refine T.nil ?_
     refine T.then_normal ?_
     refine T.plan [(0, 0), (1, 0), (2, 0), (3, 0), (4, 0), (5, 0), (6, 0), (7, 0), (8, 0), (9, 0), (10, 0), (13, 0), (14, 0), (11, 1), (12, 0), (15, 0), (16, 2)] mixed (by kernel_rfl) (by kernel_rfl) rfl (fun d _ _ _ _ h => by cases d <;> exact h) ?_
     refine T.move (.plan rfl) rfl (wants0 rfl) rfl rfl ?_
     refine T.move (.plan rfl) rfl (wants0 rfl) rfl rfl ?_
     refine T.move (.plan rfl) rfl (wants0 rfl) rfl rfl ?_
     refine T.move (.plan rfl) rfl (wants0 rfl) rfl rfl ?_
     refine T.shr (.plan rfl) rfl (wants0 rfl) rfl rfl rfl (by decide) ?_
     refine T.move (.plan rfl) rfl (wants0 rfl) rfl rfl ?_
     refine T.move (.plan rfl) rfl (wants0 rfl) rfl rfl ?_
     refine T.bin (.plan rfl) rfl (wants0 rfl) rfl rfl rfl rfl ?_
     refine T.nilCheck (.plan rfl) rfl (wants0 rfl) rfl rfl ?_
     refine T.idxArr (.plan rfl) rfl (wants0 rfl) rfl rfl rfl (by decide) (by decide) ?_
     obtain ⟨hc4, he2⟩ := inv_chk he2
     refine T.idxArr (.plan rfl) rfl (wants0 rfl) rfl rfl rfl hc4.1 hc4.2 ?_
     refine T.nilCheck (.plan rfl) rfl (wants0 rfl) rfl rfl ?_
     obtain ⟨hc5, he2⟩ := inv_chk he2
     refine T.idxArr (.plan rfl) rfl (wants0 rfl) rfl rfl rfl hc5.1 hc5.2 ?_
     obtain ⟨hc6, he2⟩ := inv_chk he2
     refine T.ldArr (.plan rfl) 0 rfl rfl (wants0 rfl) rfl rfl hc6 ?_
     refine T.bin (.plan rfl) rfl (wants0 rfl) rfl rfl rfl rfl ?_
     obtain ⟨hc7, he2⟩ := inv_chk he2
     refine T.idxArr (.plan rfl) rfl (wants0 rfl) rfl rfl rfl hc7.1 hc7.2 ?_
     obtain ⟨hc8, he2⟩ := inv_chk he2
     refine T.stArr (.plan rfl) 0 rfl rfl (wants0 rfl) rfl rfl rfl rfl rfl hc8 rfl ?_
     refine T.planEnd ?_
     refine T.in_normal ?_
     refine T.then_normal ?_
     refine T.region ?_
     refine T.bin .list rfl (wants0 rfl) rfl rfl rfl rfl ?_
     refine T.move .list rfl (wants0 rfl) rfl rfl ?_
     refine T.nil ?_
     refine T.then_normal ?_
     obtain rfl := inv_some he2
     exact T.le (EnvLe.cons rfl (EnvLe.cons rfl (EnvLe.cons rfl (EnvLe.cons rfl EnvLe.nil)))) (T.pick [0] 1 rfl rfl (Nat.le_add_left _ _) rfl (hm2 (((s4.1).set (((0 + (s2.2 : Int).toNat * 256) + (s4.2 : Int).toNat * 1)) (bitsOf .xor .u32 (shrI .u32 (((((s2.1).drop ((0 + (IntKind.i64.wrap (s2.2 - 1) : Int).toNat * 256))).take 256).getD (s4.2 : Int).toNat default)) 8) (((s4.1).getD (((0 + (0 : Int).toNat * 256) + (bitsOf .and .u32 (((((s2.1).drop ((0 + (IntKind.i64.wrap (s2.2 - 1) : Int).toNat * 256))).take 256).getD (s4.2 : Int).toNat default)) 255 : Int).toNat * 1)) default)))), IntKind.i64.wrap (s4.2 + 1)) rfl ()))
    ·replace he2 := inv_negB hb2 he2
     refine T.exit ?_
     refine T.then_exit ?_
     refine T.then_exit ?_
     obtain rfl := inv_some he2
     obtain rfl := hx2 _ rfl
     refine T.in_hit ?_
     refine T.in_normal ?_
     refine T.then_normal ?_
     exact T.le (EnvLe.cons rfl (EnvLe.cons rfl EnvLe.nil)) (T.pick [0] 1 rfl rfl (Nat.le_add_left _ _) rfl (J2 s4.1 () he1))
  ·replace he1 := inv_negB hb1 he1
   refine T.exit ?_
   refine T.then_exit ?_
   refine T.then_exit ?_
   obtain rfl := inv_some he1
   obtain rfl := hx1 _ rfl
   refine T.in_hit ?_
   obtain rfl := inv_some hk1
   refine T.pick [0] 1 rfl rfl (Nat.le_add_left _ _) rfl ?_
   refine T.end0 rfl (fun w hS => ⟨(), rfl, hS⟩)
 ·refine T.seq ?_
  refine T.region ?_
  refine T.move .list rfl (wants0 rfl) rfl rfl ?_
  refine T.nil ?_
  refine T.then_normal ?_
  refine T.block ?_
  obtain ⟨e3, hl3, hr⟩ := inv_bind hr
  refine T.le (EnvLe.cons rfl (EnvLe.cons rfl EnvLe.nil)) (T.pick [0] 1 rfl rfl (Nat.le_add_left _ _) rfl (T.loop (s0 := (l0, 0)) (env := fun s5 x5 => [(0, .pointer (some ⟨p0, 0, none⟩)), (8, .int .i64 s5.2)]) (hs := fun (s5 : List Int × Int) (x5 : Unit) => Cl p0 89 (s5.1.map (Value.int .u32)) :: hs) hl3 () (fun K3 s5 x5 o3 he3 hm3 hx3 => ?_)))
  unfold wire_tables_fill.st3 at he3
  refine T.seq ?_
  refine T.region ?_
  refine T.bin .list rfl (wants0 rfl) rfl rfl rfl rfl ?_
  refine T.nil ?_
  refine T.then_normal ?_
  refine T.seq ?_
  refine T.cond rfl (fun hb3 => ?_) (fun hb3 => ?_)
  ·replace he3 := inv_posB hb3 he3
   refine T.skip ?_
   refine T.then_normal ?_
   refine T.seqJ (fun (s6 : List Int) (x6 : Unit) => [(0, .pointer (some ⟨p0, 0, none⟩)), (8, .int .i64 s5.2)]) (fun s6 x6 => Cl p0 89 (s6.map (Value.int .u32)) :: hs) (fun s6 => wire_tables_fill.k3 s5 s6 = some o3) (fun s6 x6 hk3 => ?_) (fun J3 => ?_)
   ·unfold wire_tables_fill.k3 at hk3
    refine T.region ?_
    refine T.bin .list rfl (wants0 rfl) rfl rfl rfl rfl ?_
    refine T.move .list rfl (wants0 rfl) rfl rfl ?_
    refine T.nil ?_
    refine T.then_normal ?_
    obtain rfl := inv_some hk3
    exact T.le (EnvLe.cons rfl (EnvLe.cons rfl EnvLe.nil)) (T.pick [0] 1 rfl rfl (Nat.le_add_left _ _) rfl (hm3 (s6, IntKind.i64.wrap (s5.2 + 1)) rfl ()))
   ·refine T.block ?_
    refine T.seq ?_
    refine T.region ?_
    refine T.move .list rfl (wants0 rfl) rfl rfl ?_
    refine T.assign .list rfl (wants0 rfl) rfl rfl ?_
    refine T.nil ?_
    refine T.then_normal ?_
    refine T.seq ?_
    refine T.region ?_
    refine T.move .list rfl (wants0 rfl) rfl rfl ?_
    refine T.conv .list rfl (wants0 rfl) rfl rfl rfl ?_
    refine T.assign .list rfl (wants0 rfl) rfl rfl ?_
    refine T.nil ?_
    refine T.then_normal ?_
    refine T.seqJ (fun (s7 : Int) (x7 : Unit) => [(0, .pointer (some ⟨p0, 0, none⟩)), (2, .int .i64 s5.2), (3, .int .u32 s7), (8, .int .i64 s5.2)]) (fun s7 x7 => Cl p0 89 (s5.1.map (Value.int .u32)) :: hs) (fun s7 => wire_tables_fill.k4 s5 s7 = some o3) (fun s7 x7 hk4 => ?_) (fun J4 => ?_)
    ·unfold wire_tables_fill.k4 at hk4
     refine T.region ?_
     refine T.move .list rfl (wants0 rfl) rfl rfl ?_
     refine T.move .list rfl (wants0 rfl) rfl rfl ?_
     refine T.move .list rfl (wants0 rfl) rfl rfl ?_
     refine T.nilCheck .list rfl (wants0 rfl) rfl rfl ?_
     refine T.idxArr .list rfl (wants0 rfl) rfl rfl rfl (by decide) (by decide) ?_
     obtain ⟨hc9, hk4⟩ := inv_chk hk4
     refine T.idxArr .list rfl (wants0 rfl) rfl rfl rfl hc9.1 hc9.2 ?_
     obtain ⟨hc10, hk4⟩ := inv_chk hk4
     refine T.stArr .list 0 rfl rfl (wants0 rfl) rfl rfl rfl rfl rfl hc10 rfl ?_
     refine T.nil ?_
     refine T.in_normal ?_
     refine T.then_normal ?_
     exact T.le (EnvLe.cons rfl (EnvLe.cons rfl EnvLe.nil)) (T.pick [0] 1 rfl rfl (Nat.le_add_left _ _) rfl (J3 ((s5.1).set (((0 + (0 : Int).toNat * 256) + (s5.2 : Int).toNat * 1)) s7) () hk4))
    ·refine T.seq ?_
     refine T.region ?_
     refine T.move .list rfl (wants0 rfl) rfl rfl ?_
     refine T.nil ?_
     refine T.then_normal ?_
     refine T.block ?_
     obtain ⟨e4, hl4, he3⟩ := inv_bind he3
     refine T.le (EnvLe.cons rfl (EnvLe.cons rfl (EnvLe.cons rfl (EnvLe.cons rfl (EnvLe.cons rfl EnvLe.nil))))) (T.pick [0] 1 rfl rfl (Nat.le_add_left _ _) rfl (T.loop (s0 := (IntKind.u32.wrap s5.2, 0)) (env := fun s8 x8 => [(0, .pointer (some ⟨p0, 0, none⟩)), (2, .int .i64 s5.2), (3, .int .u32 s8.1), (8, .int .i64 s5.2), (13, .int .i64 s8.2)]) (hs := fun (s8 : Int × Int) (x8 : Unit) => Cl p0 89 (s5.1.map (Value.int .u32)) :: hs) hl4 () (fun K4 s8 x8 o4 he4 hm4 hx4 => ?_)))
     unfold wire_tables_fill.st4 at he4
     refine T.seq ?_
     refine T.region ?_
     refine T.bin .list rfl (wants0 rfl) rfl rfl rfl rfl ?_
     refine T.nil ?_
     refine T.then_normal ?_
     refine T.seq ?_
     refine T.cond rfl (fun hb4 => ?_) (fun hb4 => ?_)
     ·replace he4 := inv_posB hb4 he4
      refine T.skip ?_
      refine T.then_normal ?_
      refine T.seq ?_
      refine T.block ?_
      refine T.seq ?_
      refine T.region ?_
      refine T.move .list rfl (wants0 rfl) rfl rfl ?_
      refine T.bin .list rfl (wants0 rfl) rfl rfl rfl rfl ?_
      refine T.assign .list rfl (wants0 rfl) rfl rfl ?_
      refine T.nil ?_
      refine T.then_normal ?_
      refine T.seq ?_
      refine T.region ?_
      refine T.move .list rfl (wants0 rfl) rfl rfl ?_
      refine T.shr .list rfl (wants0 rfl) rfl rfl rfl (by decide) ?_
      refine T.assign .list rfl (wants0 rfl) rfl rfl ?_
      refine T.nil ?_
      refine T.then_normal ?_
      refine T.seq ?_
      refine T.region ?_
      refine T.move .list rfl (wants0 rfl) rfl rfl ?_
      refine T.bin .list rfl (wants0 rfl) rfl rfl rfl rfl ?_
      refine T.nil ?_
      refine T.then_normal ?_
      refine T.cond rfl (fun hb5 => ?_) (fun hb5 => ?_)
      ·replace he4 := inv_posB hb5 he4
       refine T.region ?_
       refine T.move .list rfl (wants0 rfl) rfl rfl ?_
       refine T.bin .list rfl (wants0 rfl) rfl rfl rfl rfl ?_
       refine T.assign .list rfl (wants0 rfl) rfl rfl ?_
       refine T.nil ?_
       refine T.in_normal ?_
       refine T.then_normal ?_
       refine T.region ?_
       refine T.bin .list rfl (wants0 rfl) rfl rfl rfl rfl ?_
       refine T.move .list rfl (wants0 rfl) rfl rfl ?_
       refine T.nil ?_
       refine T.then_normal ?_
       obtain rfl := inv_some he4
       exact T.le (EnvLe.cons rfl (EnvLe.cons rfl (EnvLe.cons rfl (EnvLe.cons rfl (EnvLe.cons rfl EnvLe.nil))))) (T.pick [0] 1 rfl rfl (Nat.le_add_left _ _) rfl (hm4 (bitsOf .xor .u32 (shrI .u32 s8.1 1) 2197175160, IntKind.i64.wrap (s8.2 + 1)) rfl ()))
      ·replace he4 := inv_negB hb5 he4
       refine T.skip ?_
       refine T.in_normal ?_
       refine T.then_normal ?_
       refine T.region ?_
       refine T.bin .list rfl (wants0 rfl) rfl rfl rfl rfl ?_
       refine T.move .list rfl (wants0 rfl) rfl rfl ?_
       refine T.nil ?_
       refine T.then_normal ?_
       obtain rfl := inv_some he4
       exact T.le (EnvLe.cons rfl (EnvLe.cons rfl (EnvLe.cons rfl (EnvLe.cons rfl (EnvLe.cons rfl EnvLe.nil))))) (T.pick [0] 1 rfl rfl (Nat.le_add_left _ _) rfl (hm4 (shrI .u32 s8.1 1, IntKind.i64.wrap (s8.2 + 1)) rfl ()))
     ·replace he4 := inv_negB hb4 he4
      refine T.exit ?_
      refine T.then_exit ?_
      refine T.then_exit ?_
      obtain rfl := inv_some he4
      obtain rfl := hx4 _ rfl
      refine T.in_hit ?_
      refine T.then_normal ?_
      exact T.le (EnvLe.cons rfl (EnvLe.cons rfl (EnvLe.cons rfl (EnvLe.cons rfl EnvLe.nil)))) (T.pick [0] 1 rfl rfl (Nat.le_add_left _ _) rfl (J4 s8.1 () he3))
  ·replace he3 := inv_negB hb3 he3
   refine T.exit ?_
   refine T.then_exit ?_
   refine T.then_exit ?_
   obtain rfl := inv_some he3
   obtain rfl := hx3 _ rfl
   refine T.in_hit ?_
   refine T.then_normal ?_
   exact T.le (EnvLe.cons rfl EnvLe.nil) (T.pick [0] 1 rfl rfl (Nat.le_add_left _ _) rfl (J1 s5.1 () hr))

noncomputable def wire_Sum.k2 (s2 : Int) : Option Int :=
  some (bitsOf .xor .u32 (if IntKind.signed .u32 then -1 else IntKind.max .u32) s2)
noncomputable def wire_Sum.st1 (s1 : List UInt8 × Int) (r1 : List Int) (s3 : Int × Int) : Option ((Int × Int) ⊕ Int) :=
  (if ((decide (s3.2 < ((s1.1.length : Int))))) = true then chk (0 ≤ s3.2 ∧ s3.2 < (s1.1.length : Int)) (chk (0 ≤ (bitsOf .xor .u8 (IntKind.u8.wrap s3.1) ((((s1.1).getD (s3.2 : Int).toNat default).toNat : Int))) ∧ (bitsOf .xor .u8 (IntKind.u8.wrap s3.1) ((((s1.1).getD (s3.2 : Int).toNat default).toNat : Int))) < 256) (chk (((0 + (0 : Int).toNat * 256) + (bitsOf .xor .u8 (IntKind.u8.wrap s3.1) ((((s1.1).getD (s3.2 : Int).toNat default).toNat : Int)) : Int).toNat * 1) < r1.length) (some (.inl (bitsOf .xor .u32 (shrI .u32 s3.1 8) (((r1).getD (((0 + (0 : Int).toNat * 256) + (bitsOf .xor .u8 (IntKind.u8.wrap s3.1) ((((s1.1).getD (s3.2 : Int).toNat default).toNat : Int)) : Int).toNat * 1)) default)), IntKind.i64.wrap (s3.2 + 1)))))) else some (.inr s3.1))
noncomputable def wire_Sum.k1 (r1 : List Int) (s1 : List UInt8 × Int) : Option Int :=
  (loop (wire_Sum.st1 s1 r1) (s1.2, 0)).bind (fun e1 => wire_Sum.k2 e1)
noncomputable def wire_Sum.st2 (r1 : List Int) (s4 : List UInt8 × Int) : Option ((List UInt8 × Int) ⊕ (List UInt8 × Int)) :=
  (if ((decide ((4 : Int) ≤ ((s4.1.length : Int))))) = true then chk (0 ≤ (0 : Int) ∧ (0 : Int) < (s4.1.length : Int)) (chk (0 ≤ (1 : Int) ∧ (1 : Int) < (s4.1.length : Int)) (chk (0 ≤ (2 : Int) ∧ (2 : Int) < (s4.1.length : Int)) (chk (0 ≤ (3 : Int) ∧ (3 : Int) < (s4.1.length : Int)) (chk (0 ≤ (bitsOf .and .u32 (bitsOf .xor .u32 s4.2 (bitsOf .or .u32 (bitsOf .or .u32 (bitsOf .or .u32 (IntKind.u32.wrap ((((s4.1).getD (0 : Int).toNat default).toNat : Int))) (shlI .u32 (IntKind.u32.wrap ((((s4.1).getD (1 : Int).toNat default).toNat : Int))) 8)) (shlI .u32 (IntKind.u32.wrap ((((s4.1).getD (2 : Int).toNat default).toNat : Int))) 16)) (shlI .u32 (IntKind.u32.wrap ((((s4.1).getD (3 : Int).toNat default).toNat : Int))) 24))) 255) ∧ (bitsOf .and .u32 (bitsOf .xor .u32 s4.2 (bitsOf .or .u32 (bitsOf .or .u32 (bitsOf .or .u32 (IntKind.u32.wrap ((((s4.1).getD (0 : Int).toNat default).toNat : Int))) (shlI .u32 (IntKind.u32.wrap ((((s4.1).getD (1 : Int).toNat default).toNat : Int))) 8)) (shlI .u32 (IntKind.u32.wrap ((((s4.1).getD (2 : Int).toNat default).toNat : Int))) 16)) (shlI .u32 (IntKind.u32.wrap ((((s4.1).getD (3 : Int).toNat default).toNat : Int))) 24))) 255) < 256) (chk (0 ≤ (bitsOf .and .u32 (shrI .u32 (bitsOf .xor .u32 s4.2 (bitsOf .or .u32 (bitsOf .or .u32 (bitsOf .or .u32 (IntKind.u32.wrap ((((s4.1).getD (0 : Int).toNat default).toNat : Int))) (shlI .u32 (IntKind.u32.wrap ((((s4.1).getD (1 : Int).toNat default).toNat : Int))) 8)) (shlI .u32 (IntKind.u32.wrap ((((s4.1).getD (2 : Int).toNat default).toNat : Int))) 16)) (shlI .u32 (IntKind.u32.wrap ((((s4.1).getD (3 : Int).toNat default).toNat : Int))) 24))) 8) 255) ∧ (bitsOf .and .u32 (shrI .u32 (bitsOf .xor .u32 s4.2 (bitsOf .or .u32 (bitsOf .or .u32 (bitsOf .or .u32 (IntKind.u32.wrap ((((s4.1).getD (0 : Int).toNat default).toNat : Int))) (shlI .u32 (IntKind.u32.wrap ((((s4.1).getD (1 : Int).toNat default).toNat : Int))) 8)) (shlI .u32 (IntKind.u32.wrap ((((s4.1).getD (2 : Int).toNat default).toNat : Int))) 16)) (shlI .u32 (IntKind.u32.wrap ((((s4.1).getD (3 : Int).toNat default).toNat : Int))) 24))) 8) 255) < 256) (chk (0 ≤ (bitsOf .and .u32 (shrI .u32 (bitsOf .xor .u32 s4.2 (bitsOf .or .u32 (bitsOf .or .u32 (bitsOf .or .u32 (IntKind.u32.wrap ((((s4.1).getD (0 : Int).toNat default).toNat : Int))) (shlI .u32 (IntKind.u32.wrap ((((s4.1).getD (1 : Int).toNat default).toNat : Int))) 8)) (shlI .u32 (IntKind.u32.wrap ((((s4.1).getD (2 : Int).toNat default).toNat : Int))) 16)) (shlI .u32 (IntKind.u32.wrap ((((s4.1).getD (3 : Int).toNat default).toNat : Int))) 24))) 16) 255) ∧ (bitsOf .and .u32 (shrI .u32 (bitsOf .xor .u32 s4.2 (bitsOf .or .u32 (bitsOf .or .u32 (bitsOf .or .u32 (IntKind.u32.wrap ((((s4.1).getD (0 : Int).toNat default).toNat : Int))) (shlI .u32 (IntKind.u32.wrap ((((s4.1).getD (1 : Int).toNat default).toNat : Int))) 8)) (shlI .u32 (IntKind.u32.wrap ((((s4.1).getD (2 : Int).toNat default).toNat : Int))) 16)) (shlI .u32 (IntKind.u32.wrap ((((s4.1).getD (3 : Int).toNat default).toNat : Int))) 24))) 16) 255) < 256) (chk (0 ≤ (shrI .u32 (bitsOf .xor .u32 s4.2 (bitsOf .or .u32 (bitsOf .or .u32 (bitsOf .or .u32 (IntKind.u32.wrap ((((s4.1).getD (0 : Int).toNat default).toNat : Int))) (shlI .u32 (IntKind.u32.wrap ((((s4.1).getD (1 : Int).toNat default).toNat : Int))) 8)) (shlI .u32 (IntKind.u32.wrap ((((s4.1).getD (2 : Int).toNat default).toNat : Int))) 16)) (shlI .u32 (IntKind.u32.wrap ((((s4.1).getD (3 : Int).toNat default).toNat : Int))) 24))) 24) ∧ (shrI .u32 (bitsOf .xor .u32 s4.2 (bitsOf .or .u32 (bitsOf .or .u32 (bitsOf .or .u32 (IntKind.u32.wrap ((((s4.1).getD (0 : Int).toNat default).toNat : Int))) (shlI .u32 (IntKind.u32.wrap ((((s4.1).getD (1 : Int).toNat default).toNat : Int))) 8)) (shlI .u32 (IntKind.u32.wrap ((((s4.1).getD (2 : Int).toNat default).toNat : Int))) 16)) (shlI .u32 (IntKind.u32.wrap ((((s4.1).getD (3 : Int).toNat default).toNat : Int))) 24))) 24) < 256) (chk (((0 + (3 : Int).toNat * 256) + (bitsOf .and .u32 (bitsOf .xor .u32 s4.2 (bitsOf .or .u32 (bitsOf .or .u32 (bitsOf .or .u32 (IntKind.u32.wrap ((((s4.1).getD (0 : Int).toNat default).toNat : Int))) (shlI .u32 (IntKind.u32.wrap ((((s4.1).getD (1 : Int).toNat default).toNat : Int))) 8)) (shlI .u32 (IntKind.u32.wrap ((((s4.1).getD (2 : Int).toNat default).toNat : Int))) 16)) (shlI .u32 (IntKind.u32.wrap ((((s4.1).getD (3 : Int).toNat default).toNat : Int))) 24))) 255 : Int).toNat * 1) < r1.length) (chk (((0 + (2 : Int).toNat * 256) + (bitsOf .and .u32 (shrI .u32 (bitsOf .xor .u32 s4.2 (bitsOf .or .u32 (bitsOf .or .u32 (bitsOf .or .u32 (IntKind.u32.wrap ((((s4.1).getD (0 : Int).toNat default).toNat : Int))) (shlI .u32 (IntKind.u32.wrap ((((s4.1).getD (1 : Int).toNat default).toNat : Int))) 8)) (shlI .u32 (IntKind.u32.wrap ((((s4.1).getD (2 : Int).toNat default).toNat : Int))) 16)) (shlI .u32 (IntKind.u32.wrap ((((s4.1).getD (3 : Int).toNat default).toNat : Int))) 24))) 8) 255 : Int).toNat * 1) < r1.length) (chk (((0 + (1 : Int).toNat * 256) + (bitsOf .and .u32 (shrI .u32 (bitsOf .xor .u32 s4.2 (bitsOf .or .u32 (bitsOf .or .u32 (bitsOf .or .u32 (IntKind.u32.wrap ((((s4.1).getD (0 : Int).toNat default).toNat : Int))) (shlI .u32 (IntKind.u32.wrap ((((s4.1).getD (1 : Int).toNat default).toNat : Int))) 8)) (shlI .u32 (IntKind.u32.wrap ((((s4.1).getD (2 : Int).toNat default).toNat : Int))) 16)) (shlI .u32 (IntKind.u32.wrap ((((s4.1).getD (3 : Int).toNat default).toNat : Int))) 24))) 16) 255 : Int).toNat * 1) < r1.length) (chk (((0 + (0 : Int).toNat * 256) + (shrI .u32 (bitsOf .xor .u32 s4.2 (bitsOf .or .u32 (bitsOf .or .u32 (bitsOf .or .u32 (IntKind.u32.wrap ((((s4.1).getD (0 : Int).toNat default).toNat : Int))) (shlI .u32 (IntKind.u32.wrap ((((s4.1).getD (1 : Int).toNat default).toNat : Int))) 8)) (shlI .u32 (IntKind.u32.wrap ((((s4.1).getD (2 : Int).toNat default).toNat : Int))) 16)) (shlI .u32 (IntKind.u32.wrap ((((s4.1).getD (3 : Int).toNat default).toNat : Int))) 24))) 24 : Int).toNat * 1) < r1.length) (chk (0 ≤ (4 : Int) ∧ (4 : Int) ≤ ((s4.1.length : Int)) ∧ ((s4.1.length : Int)) ≤ (s4.1.length : Int)) (some (.inl (subl s4.1 4 ((s4.1.length : Int)), bitsOf .xor .u32 (bitsOf .xor .u32 (bitsOf .xor .u32 (((r1).getD (((0 + (3 : Int).toNat * 256) + (bitsOf .and .u32 (bitsOf .xor .u32 s4.2 (bitsOf .or .u32 (bitsOf .or .u32 (bitsOf .or .u32 (IntKind.u32.wrap ((((s4.1).getD (0 : Int).toNat default).toNat : Int))) (shlI .u32 (IntKind.u32.wrap ((((s4.1).getD (1 : Int).toNat default).toNat : Int))) 8)) (shlI .u32 (IntKind.u32.wrap ((((s4.1).getD (2 : Int).toNat default).toNat : Int))) 16)) (shlI .u32 (IntKind.u32.wrap ((((s4.1).getD (3 : Int).toNat default).toNat : Int))) 24))) 255 : Int).toNat * 1)) default)) (((r1).getD (((0 + (2 : Int).toNat * 256) + (bitsOf .and .u32 (shrI .u32 (bitsOf .xor .u32 s4.2 (bitsOf .or .u32 (bitsOf .or .u32 (bitsOf .or .u32 (IntKind.u32.wrap ((((s4.1).getD (0 : Int).toNat default).toNat : Int))) (shlI .u32 (IntKind.u32.wrap ((((s4.1).getD (1 : Int).toNat default).toNat : Int))) 8)) (shlI .u32 (IntKind.u32.wrap ((((s4.1).getD (2 : Int).toNat default).toNat : Int))) 16)) (shlI .u32 (IntKind.u32.wrap ((((s4.1).getD (3 : Int).toNat default).toNat : Int))) 24))) 8) 255 : Int).toNat * 1)) default))) (((r1).getD (((0 + (1 : Int).toNat * 256) + (bitsOf .and .u32 (shrI .u32 (bitsOf .xor .u32 s4.2 (bitsOf .or .u32 (bitsOf .or .u32 (bitsOf .or .u32 (IntKind.u32.wrap ((((s4.1).getD (0 : Int).toNat default).toNat : Int))) (shlI .u32 (IntKind.u32.wrap ((((s4.1).getD (1 : Int).toNat default).toNat : Int))) 8)) (shlI .u32 (IntKind.u32.wrap ((((s4.1).getD (2 : Int).toNat default).toNat : Int))) 16)) (shlI .u32 (IntKind.u32.wrap ((((s4.1).getD (3 : Int).toNat default).toNat : Int))) 24))) 16) 255 : Int).toNat * 1)) default))) (((r1).getD (((0 + (0 : Int).toNat * 256) + (shrI .u32 (bitsOf .xor .u32 s4.2 (bitsOf .or .u32 (bitsOf .or .u32 (bitsOf .or .u32 (IntKind.u32.wrap ((((s4.1).getD (0 : Int).toNat default).toNat : Int))) (shlI .u32 (IntKind.u32.wrap ((((s4.1).getD (1 : Int).toNat default).toNat : Int))) 8)) (shlI .u32 (IntKind.u32.wrap ((((s4.1).getD (2 : Int).toNat default).toNat : Int))) 16)) (shlI .u32 (IntKind.u32.wrap ((((s4.1).getD (3 : Int).toNat default).toNat : Int))) 24))) 24 : Int).toNat * 1)) default))))))))))))))))) else some (.inr (s4.1, s4.2)))
noncomputable def wire_Sum.impl (l0 : List UInt8) : Option Int :=
  (wire_tables_fill.impl (List.replicate 1024 (0 : Int))).bind fun r1 => (loop (wire_Sum.st2 r1) (l0, 4294967295)).bind (fun e2 => wire_Sum.k1 r1 e2)
set_option maxRecDepth 100000 in
set_option maxHeartbeats 4000000 in
theorem wire_Sum.c {B : World} {hs : List MP} {w : World} {i0 c0 : Nat} {A0 : Option Addr} {l0 : List UInt8} (hS : St B (hs) w) (h0 : (hs)[i0]? = some (Ro E8 A0 c0 l0)) {r : Int} (hr : wire_Sum.impl l0 = some r) :
    Calls Try.prog 37 #[.slice A0 l0.length c0] w fun e w' => ∃ x : Unit, e = .returned (.int .u32 r) ∧ St B (hs) w' := by
 unfold wire_Sum.impl at hr
 refine calls_T Try.func37 rfl rfl rfl hS ?_
 refine T.front i0 h0 ?_
 refine T.seq ?_
 refine T.region ?_
 refine T.assign .list rfl (wants0 rfl) rfl rfl ?_
 refine T.nil ?_
 refine T.then_normal ?_
 refine T.seq ?_
 refine T.region ?_
 refine T.allocArr 1024 (Value.int .u32) (0 : Int) .list rfl (wants0 rfl) rfl (fun b1 => ?_)
 refine T.nil ?_
 refine T.then_normal ?_
 refine T.seq ?_
 refine T.region ?_
 refine T.pick [0, 1] 2 rfl rfl (Nat.le_add_left _ _) (hs' := Cl b1 89 ((List.replicate 1024 (0 : Int)).map (Value.int .u32)) :: Ro E8 A0 c0 l0 :: hs) rfl ?_
 obtain ⟨r1, hg1, hr⟩ := inv_bind hr
 refine T.call .list (wants0 rfl) rfl (run_callF (vs := [_]) rfl Try.func45 rfl (by decide) rfl) (fun w hS => wire_tables_fill.c hS  hg1) (fun x1 => ?_)
 refine T.nil ?_
 refine T.then_normal ?_
 refine T.seq ?_
 refine T.region ?_
 refine T.assign .list rfl (wants0 rfl) rfl rfl ?_
 refine T.nil ?_
 refine T.then_normal ?_
 refine T.seqJ (fun (s1 : List UInt8 × Int) (x2 : (Option Addr × Nat)) => [(0, .slice x2.1 s1.1.length x2.2), (3, .pointer (some ⟨b1, 0, none⟩)), (4, .int .u32 s1.2)]) (fun s1 x2 => Ro E8 x2.1 x2.2 s1.1 :: Cl b1 89 (r1.map (Value.int .u32)) :: hs) (fun s1 => wire_Sum.k1 r1 s1 = some r) (fun s1 x2 hk1 => ?_) (fun J1 => ?_)
 ·unfold wire_Sum.k1 at hk1
  refine T.seqJ (fun (s2 : Int) (x3 : Unit) => [(4, .int .u32 s2)]) (fun s2 x3 => hs) (fun s2 => wire_Sum.k2 s2 = some r) (fun s2 x3 hk2 => ?_) (fun J2 => ?_)
  ·unfold wire_Sum.k2 at hk2
   refine T.seq ?_
   refine T.region ?_
   refine T.move .list rfl (wants0 rfl) rfl rfl ?_
   refine T.compl .list rfl (wants0 rfl) rfl rfl ?_
   refine T.assign .list rfl (wants0 rfl) rfl rfl ?_
   refine T.nil ?_
   refine T.then_normal ?_
   refine T.ret ?_
   obtain rfl := inv_some hk2
   refine T.pick [] 0 rfl rfl (Nat.le_add_left _ _) rfl ?_
   refine T.ret1 rfl rfl (fun w hS => ⟨(), rfl, hS⟩)
  ·refine T.seq ?_
   refine T.region ?_
   refine T.move .list rfl (wants0 rfl) rfl rfl ?_
   refine T.lenSlice .list rfl (wants0 rfl) rfl rfl ?_
   refine T.move .list rfl (wants0 rfl) rfl rfl ?_
   refine T.nil ?_
   refine T.then_normal ?_
   refine T.block ?_
   obtain ⟨e1, hl1, hk1⟩ := inv_bind hk1
   refine T.le (EnvLe.cons rfl (EnvLe.cons rfl (EnvLe.cons rfl (EnvLe.cons rfl (EnvLe.cons rfl EnvLe.nil))))) (T.pick [1, 0] 2 rfl rfl (Nat.le_add_left _ _) rfl (T.loop (s0 := (s1.2, 0)) (env := fun s3 x4 => [(3, .pointer (some ⟨b1, 0, none⟩)), (4, .int .u32 s3.1), (62, .slice x2.1 s1.1.length x2.2), (63, .int .i64 ((s1.1.length : Int))), (64, .int .i64 s3.2)]) (hs := fun (s3 : Int × Int) (x4 : Unit) => Cl b1 89 (r1.map (Value.int .u32)) :: Ro E8 x2.1 x2.2 s1.1 :: hs) hl1 () (fun K1 s3 x4 o1 he1 hm1 hx1 => ?_)))
   unfold wire_Sum.st1 at he1
   refine T.seq ?_
   refine T.region ?_
   refine T.bin .list rfl (wants0 rfl) rfl rfl rfl rfl ?_
   refine T.nil ?_
   refine T.then_normal ?_
   refine T.seq ?_
   refine T.cond rfl (fun hb1 => ?_) (fun hb1 => ?_)
   ·replace he1 := inv_posB hb1 he1
    refine T.skip ?_
    refine T.then_normal ?_
    refine T.seq ?_
    refine T.block ?_
    refine T.seq ?_
    refine T.region ?_
    obtain ⟨hc1, he1⟩ := inv_chk he1
    refine T.idxRo .list 1 rfl rfl (wants0 rfl) rfl rfl rfl hc1.1 hc1.2 (Nat.le_refl _) ?_
    refine T.ldRo1 .list 1 rfl rfl (wants0 rfl) rfl rfl hc1.1 hc1.2 ?_
    refine T.assign .list rfl (wants0 rfl) rfl rfl ?_
    refine T.nil ?_
    refine T.then_normal ?_
    refine T.region ?_
    refine T.move .list rfl (wants0 rfl) rfl rfl ?_
    refine T.shr .list rfl (wants0 rfl) rfl rfl rfl (by decide) ?_
    refine T.move .list rfl (wants0 rfl) rfl rfl ?_
    refine T.conv .list rfl (wants0 rfl) rfl rfl rfl ?_
    refine T.move .list rfl (wants0 rfl) rfl rfl ?_
    refine T.bin .list rfl (wants0 rfl) rfl rfl rfl rfl ?_
    refine T.idxArr .list rfl (wants0 rfl) rfl rfl rfl (by decide) (by decide) ?_
    obtain ⟨hc2, he1⟩ := inv_chk he1
    refine T.idxArr .list rfl (wants0 rfl) rfl rfl rfl hc2.1 hc2.2 ?_
    obtain ⟨hc3, he1⟩ := inv_chk he1
    refine T.ldArr .list 0 rfl rfl (wants0 rfl) rfl rfl hc3 ?_
    refine T.bin .list rfl (wants0 rfl) rfl rfl rfl rfl ?_
    refine T.assign .list rfl (wants0 rfl) rfl rfl ?_
    refine T.nil ?_
    refine T.in_normal ?_
    refine T.then_normal ?_
    refine T.region ?_
    refine T.bin .list rfl (wants0 rfl) rfl rfl rfl rfl ?_
    refine T.move .list rfl (wants0 rfl) rfl rfl ?_
    refine T.nil ?_
    refine T.then_normal ?_
    obtain rfl := inv_some he1
    exact T.le (EnvLe.cons rfl (EnvLe.cons rfl (EnvLe.cons rfl (EnvLe.cons rfl (EnvLe.cons rfl EnvLe.nil))))) (T.pick [0, 1] 2 rfl rfl (Nat.le_add_left _ _) rfl (hm1 (bitsOf .xor .u32 (shrI .u32 s3.1 8) (((r1).getD (((0 + (0 : Int).toNat * 256) + (bitsOf .xor .u8 (IntKind.u8.wrap s3.1) ((((s1.1).getD (s3.2 : Int).toNat default).toNat : Int)) : Int).toNat * 1)) default)), IntKind.i64.wrap (s3.2 + 1)) rfl ()))
   ·replace he1 := inv_negB hb1 he1
    refine T.exit ?_
    refine T.then_exit ?_
    refine T.then_exit ?_
    obtain rfl := inv_some he1
    obtain rfl := hx1 _ rfl
    refine T.in_hit ?_
    refine T.then_normal ?_
    exact T.le (EnvLe.cons rfl EnvLe.nil) (T.pick [] 2 rfl rfl (Nat.le_add_left _ _) rfl (J2 s3.1 () hk1))
 ·refine T.block ?_
  obtain ⟨e2, hl2, hr⟩ := inv_bind hr
  refine T.le (EnvLe.cons rfl (EnvLe.cons rfl (EnvLe.cons rfl EnvLe.nil))) (T.pick [1, 0] 2 rfl rfl (Nat.le_add_left _ _) rfl (T.loop (s0 := (l0, 4294967295)) (env := fun s4 x5 => [(0, .slice x5.1 s4.1.length x5.2), (3, .pointer (some ⟨b1, 0, none⟩)), (4, .int .u32 s4.2)]) (hs := fun (s4 : List UInt8 × Int) (x5 : (Option Addr × Nat)) => Ro E8 x5.1 x5.2 s4.1 :: Cl b1 89 (r1.map (Value.int .u32)) :: hs) hl2 (A0, c0) (fun K2 s4 x5 o2 he2 hm2 hx2 => ?_)))
  unfold wire_Sum.st2 at he2
  refine T.seq ?_
  refine T.seq ?_
  refine T.region ?_
  refine T.move .list rfl (wants0 rfl) rfl rfl ?_
  refine T.lenSlice .list rfl (wants0 rfl) rfl rfl ?_
  refine T.bin .list rfl (wants0 rfl) rfl rfl rfl rfl ?_
  refine T.nil ?_
  refine T.then_normal ?_
  refine T.cond rfl (fun hb2 => ?_) (fun hb2 => ?_)
  ·replace he2 := inv_posB hb2 he2
   refine T.skip ?_
   refine T.then_normal ?_
   refine T.seq ?_
   refine T.block ?_
   refine T.seq ?_
   refine T.plan [(0, 0), (1, 0), (2, 0), (5, 0), (6, 0), (11, 0), (12, 0), (17, 0), (18, 0), (3, 1), (4, 0), (7, 1), (8, 0), (9, 0), (10, 0), (13, 1), (14, 0), (15, 0), (16, 0), (19, 1), (20, 0), (21, 0), (22, 0), (23, 0), (24, 0)] mixed (by kernel_rfl) (by kernel_rfl) rfl (fun d _ _ _ _ h => by cases d <;> exact h) ?_
   refine T.move (.plan rfl) rfl (wants0 rfl) rfl rfl ?_
   refine T.move (.plan rfl) rfl (wants0 rfl) rfl rfl ?_
   obtain ⟨hc4, he2⟩ := inv_chk he2
   refine T.idxRo (.plan rfl) 0 rfl rfl (wants0 rfl) rfl rfl rfl hc4.1 hc4.2 (Nat.le_refl _) ?_
   refine T.move (.plan rfl) rfl (wants0 rfl) rfl rfl ?_
   obtain ⟨hc5, he2⟩ := inv_chk he2
   refine T.idxRo (.plan rfl) 0 rfl rfl (wants0 rfl) rfl rfl rfl hc5.1 hc5.2 (Nat.le_refl _) ?_
   refine T.move (.plan rfl) rfl (wants0 rfl) rfl rfl ?_
   obtain ⟨hc6, he2⟩ := inv_chk he2
   refine T.idxRo (.plan rfl) 0 rfl rfl (wants0 rfl) rfl rfl rfl hc6.1 hc6.2 (Nat.le_refl _) ?_
   refine T.move (.plan rfl) rfl (wants0 rfl) rfl rfl ?_
   obtain ⟨hc7, he2⟩ := inv_chk he2
   refine T.idxRo (.plan rfl) 0 rfl rfl (wants0 rfl) rfl rfl rfl hc7.1 hc7.2 (Nat.le_refl _) ?_
   refine T.ldRo1 (.plan rfl) 0 rfl rfl (wants0 rfl) rfl rfl hc4.1 hc4.2 ?_
   refine T.conv (.plan rfl) rfl (wants0 rfl) rfl rfl rfl ?_
   refine T.ldRo1 (.plan rfl) 0 rfl rfl (wants0 rfl) rfl rfl hc5.1 hc5.2 ?_
   refine T.conv (.plan rfl) rfl (wants0 rfl) rfl rfl rfl ?_
   refine T.shl (.plan rfl) rfl (wants0 rfl) rfl rfl rfl (by decide) ?_
   refine T.bin (.plan rfl) rfl (wants0 rfl) rfl rfl rfl rfl ?_
   refine T.ldRo1 (.plan rfl) 0 rfl rfl (wants0 rfl) rfl rfl hc6.1 hc6.2 ?_
   refine T.conv (.plan rfl) rfl (wants0 rfl) rfl rfl rfl ?_
   refine T.shl (.plan rfl) rfl (wants0 rfl) rfl rfl rfl (by decide) ?_
   refine T.bin (.plan rfl) rfl (wants0 rfl) rfl rfl rfl rfl ?_
   refine T.ldRo1 (.plan rfl) 0 rfl rfl (wants0 rfl) rfl rfl hc7.1 hc7.2 ?_
   refine T.conv (.plan rfl) rfl (wants0 rfl) rfl rfl rfl ?_
   refine T.shl (.plan rfl) rfl (wants0 rfl) rfl rfl rfl (by decide) ?_
   refine T.bin (.plan rfl) rfl (wants0 rfl) rfl rfl rfl rfl ?_
   refine T.bin (.plan rfl) rfl (wants0 rfl) rfl rfl rfl rfl ?_
   refine T.assign (.plan rfl) rfl (wants0 rfl) rfl rfl ?_
   refine T.planEnd ?_
   refine T.then_normal ?_
   refine T.plan [(0, 0), (1, 0), (2, 0), (3, 0), (5, 0), (6, 0), (7, 0), (8, 0), (9, 0), (12, 0), (13, 0), (14, 0), (15, 0), (16, 0), (19, 0), (20, 0), (21, 0), (22, 0), (4, 1), (10, 1), (11, 0), (17, 1), (18, 0), (23, 1), (24, 0), (25, 0)] mixed (by kernel_rfl) (by kernel_rfl) rfl (fun d _ _ _ _ h => by cases d <;> exact h) ?_
   refine T.move (.plan rfl) rfl (wants0 rfl) rfl rfl ?_
   refine T.bin (.plan rfl) rfl (wants0 rfl) rfl rfl rfl rfl ?_
   refine T.idxArr (.plan rfl) rfl (wants0 rfl) rfl rfl rfl (by decide) (by decide) ?_
   obtain ⟨hc8, he2⟩ := inv_chk he2
   refine T.idxArr (.plan rfl) rfl (wants0 rfl) rfl rfl rfl hc8.1 hc8.2 ?_
   refine T.move (.plan rfl) rfl (wants0 rfl) rfl rfl ?_
   refine T.shr (.plan rfl) rfl (wants0 rfl) rfl rfl rfl (by decide) ?_
   refine T.bin (.plan rfl) rfl (wants0 rfl) rfl rfl rfl rfl ?_
   refine T.idxArr (.plan rfl) rfl (wants0 rfl) rfl rfl rfl (by decide) (by decide) ?_
   obtain ⟨hc9, he2⟩ := inv_chk he2
   refine T.idxArr (.plan rfl) rfl (wants0 rfl) rfl rfl rfl hc9.1 hc9.2 ?_
   refine T.move (.plan rfl) rfl (wants0 rfl) rfl rfl ?_
   refine T.shr (.plan rfl) rfl (wants0 rfl) rfl rfl rfl (by decide) ?_
   refine T.bin (.plan rfl) rfl (wants0 rfl) rfl rfl rfl rfl ?_
   refine T.idxArr (.plan rfl) rfl (wants0 rfl) rfl rfl rfl (by decide) (by decide) ?_
   obtain ⟨hc10, he2⟩ := inv_chk he2
   refine T.idxArr (.plan rfl) rfl (wants0 rfl) rfl rfl rfl hc10.1 hc10.2 ?_
   refine T.move (.plan rfl) rfl (wants0 rfl) rfl rfl ?_
   refine T.shr (.plan rfl) rfl (wants0 rfl) rfl rfl rfl (by decide) ?_
   refine T.idxArr (.plan rfl) rfl (wants0 rfl) rfl rfl rfl (by decide) (by decide) ?_
   obtain ⟨hc11, he2⟩ := inv_chk he2
   refine T.idxArr (.plan rfl) rfl (wants0 rfl) rfl rfl rfl hc11.1 hc11.2 ?_
   obtain ⟨hc12, he2⟩ := inv_chk he2
   refine T.ldArr (.plan rfl) 1 rfl rfl (wants0 rfl) rfl rfl hc12 ?_
   obtain ⟨hc13, he2⟩ := inv_chk he2
   refine T.ldArr (.plan rfl) 1 rfl rfl (wants0 rfl) rfl rfl hc13 ?_
   refine T.bin (.plan rfl) rfl (wants0 rfl) rfl rfl rfl rfl ?_
   obtain ⟨hc14, he2⟩ := inv_chk he2
   refine T.ldArr (.plan rfl) 1 rfl rfl (wants0 rfl) rfl rfl hc14 ?_
   refine T.bin (.plan rfl) rfl (wants0 rfl) rfl rfl rfl rfl ?_
   obtain ⟨hc15, he2⟩ := inv_chk he2
   refine T.ldArr (.plan rfl) 1 rfl rfl (wants0 rfl) rfl rfl hc15 ?_
   refine T.bin (.plan rfl) rfl (wants0 rfl) rfl rfl rfl rfl ?_
   refine T.assign (.plan rfl) rfl (wants0 rfl) rfl rfl ?_
   refine T.planEnd ?_
   refine T.in_normal ?_
   refine T.then_normal ?_
   refine T.region ?_
   refine T.move .list rfl (wants0 rfl) rfl rfl ?_
   obtain ⟨hc16, he2⟩ := inv_chk he2
   refine T.cut .list 0 rfl rfl rfl (wants0 rfl) rfl rfl (.inr ⟨_, _, rfl, rfl⟩) (.inl ⟨rfl, rfl⟩) hc16.1 hc16.2.1 hc16.2.2 ?_
   refine T.assign .list rfl (wants0 rfl) rfl rfl ?_
   refine T.nil ?_
   refine T.then_normal ?_
   obtain rfl := inv_some he2
   exact T.le (EnvLe.cons rfl (EnvLe.cons rfl (EnvLe.cons rfl EnvLe.nil))) (T.pick [0, 2] 3 rfl rfl (Nat.le_add_left _ _) rfl (hm2 (subl s4.1 4 ((s4.1.length : Int)), bitsOf .xor .u32 (bitsOf .xor .u32 (bitsOf .xor .u32 (((r1).getD (((0 + (3 : Int).toNat * 256) + (bitsOf .and .u32 (bitsOf .xor .u32 s4.2 (bitsOf .or .u32 (bitsOf .or .u32 (bitsOf .or .u32 (IntKind.u32.wrap ((((s4.1).getD (0 : Int).toNat default).toNat : Int))) (shlI .u32 (IntKind.u32.wrap ((((s4.1).getD (1 : Int).toNat default).toNat : Int))) 8)) (shlI .u32 (IntKind.u32.wrap ((((s4.1).getD (2 : Int).toNat default).toNat : Int))) 16)) (shlI .u32 (IntKind.u32.wrap ((((s4.1).getD (3 : Int).toNat default).toNat : Int))) 24))) 255 : Int).toNat * 1)) default)) (((r1).getD (((0 + (2 : Int).toNat * 256) + (bitsOf .and .u32 (shrI .u32 (bitsOf .xor .u32 s4.2 (bitsOf .or .u32 (bitsOf .or .u32 (bitsOf .or .u32 (IntKind.u32.wrap ((((s4.1).getD (0 : Int).toNat default).toNat : Int))) (shlI .u32 (IntKind.u32.wrap ((((s4.1).getD (1 : Int).toNat default).toNat : Int))) 8)) (shlI .u32 (IntKind.u32.wrap ((((s4.1).getD (2 : Int).toNat default).toNat : Int))) 16)) (shlI .u32 (IntKind.u32.wrap ((((s4.1).getD (3 : Int).toNat default).toNat : Int))) 24))) 8) 255 : Int).toNat * 1)) default))) (((r1).getD (((0 + (1 : Int).toNat * 256) + (bitsOf .and .u32 (shrI .u32 (bitsOf .xor .u32 s4.2 (bitsOf .or .u32 (bitsOf .or .u32 (bitsOf .or .u32 (IntKind.u32.wrap ((((s4.1).getD (0 : Int).toNat default).toNat : Int))) (shlI .u32 (IntKind.u32.wrap ((((s4.1).getD (1 : Int).toNat default).toNat : Int))) 8)) (shlI .u32 (IntKind.u32.wrap ((((s4.1).getD (2 : Int).toNat default).toNat : Int))) 16)) (shlI .u32 (IntKind.u32.wrap ((((s4.1).getD (3 : Int).toNat default).toNat : Int))) 24))) 16) 255 : Int).toNat * 1)) default))) (((r1).getD (((0 + (0 : Int).toNat * 256) + (shrI .u32 (bitsOf .xor .u32 s4.2 (bitsOf .or .u32 (bitsOf .or .u32 (bitsOf .or .u32 (IntKind.u32.wrap ((((s4.1).getD (0 : Int).toNat default).toNat : Int))) (shlI .u32 (IntKind.u32.wrap ((((s4.1).getD (1 : Int).toNat default).toNat : Int))) 8)) (shlI .u32 (IntKind.u32.wrap ((((s4.1).getD (2 : Int).toNat default).toNat : Int))) 16)) (shlI .u32 (IntKind.u32.wrap ((((s4.1).getD (3 : Int).toNat default).toNat : Int))) 24))) 24 : Int).toNat * 1)) default))) rfl ((cutA x5.1 x5.2 (4 : Int) 1), (x5.2 - (4 : Int).toNat))))
  ·replace he2 := inv_negB hb2 he2
   refine T.exit ?_
   refine T.then_exit ?_
   refine T.then_exit ?_
   obtain rfl := inv_some he2
   obtain rfl := hx2 _ rfl
   refine T.in_hit ?_
   refine T.then_normal ?_
   exact T.le (EnvLe.cons rfl (EnvLe.cons rfl (EnvLe.cons rfl EnvLe.nil))) (T.pick [0, 1] 2 rfl rfl (Nat.le_add_left _ _) rfl (J1 (s4.1, s4.2) (x5.1, x5.2) hr))

noncomputable def bytes_Equal.impl (l0 : List UInt8) (l1 : List UInt8) : Option Bool :=
  some (decide (l0 = l1))
set_option maxRecDepth 100000 in
set_option maxHeartbeats 4000000 in
theorem bytes_Equal.c {B : World} {hs : List MP} {w : World} {i0 c0 : Nat} {A0 : Option Addr} {l0 : List UInt8} {i1 c1 : Nat} {A1 : Option Addr} {l1 : List UInt8} (hS : St B (hs) w) (h0 : (hs)[i0]? = some (Ro E8 A0 c0 l0)) (h1 : (hs)[i1]? = some (Ro E8 A1 c1 l1)) {r : Bool} (hr : bytes_Equal.impl l0 l1 = some r) :
    Calls Try.prog 42 #[.slice A0 l0.length c0, .slice A1 l1.length c1] w fun e w' => ∃ x : Unit, e = .returned (.bool r) ∧ St B (hs) w' := by
 unfold bytes_Equal.impl at hr
 refine calls_T Try.func42 rfl rfl rfl hS ?_
 refine T.front i0 h0 ?_
 refine T.front (i1 + 1) h1 ?_
 refine T.seq ?_
 refine T.region ?_
 refine T.assign .list rfl (wants0 rfl) rfl rfl ?_
 refine T.nil ?_
 refine T.then_normal ?_
 refine T.seq ?_
 refine T.region ?_
 refine T.move .list rfl (wants0 rfl) rfl rfl ?_
 refine T.strRo .list 1 rfl rfl (wants0 rfl) rfl rfl rfl ?_
 refine T.move .list rfl (wants0 rfl) rfl rfl ?_
 refine T.strRo .list 0 rfl rfl (wants0 rfl) rfl rfl rfl ?_
 refine T.strEq .list rfl (wants0 rfl) rfl (l := l0) (l' := l1) rfl rfl ?_
 refine T.assign .list rfl (wants0 rfl) rfl rfl ?_
 refine T.nil ?_
 refine T.then_normal ?_
 refine T.ret ?_
 obtain rfl := inv_some hr
 refine T.pick [] 2 rfl rfl (Nat.le_add_left _ _) rfl ?_
 refine T.ret1 rfl rfl (fun w hS => ⟨(), rfl, hS⟩)
end Go.Proofs.Ytccifnjlfhdpiaa
