/- Disk: what the functions compute, and that the program computes it; printed by a program of ours. -/
import Derived.Test.YtccifnjlfhdpiaaWire
set_option linter.unusedVariables false
set_option linter.unusedSimpArgs false
namespace Go.Proofs.Ytccifnjlfhdpiaa
open Go.RowKit
noncomputable def disk_New.k1 (a0 : Int) (s1 : Bool) : Option ((Option ((Int × Bool × Int × Int × Int × Int × Int) × (List (Int × (List UInt8))) × (List (Int × (List UInt8))))) × Int) :=
  (if s1 = true then some (none, 1) else some ((some ((a0, false, 0, 0, 0, 0, 0), ([] : List (Int × (List UInt8))), ([] : List (Int × List UInt8)))), 0))
noncomputable def disk_New.impl (a0 : Int) : Option ((Option ((Int × Bool × Int × Int × Int × Int × Int) × (List (Int × (List UInt8))) × (List (Int × (List UInt8))))) × Int) :=
  (if ((decide (a0 < 1))) = true then disk_New.k1 a0 true else disk_New.k1 a0 (decide ((4096 : Int) < a0)))
set_option maxRecDepth 100000 in
set_option maxHeartbeats 4000000 in
theorem disk_New.c {B : World} {hs : List MP} {w : World} {a0 : Int} (hS : St B (hs) w) {r : (Option ((Int × Bool × Int × Int × Int × Int × Int) × (List (Int × (List UInt8))) × (List (Int × (List UInt8))))) × Int} (hr : disk_New.impl a0 = some r) :
    Calls Try.prog 7 #[.int .i64 a0] w fun e w' => ∃ x : (Nat) × (Nat) × (Option Addr × Nat) × (Ads), e = .returned (.tuple #[optp r.1 x.1, .int .i64 r.2]) ∧ St B (((optc r.1 (fun v => [Cl x.1 68 [.int .i64 v.1.1, .map (some x.2.1), .slice x.2.2.1.1 v.2.2.length x.2.2.1.2, .bool v.1.2.1, .int .i64 v.1.2.2.1, .int .i64 v.1.2.2.2.1, .int .u64 v.1.2.2.2.2.1, .int .i64 v.1.2.2.2.2.2.1, .int .i64 v.1.2.2.2.2.2.2], Mp (Elt.slice E8) x.2.1 v.2.1, Hb 82 x.2.2.1.1 x.2.2.1.2 (x.2.2.2) v.2.2, Bb 5 (x.2.2.2) v.2.2])) ++ hs)) w' := by
 unfold disk_New.impl at hr
 refine calls_T Try.func7 rfl rfl rfl hS ?_
 refine T.seq ?_
 refine T.region ?_
 refine T.assign .list rfl (wants0 rfl) rfl rfl ?_
 refine T.assign .list rfl (wants0 rfl) rfl rfl ?_
 refine T.nil ?_
 refine T.then_normal ?_
 refine T.seq ?_
 refine T.seqJ (fun (s1 : Bool) (x1 : Unit) => [(0, .int .i64 a0), (9, .bool s1)]) (fun s1 x1 => hs) (fun s1 => disk_New.k1 a0 s1 = some r) (fun s1 x1 hk1 => ?_) (fun J1 => ?_)
 ·unfold disk_New.k1 at hk1
  refine T.cond rfl (fun hb1 => ?_) (fun hb1 => ?_)
  ·replace hk1 := inv_posB hb1 hk1
   refine T.seq ?_
   refine T.region ?_
   refine T.assign .list rfl (wants0 rfl) rfl rfl ?_
   refine T.assign .list rfl (wants0 rfl) rfl rfl ?_
   refine T.nil ?_
   refine T.then_normal ?_
   refine T.ret ?_
   refine T.then_ret ?_
   obtain rfl := inv_some hk1
   refine T.pick [] 0 rfl rfl (Nat.le_add_left _ _) rfl ?_
   refine T.ret2 rfl rfl rfl (fun w hS => ⟨(0, 0, (none, 0), noAds), rfl, hS⟩)
  ·replace hk1 := inv_negB hb1 hk1
   refine T.skip ?_
   refine T.then_normal ?_
   refine T.seq ?_
   refine T.region ?_
   refine T.move .list rfl (wants0 rfl) rfl rfl ?_
   refine T.makeMap (Elt.slice E8) .list rfl (wants0 rfl) rfl (fun b1 => ?_)
   refine T.build .list (vals := [(0, .int .i64 a0), (1, .map (some b1))]) (cells := #[.int .i64 a0, .map (some b1), .slice none 0 0, .bool false, .int .i64 0, .int .i64 0, .int .u64 0, .int .i64 0, .int .i64 0]) rfl (wants0 rfl) rfl rfl (run_buildStruct (sizes := [1, 1, 1, 1, 1, 4]) (by kernel_rfl) (by kernel_rfl)) ?_
   refine T.boxS .list rfl (wants0 rfl) rfl rfl (cs := [.int .i64 a0, .map (some b1), .slice none 0 0, .bool false, .int .i64 0, .int .i64 0, .int .u64 0, .int .i64 0, .int .i64 0]) rfl (fun b2 => ?_)
   refine T.assign .list rfl (wants0 rfl) rfl rfl ?_
   refine T.assign .list rfl (wants0 rfl) rfl rfl ?_
   refine T.nil ?_
   refine T.then_normal ?_
   refine T.ret ?_
   obtain rfl := inv_some hk1
   refine T.nilHb 82 5 ?_
   refine T.pick [2, 3, 0, 1] 4 rfl rfl (Nat.le_add_left _ _) rfl ?_
   refine T.ret2 rfl rfl rfl (fun w hS => ⟨(b2, b1, (none, 0), noAds), rfl, hS⟩)
 ·refine T.region ?_
  refine T.move .list rfl (wants0 rfl) rfl rfl ?_
  refine T.bin .list rfl (wants0 rfl) rfl rfl rfl rfl ?_
  refine T.move .list rfl (wants0 rfl) rfl rfl ?_
  refine T.bool (b := (decide (a0 < 1))) (fun hb2 => ?_) (fun hb2 => ?_)
  ·replace hr := inv_posB hb2 hr
   refine T.leave .list (wantsNot rfl rfl rfl hb2) rfl ?_
   refine T.leave .list (wantsNot rfl rfl rfl hb2) rfl ?_
   refine T.pickT .list rfl (wants0 rfl) rfl rfl hb2 rfl ?_
   refine T.nil ?_
   refine T.then_normal ?_
   exact T.le (EnvLe.cons rfl (EnvLe.cons rfl EnvLe.nil)) (T.pick [] 0 rfl rfl (Nat.le_add_left _ _) rfl (J1 true () hr))
  ·replace hr := inv_negB hb2 hr
   refine T.move .list rfl (wants1 rfl rfl rfl hb2) rfl rfl ?_
   refine T.bin .list rfl (wants1 rfl rfl rfl hb2) rfl rfl rfl rfl ?_
   refine T.pickF .list rfl (wants0 rfl) rfl rfl hb2 rfl ?_
   refine T.nil ?_
   refine T.then_normal ?_
   exact T.le (EnvLe.cons rfl (EnvLe.cons rfl EnvLe.nil)) (T.pick [] 0 rfl rfl (Nat.le_add_left _ _) rfl (J1 (decide ((4096 : Int) < a0)) () hr))

noncomputable def disk_whole.impl (l0 : List UInt8) : Option (List UInt8) :=
  chk (0 ≤ (8192 : Int) ∧ (8192 : Int) * 1 ≤ 140737488355328) (some ((l0).take (min l0.length (List.replicate (8192 : Int).toNat (0 : UInt8)).length) ++ (List.replicate (8192 : Int).toNat (0 : UInt8)).drop (min l0.length (List.replicate (8192 : Int).toNat (0 : UInt8)).length)))
set_option maxRecDepth 100000 in
set_option maxHeartbeats 4000000 in
theorem disk_whole.c {B : World} {hs : List MP} {w : World} {i0 c0 : Nat} {A0 : Option Addr} {l0 : List UInt8} (hS : St B (hs) w) (h0 : (hs)[i0]? = some (Ro E8 A0 c0 l0)) {r : List UInt8} (hr : disk_whole.impl l0 = some r) :
    Calls Try.prog 41 #[.slice A0 l0.length c0] w fun e w' => ∃ x : (Option Addr × Nat), e = .returned (.slice x.1 r.length x.2) ∧ St B (Bf E8 5 x.1 x.2 r :: hs) w' := by
 unfold disk_whole.impl at hr
 refine calls_T Try.func41 rfl rfl rfl hS ?_
 refine T.front i0 h0 ?_
 refine T.seq ?_
 refine T.region ?_
 refine T.assign .list rfl (wants0 rfl) rfl rfl ?_
 refine T.nil ?_
 refine T.then_normal ?_
 refine T.seq ?_
 refine T.region ?_
 obtain ⟨hc1, hr⟩ := inv_chk hr
 refine T.make .list (enc := b8) (h1' := fun _ => rfl) (z0 := (0 : UInt8)) (by rfl) rfl (wants0 rfl) rfl rfl rfl rfl hc1 (fun b1 => ?_)
 refine T.assign .list rfl (wants0 rfl) rfl rfl ?_
 refine T.nil ?_
 refine T.then_normal ?_
 refine T.seq ?_
 refine T.region ?_
 refine T.move .list rfl (wants0 rfl) rfl rfl ?_
 refine T.move .list rfl (wants0 rfl) rfl rfl ?_
 refine T.copyBf .list 0 rfl rfl (wants0 rfl) rfl rfl rfl (Nat.le_refl _) rfl (Rd.ofRo 1 rfl) rfl ?_
 refine T.env1 3 rfl (slc (n' := (((l0).take (min l0.length (List.replicate (8192 : Int).toNat (0 : UInt8)).length) ++ (List.replicate (8192 : Int).toNat (0 : UInt8)).drop (min l0.length (List.replicate (8192 : Int).toNat (0 : UInt8)).length))).length) (by simp only [List.length_append, List.length_take, List.length_drop, List.length_replicate]; (try unfold subl); (try simp only [List.length_drop, List.length_take, List.length_replicate]); omega)) ?_
 refine T.env1 4 rfl (slc (n' := (((l0).take (min l0.length (List.replicate (8192 : Int).toNat (0 : UInt8)).length) ++ (List.replicate (8192 : Int).toNat (0 : UInt8)).drop (min l0.length (List.replicate (8192 : Int).toNat (0 : UInt8)).length))).length) (by simp only [List.length_append, List.length_take, List.length_drop, List.length_replicate]; (try unfold subl); (try simp only [List.length_drop, List.length_take, List.length_replicate]); omega)) ?_
 refine T.env1 5 rfl (slc (n' := (((l0).take (min l0.length (List.replicate (8192 : Int).toNat (0 : UInt8)).length) ++ (List.replicate (8192 : Int).toNat (0 : UInt8)).drop (min l0.length (List.replicate (8192 : Int).toNat (0 : UInt8)).length))).length) (by simp only [List.length_append, List.length_take, List.length_drop, List.length_replicate]; (try unfold subl); (try simp only [List.length_drop, List.length_take, List.length_replicate]); omega)) ?_
 refine T.nil ?_
 refine T.then_normal ?_
 refine T.seq ?_
 refine T.region ?_
 refine T.move .list rfl (wants0 rfl) rfl rfl ?_
 refine T.assign .list rfl (wants0 rfl) rfl rfl ?_
 refine T.nil ?_
 refine T.then_normal ?_
 refine T.ret ?_
 obtain rfl := inv_some hr
 refine T.pick [0] 2 rfl rfl (Nat.le_add_left _ _) rfl ?_
 refine T.ret1 rfl rfl (fun w hS => ⟨(some ⟨b1, 0, none⟩, (8192 : Int).toNat), rfl, hS⟩)

noncomputable def disk_Disk_good.impl (o0 : Int × Bool × Int × Int × Int × Int × Int) (q0b : List (Int × (List UInt8))) (a1 : Int) : Option (List UInt8) :=
  (disk_whole.impl (((mget q0b a1).getD (([] : List UInt8))))).bind fun r1 => some r1
set_option maxRecDepth 100000 in
set_option maxHeartbeats 4000000 in
theorem disk_Disk_good.c {B : World} {hs : List MP} {w : World} {p0 : Nat} {o0 : Int × Bool × Int × Int × Int × Int × Int} {m0b : Nat} {q0b : List (Int × (List UInt8))} {v0c : Value} {a1 : Int} (hS : St B (Cl p0 68 [.int .i64 o0.1, .map (some m0b), v0c, .bool o0.2.1, .int .i64 o0.2.2.1, .int .i64 o0.2.2.2.1, .int .u64 o0.2.2.2.2.1, .int .i64 o0.2.2.2.2.2.1, .int .i64 o0.2.2.2.2.2.2] :: Mp (Elt.slice E8) m0b q0b :: hs) w) {r : List UInt8} (hr : disk_Disk_good.impl o0 q0b a1 = some r) :
    Calls Try.prog 38 #[.pointer (some ⟨p0, 0, none⟩), .int .i64 a1] w fun e w' => ∃ x : (Option Addr × Nat), e = .returned (.slice x.1 r.length x.2) ∧ St B (Bf E8 5 x.1 x.2 r :: Cl p0 68 [.int .i64 o0.1, .map (some m0b), v0c, .bool o0.2.1, .int .i64 o0.2.2.1, .int .i64 o0.2.2.2.1, .int .u64 o0.2.2.2.2.1, .int .i64 o0.2.2.2.2.2.1, .int .i64 o0.2.2.2.2.2.2] :: Mp (Elt.slice E8) m0b q0b :: hs) w' := by
 unfold disk_Disk_good.impl at hr
 refine calls_T Try.func38 rfl rfl rfl hS ?_
 refine T.seq ?_
 refine T.region ?_
 refine T.assign .list rfl (wants0 rfl) rfl rfl ?_
 refine T.nil ?_
 refine T.then_normal ?_
 refine T.seq ?_
 refine T.region ?_
 refine T.move .list rfl (wants0 rfl) rfl rfl ?_
 refine T.nilCheck .list rfl (wants0 rfl) rfl rfl ?_
 refine T.field .list rfl (wants0 rfl) rfl rfl ?_
 refine T.load .list 0 rfl rfl (wants0 rfl) rfl rfl rfl ?_
 refine T.move .list rfl (wants0 rfl) rfl rfl ?_
 refine T.lookup .list 1 (d := ([] : List UInt8)) Sh.slice (fun _ => ⟨none, 0, rfl, Nat.le_refl _, .inl rfl⟩) rfl rfl (wants0 rfl) rfl rfl rfl (v := fun x1 => .slice x1.1 ((((mget q0b a1).getD (([] : List UInt8)))).length) x1.2) (hs' := fun x1 => Ro E8 x1.1 x1.2 (((mget q0b a1).getD (([] : List UInt8)))) :: Cl p0 68 [.int .i64 o0.1, .map (some m0b), v0c, .bool o0.2.1, .int .i64 o0.2.2.1, .int .i64 o0.2.2.2.1, .int .u64 o0.2.2.2.2.1, .int .i64 o0.2.2.2.2.2.1, .int .i64 o0.2.2.2.2.2.2] :: Mp (Elt.slice E8) m0b q0b :: hs) (fun _ => rfl) (fun _ => rfl) (fun x1 => ?_)
 obtain ⟨r1, hg1, hr⟩ := inv_bind hr
 refine T.call .list (wants0 rfl) rfl (run_callF (vs := [_]) rfl Try.func41 rfl (by decide) rfl) (fun w hS => disk_whole.c hS (i0 := 0) rfl hg1) (fun x2 => ?_)
 refine T.assign .list rfl (wants0 rfl) rfl rfl ?_
 refine T.nil ?_
 refine T.then_normal ?_
 refine T.ret ?_
 obtain rfl := inv_some hr
 refine T.pick [0, 2, 3] 4 rfl rfl (Nat.le_add_left _ _) rfl ?_
 refine T.ret1 rfl rfl (fun w hS => ⟨(x2.1, x2.2), rfl, hS⟩)

noncomputable def disk_Disk_lay.impl (o0 : Int × Bool × Int × Int × Int × Int × Int) (q0b : List (Int × (List UInt8))) (a1 : Int × (List UInt8)) (a2 : Int) : Option ((List (Int × (List UInt8)))) :=
  (disk_Disk_good.impl ((o0.1, o0.2.1, o0.2.2.1, o0.2.2.2.1, o0.2.2.2.2.1, o0.2.2.2.2.2.1, o0.2.2.2.2.2.2)) q0b a1.1).bind fun r1 => chk (0 ≤ a2 ∧ a2 ≤ (r1.length : Int)) (chk (0 ≤ a2 ∧ a2 ≤ (a1.2.length : Int)) (some (mset q0b a1.1 (((subl a1.2 0 a2).take (min (subl a1.2 0 a2).length (subl r1 0 a2).length) ++ (r1).drop (min (subl a1.2 0 a2).length (subl r1 0 a2).length))))))
set_option maxRecDepth 100000 in
set_option maxHeartbeats 4000000 in
theorem disk_Disk_lay.c {B : World} {hs : List MP} {w : World} {p0 : Nat} {o0 : Int × Bool × Int × Int × Int × Int × Int} {m0b : Nat} {q0b : List (Int × (List UInt8))} {v0c : Value} {a1 : Int × (List UInt8)} {i1a c1a : Nat} {A1a : Option Addr} {a2 : Int} (hS : St B (Cl p0 68 [.int .i64 o0.1, .map (some m0b), v0c, .bool o0.2.1, .int .i64 o0.2.2.1, .int .i64 o0.2.2.2.1, .int .u64 o0.2.2.2.2.1, .int .i64 o0.2.2.2.2.2.1, .int .i64 o0.2.2.2.2.2.2] :: Mp (Elt.slice E8) m0b q0b :: hs) w) (h1a : (Cl p0 68 [.int .i64 o0.1, .map (some m0b), v0c, .bool o0.2.1, .int .i64 o0.2.2.1, .int .i64 o0.2.2.2.1, .int .u64 o0.2.2.2.2.1, .int .i64 o0.2.2.2.2.2.1, .int .i64 o0.2.2.2.2.2.2] :: Mp (Elt.slice E8) m0b q0b :: hs)[i1a]? = some (Ro E8 A1a c1a a1.2)) {r : (List (Int × (List UInt8)))} (hr : disk_Disk_lay.impl o0 q0b a1 a2 = some r) :
    Calls Try.prog 40 #[.pointer (some ⟨p0, 0, none⟩), .agg #[.int .i64 a1.1, .slice A1a a1.2.length c1a], .int .i64 a2] w fun e w' => ∃ x : Unit, e = .returned (.tuple #[]) ∧ St B (Cl p0 68 [.int .i64 o0.1, .map (some m0b), v0c, .bool o0.2.1, .int .i64 o0.2.2.1, .int .i64 o0.2.2.2.1, .int .u64 o0.2.2.2.2.1, .int .i64 o0.2.2.2.2.2.1, .int .i64 o0.2.2.2.2.2.2] :: Mp (Elt.slice E8) m0b r :: hs) w' := by
 unfold disk_Disk_lay.impl at hr
 refine calls_T Try.func40 rfl rfl rfl hS ?_
 refine T.front i1a h1a ?_
 refine T.seq ?_
 refine T.region ?_
 refine T.boxS .list rfl (wants0 rfl) rfl rfl (cs := [.int .i64 a1.1, .slice A1a a1.2.length c1a]) rfl (fun b1 => ?_)
 refine T.nil ?_
 refine T.then_normal ?_
 refine T.seq ?_
 refine T.region ?_
 refine T.move .list rfl (wants0 rfl) rfl rfl ?_
 refine T.field .list rfl (wants0 rfl) rfl rfl ?_
 refine T.load .list 0 rfl rfl (wants0 rfl) rfl rfl rfl ?_
 refine T.pick [2, 3, 0, 1] 4 rfl rfl (Nat.le_add_left _ _) (hs' := Cl p0 68 [.int .i64 o0.1, .map (some m0b), v0c, .bool o0.2.1, .int .i64 o0.2.2.1, .int .i64 o0.2.2.2.1, .int .u64 o0.2.2.2.2.1, .int .i64 o0.2.2.2.2.2.1, .int .i64 o0.2.2.2.2.2.2] :: Mp (Elt.slice E8) m0b q0b :: Cl b1 82 [.int .i64 a1.1, .slice A1a a1.2.length c1a] :: Ro E8 A1a c1a a1.2 :: hs) rfl ?_
 obtain ⟨r1, hg1, hr⟩ := inv_bind hr
 refine T.call .list (wants0 rfl) rfl (run_callF (vs := [_, _]) rfl Try.func38 rfl (by decide) rfl) (fun w hS => disk_Disk_good.c hS (o0 := (o0.1, o0.2.1, o0.2.2.1, o0.2.2.2.1, o0.2.2.2.2.1, o0.2.2.2.2.2.1, o0.2.2.2.2.2.2)) (q0b := q0b) (v0c := v0c)  hg1) (fun x1 => ?_)
 refine T.assign .list rfl (wants0 rfl) rfl rfl ?_
 refine T.nil ?_
 refine T.then_normal ?_
 refine T.seq ?_
 refine T.plan [(0, 0), (1, 0), (2, 0), (3, 0), (5, 0), (4, 1), (6, 0), (7, 2)] mixed (by kernel_rfl) (by kernel_rfl) rfl (fun d _ _ _ _ h => by cases d <;> exact h) ?_
 refine T.move (.plan rfl) rfl (wants0 rfl) rfl rfl ?_
 refine T.move (.plan rfl) rfl (wants0 rfl) rfl rfl ?_
 obtain ⟨hc1, hr⟩ := inv_chk hr
 refine T.cut0Bf (.plan rfl) 0 rfl rfl rfl (wants0 rfl) rfl rfl (.inl rfl) (.inr ⟨_, _, rfl, rfl⟩) hc1.1 hc1.2 ?_
 refine T.field (.plan rfl) rfl (wants0 rfl) rfl rfl ?_
 refine T.move (.plan rfl) rfl (wants0 rfl) rfl rfl ?_
 refine T.load (.plan rfl) 3 rfl rfl (wants0 rfl) rfl rfl rfl ?_
 obtain ⟨hc2, hr⟩ := inv_chk hr
 refine T.cut0 (.plan rfl) 4 rfl rfl rfl (wants0 rfl) rfl rfl (.inl rfl) (.inr ⟨_, _, rfl, rfl⟩) hc2.1 hc2.2 ?_
 refine T.copyBf (.plan rfl) 1 rfl rfl (wants0 rfl) rfl rfl rfl (by unfold subl; simp only [List.length_drop, List.length_take]; omega) rfl (Rd.ofRo 0 rfl) rfl ?_
 refine T.env1 6 rfl (slc (n' := (((subl a1.2 0 a2).take (min (subl a1.2 0 a2).length (subl r1 0 a2).length) ++ (r1).drop (min (subl a1.2 0 a2).length (subl r1 0 a2).length))).length) (by simp only [List.length_append, List.length_take, List.length_drop, List.length_replicate]; (try unfold subl); (try simp only [List.length_drop, List.length_take, List.length_replicate]); omega)) ?_
 refine T.env1 10 rfl (slc (n' := (((subl a1.2 0 a2).take (min (subl a1.2 0 a2).length (subl r1 0 a2).length) ++ (r1).drop (min (subl a1.2 0 a2).length (subl r1 0 a2).length))).length) (by simp only [List.length_append, List.length_take, List.length_drop, List.length_replicate]; (try unfold subl); (try simp only [List.length_drop, List.length_take, List.length_replicate]); omega)) ?_
 refine T.env1 11 rfl (slc (n' := (((subl a1.2 0 a2).take (min (subl a1.2 0 a2).length (subl r1 0 a2).length) ++ (r1).drop (min (subl a1.2 0 a2).length (subl r1 0 a2).length))).length) (by simp only [List.length_append, List.length_take, List.length_drop, List.length_replicate]; (try unfold subl); (try simp only [List.length_drop, List.length_take, List.length_replicate]); omega)) ?_
 refine T.planEnd ?_
 refine T.then_normal ?_
 refine T.plan [(0, 0), (1, 0), (2, 0), (4, 0), (6, 0), (3, 1), (5, 1), (7, 2)] mixed (by kernel_rfl) (by kernel_rfl) rfl (fun d _ _ _ _ h => by cases d <;> exact h) ?_
 refine T.move (.plan rfl) rfl (wants0 rfl) rfl rfl ?_
 refine T.nilCheck (.plan rfl) rfl (wants0 rfl) rfl rfl ?_
 refine T.field (.plan rfl) rfl (wants0 rfl) rfl rfl ?_
 refine T.field (.plan rfl) rfl (wants0 rfl) rfl rfl ?_
 refine T.move (.plan rfl) rfl (wants0 rfl) rfl rfl ?_
 refine T.load (.plan rfl) 2 rfl rfl (wants0 rfl) rfl rfl rfl ?_
 refine T.load (.plan rfl) 4 rfl rfl (wants0 rfl) rfl rfl rfl ?_
 refine T.freeze 1 rfl rfl rfl ?_
 refine T.mapUpdate (.plan rfl) 3 (c := ((subl a1.2 0 a2).take (min (subl a1.2 0 a2).length (subl r1 0 a2).length) ++ (r1).drop (min (subl a1.2 0 a2).length (subl r1 0 a2).length))) rfl rfl (wants0 rfl) rfl rfl rfl rfl (Has.slice 1 rfl rfl) rfl ?_
 refine T.planEnd ?_
 obtain rfl := inv_some hr
 refine T.pick [2, 3] 6 rfl rfl (Nat.le_add_left _ _) rfl ?_
 refine T.end0 rfl (fun w hS => ⟨(), rfl, hS⟩)

noncomputable def disk_fate.impl (a0 : Int × Int × Int × Int) (a1 : Int) : Option Int :=
  (if ((decide (a1 = a0.2.2.1))) = true then some 1 else chk (0 ≤ Int.tmod a1 64) ((if ((decide (((bitsOf .and .u64 (shrI .u64 a0.2.1 (Int.tmod a1 64)) 1)) = 1))) = true then some 2 else some 0)))
set_option maxRecDepth 100000 in
set_option maxHeartbeats 4000000 in
theorem disk_fate.c {B : World} {hs : List MP} {w : World} {a0 : Int × Int × Int × Int} {a1 : Int} (hS : St B (hs) w) {r : Int} (hr : disk_fate.impl a0 a1 = some r) :
    Calls Try.prog 39 #[.agg #[.int .i64 a0.1, .int .u64 a0.2.1, .int .i64 a0.2.2.1, .int .i64 a0.2.2.2], .int .i64 a1] w fun e w' => ∃ x : Unit, e = .returned (.int .i64 r) ∧ St B (hs) w' := by
 unfold disk_fate.impl at hr
 refine calls_T Try.func39 rfl rfl rfl hS ?_
 refine T.seq ?_
 refine T.region ?_
 refine T.boxS .list rfl (wants0 rfl) rfl rfl (cs := [.int .i64 a0.1, .int .u64 a0.2.1, .int .i64 a0.2.2.1, .int .i64 a0.2.2.2]) rfl (fun b1 => ?_)
 refine T.assign .list rfl (wants0 rfl) rfl rfl ?_
 refine T.nil ?_
 refine T.then_normal ?_
 refine T.seq ?_
 refine T.seq ?_
 refine T.region ?_
 refine T.move .list rfl (wants0 rfl) rfl rfl ?_
 refine T.field .list rfl (wants0 rfl) rfl rfl ?_
 refine T.load .list 0 rfl rfl (wants0 rfl) rfl rfl rfl ?_
 refine T.bin .list rfl (wants0 rfl) rfl rfl rfl rfl ?_
 refine T.nil ?_
 refine T.then_normal ?_
 refine T.cond rfl (fun hb1 => ?_) (fun hb1 => ?_)
 ·replace hr := inv_posB hb1 hr
  refine T.seq ?_
  refine T.region ?_
  refine T.assign .list rfl (wants0 rfl) rfl rfl ?_
  refine T.nil ?_
  refine T.then_normal ?_
  refine T.ret ?_
  refine T.then_ret ?_
  obtain rfl := inv_some hr
  refine T.pick [] 1 rfl rfl (Nat.le_add_left _ _) rfl ?_
  refine T.ret1 rfl rfl (fun w hS => ⟨(), rfl, hS⟩)
 ·replace hr := inv_negB hb1 hr
  refine T.skip ?_
  refine T.then_normal ?_
  refine T.seq ?_
  refine T.seq ?_
  refine T.region ?_
  refine T.field .list rfl (wants0 rfl) rfl rfl ?_
  refine T.load .list 0 rfl rfl (wants0 rfl) rfl rfl rfl ?_
  refine T.move .list rfl (wants0 rfl) rfl rfl ?_
  refine T.rem .list rfl (wants0 rfl) rfl rfl rfl (by decide) ?_
  obtain ⟨hc1, hr⟩ := inv_chk hr
  refine T.shr .list rfl (wants0 rfl) rfl rfl rfl hc1 ?_
  refine T.bin .list rfl (wants0 rfl) rfl rfl rfl rfl ?_
  refine T.bin .list rfl (wants0 rfl) rfl rfl rfl rfl ?_
  refine T.nil ?_
  refine T.then_normal ?_
  refine T.cond rfl (fun hb2 => ?_) (fun hb2 => ?_)
  ·replace hr := inv_posB hb2 hr
   refine T.seq ?_
   refine T.region ?_
   refine T.assign .list rfl (wants0 rfl) rfl rfl ?_
   refine T.nil ?_
   refine T.then_normal ?_
   refine T.ret ?_
   refine T.then_ret ?_
   obtain rfl := inv_some hr
   refine T.pick [] 1 rfl rfl (Nat.le_add_left _ _) rfl ?_
   refine T.ret1 rfl rfl (fun w hS => ⟨(), rfl, hS⟩)
  ·replace hr := inv_negB hb2 hr
   refine T.skip ?_
   refine T.then_normal ?_
   refine T.seq ?_
   refine T.region ?_
   refine T.assign .list rfl (wants0 rfl) rfl rfl ?_
   refine T.nil ?_
   refine T.then_normal ?_
   refine T.ret ?_
   obtain rfl := inv_some hr
   refine T.pick [] 1 rfl rfl (Nat.le_add_left _ _) rfl ?_
   refine T.ret1 rfl rfl (fun w hS => ⟨(), rfl, hS⟩)

noncomputable def disk_Disk_Cut.k1 (o0 : Int × Bool × Int × Int × Int × Int × Int) (s1 : (List (Int × (List UInt8)))) : Option ((Int × Bool × Int × Int × Int × Int × Int) × (List (Int × (List UInt8))) × (List (Int × List UInt8))) :=
  some ((o0.1, true, IntKind.i64.wrap (o0.2.2.1 + 1), 0, 0, 0, 0), s1, ([] : List (Int × List UInt8)))
noncomputable def disk_Disk_Cut.k2 (o0 : Int × Bool × Int × Int × Int × Int × Int) (s2 : (List (Int × (List UInt8))) × Int) (q0c : List (Int × List UInt8)) (s3 : Int) : Option (((List (Int × (List UInt8))) × Int) ⊕ ((List (Int × (List UInt8))))) :=
  (disk_Disk_lay.impl ((o0.1, o0.2.1, o0.2.2.1, o0.2.2.2.1, o0.2.2.2.2.1, o0.2.2.2.2.2.1, o0.2.2.2.2.2.2)) s2.1 ((((((q0c).getD (s2.2 : Int).toNat default)).1), ((((q0c).getD (s2.2 : Int).toNat default)).2))) s3).bind fun r2 => some (.inl (r2, IntKind.i64.wrap (s2.2 + 1)))
noncomputable def disk_Disk_Cut.st1 (q0c : List (Int × List UInt8)) (a1 : Int × Int × Int × Int) (o0 : Int × Bool × Int × Int × Int × Int × Int) (s2 : (List (Int × (List UInt8))) × Int) : Option (((List (Int × (List UInt8))) × Int) ⊕ ((List (Int × (List UInt8))))) :=
  (if ((decide (s2.2 < ((q0c.length : Int))))) = true then chk (0 ≤ s2.2 ∧ s2.2 < (q0c.length : Int)) ((disk_fate.impl ((a1.1, a1.2.1, a1.2.2.1, a1.2.2.2)) s2.2).bind fun r1 => (if ((decide (r1 = 2))) = true then disk_Disk_Cut.k2 o0 s2 q0c 8192 else (if ((decide (r1 = 1))) = true then disk_Disk_Cut.k2 o0 s2 q0c (min (max a1.2.2.2 0) 8192) else some (.inl (s2.1, IntKind.i64.wrap (s2.2 + 1)))))) else some (.inr s2.1))
noncomputable def disk_Disk_Cut.impl (o0 : Int × Bool × Int × Int × Int × Int × Int) (q0b : List (Int × (List UInt8))) (q0c : List (Int × List UInt8)) (a1 : Int × Int × Int × Int) : Option ((Int × Bool × Int × Int × Int × Int × Int) × (List (Int × (List UInt8))) × (List (Int × List UInt8))) :=
  (if o0.2.1 = true then some ((o0.1, o0.2.1, o0.2.2.1, o0.2.2.2.1, o0.2.2.2.2.1, o0.2.2.2.2.2.1, o0.2.2.2.2.2.2), q0b, q0c) else (loop (disk_Disk_Cut.st1 q0c a1 o0) (q0b, 0)).bind (fun e1 => disk_Disk_Cut.k1 o0 e1))
set_option maxRecDepth 100000 in
set_option maxHeartbeats 4000000 in
theorem disk_Disk_Cut.c {B : World} {hs : List MP} {w : World} {p0 : Nat} {o0 : Int × Bool × Int × Int × Int × Int × Int} {m0b : Nat} {q0b : List (Int × (List UInt8))} {c0c : Nat} {A0c : Option Addr} {d0c : Ads} {q0c : List (Int × List UInt8)} {a1 : Int × Int × Int × Int} (hS : St B (Cl p0 68 [.int .i64 o0.1, .map (some m0b), .slice A0c q0c.length c0c, .bool o0.2.1, .int .i64 o0.2.2.1, .int .i64 o0.2.2.2.1, .int .u64 o0.2.2.2.2.1, .int .i64 o0.2.2.2.2.2.1, .int .i64 o0.2.2.2.2.2.2] :: Mp (Elt.slice E8) m0b q0b :: Hb 82 A0c c0c d0c q0c :: Bb 5 d0c q0c :: hs) w) {r : (Int × Bool × Int × Int × Int × Int × Int) × (List (Int × (List UInt8))) × (List (Int × List UInt8))} (hr : disk_Disk_Cut.impl o0 q0b q0c a1 = some r) :
    Calls Try.prog 17 #[.pointer (some ⟨p0, 0, none⟩), .agg #[.int .i64 a1.1, .int .u64 a1.2.1, .int .i64 a1.2.2.1, .int .i64 a1.2.2.2]] w fun e w' => ∃ x : (Option Addr × Nat) × (Ads), e = .returned (.tuple #[]) ∧ St B (Cl p0 68 [.int .i64 r.1.1, .map (some m0b), .slice x.1.1 r.2.2.length x.1.2, .bool r.1.2.1, .int .i64 r.1.2.2.1, .int .i64 r.1.2.2.2.1, .int .u64 r.1.2.2.2.2.1, .int .i64 r.1.2.2.2.2.2.1, .int .i64 r.1.2.2.2.2.2.2] :: Mp (Elt.slice E8) m0b r.2.1 :: Hb 82 x.1.1 x.1.2 x.2 r.2.2 :: Bb 5 x.2 r.2.2 :: hs) w' := by
 unfold disk_Disk_Cut.impl at hr
 refine calls_T Try.func17 rfl rfl rfl hS ?_
 refine T.seq ?_
 refine T.region ?_
 refine T.boxS .list rfl (wants0 rfl) rfl rfl (cs := [.int .i64 a1.1, .int .u64 a1.2.1, .int .i64 a1.2.2.1, .int .i64 a1.2.2.2]) rfl (fun b1 => ?_)
 refine T.nil ?_
 refine T.then_normal ?_
 refine T.seq ?_
 refine T.seq ?_
 refine T.region ?_
 refine T.move .list rfl (wants0 rfl) rfl rfl ?_
 refine T.nilCheck .list rfl (wants0 rfl) rfl rfl ?_
 refine T.field .list rfl (wants0 rfl) rfl rfl ?_
 refine T.load .list 1 rfl rfl (wants0 rfl) rfl rfl rfl ?_
 refine T.nil ?_
 refine T.then_normal ?_
 refine T.cond rfl (fun hb1 => ?_) (fun hb1 => ?_)
 ·replace hr := inv_posB hb1 hr
  refine T.ret ?_
  refine T.then_ret ?_
  obtain rfl := inv_some hr
  refine T.pick [1, 2, 3, 4] 5 rfl rfl (Nat.le_add_left _ _) rfl ?_
  refine T.ret0 rfl (fun w hS => ⟨((A0c, c0c), d0c), rfl, hS⟩)
 ·replace hr := inv_negB hb1 hr
  refine T.skip ?_
  refine T.then_normal ?_
  refine T.pick [3, 4, 0, 1, 2] 5 rfl rfl (Nat.le_add_left _ _) (hs' := Hb 82 A0c c0c d0c q0c :: Bb 5 d0c q0c :: Cl b1 57 [.int .i64 a1.1, .int .u64 a1.2.1, .int .i64 a1.2.2.1, .int .i64 a1.2.2.2] :: Cl p0 68 [.int .i64 o0.1, .map (some m0b), .slice A0c q0c.length c0c, .bool o0.2.1, .int .i64 o0.2.2.1, .int .i64 o0.2.2.2.1, .int .u64 o0.2.2.2.2.1, .int .i64 o0.2.2.2.2.2.1, .int .i64 o0.2.2.2.2.2.2] :: Mp (Elt.slice E8) m0b q0b :: hs) rfl ?_
  refine T.hbFreeze ?_
  refine T.seqJ (fun (s1 : (List (Int × (List UInt8)))) (x1 : Unit) => [(0, .pointer (some ⟨p0, 0, none⟩))]) (fun s1 x1 => Cl p0 68 [.int .i64 o0.1, .map (some m0b), .slice A0c q0c.length c0c, .bool o0.2.1, .int .i64 o0.2.2.1, .int .i64 o0.2.2.2.1, .int .u64 o0.2.2.2.2.1, .int .i64 o0.2.2.2.2.2.1, .int .i64 o0.2.2.2.2.2.2] :: Mp (Elt.slice E8) m0b s1 :: Bf ((Elt.pair E64 (Elt.slice E8))) 82 A0c c0c q0c :: hs) (fun s1 => disk_Disk_Cut.k1 o0 s1 = some r) (fun s1 x1 hk1 => ?_) (fun J1 => ?_)
  ·unfold disk_Disk_Cut.k1 at hk1
   refine T.seq ?_
   refine T.region ?_
   refine T.move .list rfl (wants0 rfl) rfl rfl ?_
   refine T.nilCheck .list rfl (wants0 rfl) rfl rfl ?_
   refine T.field .list rfl (wants0 rfl) rfl rfl ?_
   refine T.store .list 0 rfl rfl (wants0 rfl) rfl rfl rfl rfl (Nat.le_of_ble_eq_true rfl) rfl (cs' := [.int .i64 o0.1, .map (some m0b), .slice none 0 0, .bool o0.2.1, .int .i64 o0.2.2.1, .int .i64 o0.2.2.2.1, .int .u64 o0.2.2.2.2.1, .int .i64 o0.2.2.2.2.2.1, .int .i64 o0.2.2.2.2.2.2]) rfl rfl ?_
   refine T.nil ?_
   refine T.then_normal ?_
   refine T.seq ?_
   refine T.region ?_
   refine T.move .list rfl (wants0 rfl) rfl rfl ?_
   refine T.build .list (vals := []) (cells := #[.int .i64 0, .int .u64 0, .int .i64 0, .int .i64 0]) rfl (wants0 rfl) rfl rfl (run_buildStruct (sizes := [1, 1, 1, 1]) (by kernel_rfl) (by kernel_rfl)) ?_
   refine T.nilCheck .list rfl (wants0 rfl) rfl rfl ?_
   refine T.field .list rfl (wants0 rfl) rfl rfl ?_
   refine T.store .list 0 rfl rfl (wants0 rfl) rfl rfl rfl rfl (Nat.le_of_ble_eq_true rfl) rfl (cs' := [.int .i64 o0.1, .map (some m0b), .slice none 0 0, .bool o0.2.1, .int .i64 o0.2.2.1, .int .i64 0, .int .u64 0, .int .i64 0, .int .i64 0]) rfl rfl ?_
   refine T.nil ?_
   refine T.then_normal ?_
   refine T.seq ?_
   refine T.region ?_
   refine T.move .list rfl (wants0 rfl) rfl rfl ?_
   refine T.nilCheck .list rfl (wants0 rfl) rfl rfl ?_
   refine T.field .list rfl (wants0 rfl) rfl rfl ?_
   refine T.store .list 0 rfl rfl (wants0 rfl) rfl rfl rfl rfl (Nat.le_of_ble_eq_true rfl) rfl (cs' := [.int .i64 o0.1, .map (some m0b), .slice none 0 0, .bool true, .int .i64 o0.2.2.1, .int .i64 0, .int .u64 0, .int .i64 0, .int .i64 0]) rfl rfl ?_
   refine T.nil ?_
   refine T.then_normal ?_
   refine T.region ?_
   refine T.move .list rfl (wants0 rfl) rfl rfl ?_
   refine T.nilCheck .list rfl (wants0 rfl) rfl rfl ?_
   refine T.field .list rfl (wants0 rfl) rfl rfl ?_
   refine T.load .list 0 rfl rfl (wants0 rfl) rfl rfl rfl ?_
   refine T.bin .list rfl (wants0 rfl) rfl rfl rfl rfl ?_
   refine T.nilCheck .list rfl (wants0 rfl) rfl rfl ?_
   refine T.field .list rfl (wants0 rfl) rfl rfl ?_
   refine T.store .list 0 rfl rfl (wants0 rfl) rfl rfl rfl rfl (Nat.le_of_ble_eq_true rfl) rfl (cs' := [.int .i64 o0.1, .map (some m0b), .slice none 0 0, .bool true, .int .i64 (IntKind.i64.wrap (o0.2.2.1 + 1)), .int .i64 0, .int .u64 0, .int .i64 0, .int .i64 0]) rfl rfl ?_
   refine T.nil ?_
   obtain rfl := inv_some hk1
   refine T.nilHb 82 5 ?_
   refine T.pick [2, 3, 0, 1] 5 rfl rfl (Nat.le_add_left _ _) rfl ?_
   refine T.end0 rfl (fun w hS => ⟨((none, 0), noAds), rfl, hS⟩)
  ·refine T.seq ?_
   refine T.region ?_
   refine T.move .list rfl (wants0 rfl) rfl rfl ?_
   refine T.nilCheck .list rfl (wants0 rfl) rfl rfl ?_
   refine T.field .list rfl (wants0 rfl) rfl rfl ?_
   refine T.load .list 2 rfl rfl (wants0 rfl) rfl rfl rfl ?_
   refine T.lenSlice .list rfl (wants0 rfl) rfl rfl ?_
   refine T.move .list rfl (wants0 rfl) rfl rfl ?_
   refine T.nil ?_
   refine T.then_normal ?_
   refine T.block ?_
   obtain ⟨e1, hl1, hr⟩ := inv_bind hr
   refine T.le (EnvLe.cons rfl (EnvLe.cons rfl (EnvLe.cons rfl (EnvLe.cons rfl (EnvLe.cons rfl EnvLe.nil))))) (T.pick [2, 3, 0, 1] 4 rfl rfl (Nat.le_add_left _ _) rfl (T.loop (s0 := (q0b, 0)) (env := fun s2 x2 => [(0, .pointer (some ⟨p0, 0, none⟩)), (3, .pointer (some ⟨b1, 0, none⟩)), (14, .slice A0c q0c.length c0c), (15, .int .i64 ((q0c.length : Int))), (16, .int .i64 s2.2)]) (hs := fun (s2 : (List (Int × (List UInt8))) × Int) (x2 : Unit) => Cl p0 68 [.int .i64 o0.1, .map (some m0b), .slice A0c q0c.length c0c, .bool o0.2.1, .int .i64 o0.2.2.1, .int .i64 o0.2.2.2.1, .int .u64 o0.2.2.2.2.1, .int .i64 o0.2.2.2.2.2.1, .int .i64 o0.2.2.2.2.2.2] :: Mp (Elt.slice E8) m0b s2.1 :: Bf ((Elt.pair E64 (Elt.slice E8))) 82 A0c c0c q0c :: Cl b1 57 [.int .i64 a1.1, .int .u64 a1.2.1, .int .i64 a1.2.2.1, .int .i64 a1.2.2.2] :: hs) hl1 () (fun K1 s2 x2 o1 he1 hm1 hx1 => ?_)))
   unfold disk_Disk_Cut.st1 at he1
   refine T.seq ?_
   refine T.region ?_
   refine T.bin .list rfl (wants0 rfl) rfl rfl rfl rfl ?_
   refine T.nil ?_
   refine T.then_normal ?_
   refine T.seq ?_
   refine T.cond rfl (fun hb2 => ?_) (fun hb2 => ?_)
   ·replace he1 := inv_posB hb2 he1
    refine T.skip ?_
    refine T.then_normal ?_
    refine T.seq ?_
    refine T.block ?_
    refine T.seq ?_
    refine T.region ?_
    refine T.move .list rfl (wants0 rfl) rfl rfl ?_
    obtain ⟨hc1, he1⟩ := inv_chk he1
    refine T.idxBf .list 2 rfl rfl (wants0 rfl) rfl rfl rfl hc1.1 hc1.2 (Nat.le_refl _) ?_
    refine T.ldFBf 2 .list Fd.self (Sh.pair Sh.sc Sh.slice) rfl (.inl rfl) rfl rfl hc1.1 hc1.2 rfl (wants0 rfl) rfl rfl rfl (v := fun x3 => .agg #[.int .i64 (((((q0c).getD (s2.2 : Int).toNat default)).1)), .slice x3.2.1 ((((((q0c).getD (s2.2 : Int).toNat default)).2)).length) x3.2.2]) (hs' := fun x3 => Ro E8 x3.2.1 x3.2.2 (((((q0c).getD (s2.2 : Int).toNat default)).2)) :: Cl p0 68 [.int .i64 o0.1, .map (some m0b), .slice A0c q0c.length c0c, .bool o0.2.1, .int .i64 o0.2.2.1, .int .i64 o0.2.2.2.1, .int .u64 o0.2.2.2.2.1, .int .i64 o0.2.2.2.2.2.1, .int .i64 o0.2.2.2.2.2.2] :: Mp (Elt.slice E8) m0b s2.1 :: Bf ((Elt.pair E64 (Elt.slice E8))) 82 A0c c0c q0c :: Cl b1 57 [.int .i64 a1.1, .int .u64 a1.2.1, .int .i64 a1.2.2.1, .int .i64 a1.2.2.2] :: hs) (fun _ => rfl) (fun _ => rfl) (fun x3 => ?_)
    refine T.allocS .list rfl (wants0 rfl) rfl (cs := [.int .i64 0, .slice none 0 0]) rfl (fun b2 => ?_)
    refine T.assign .list rfl (wants0 rfl) rfl rfl ?_
    refine T.store .list 0 rfl rfl (wants0 rfl) rfl rfl rfl rfl (Nat.le_of_ble_eq_true rfl) rfl (cs' := [.int .i64 (((((q0c).getD (s2.2 : Int).toNat default)).1)), .slice x3.2.1 ((((((q0c).getD (s2.2 : Int).toNat default)).2)).length) x3.2.2]) rfl rfl ?_
    refine T.nil ?_
    refine T.then_normal ?_
    refine T.seq ?_
    refine T.region ?_
    refine T.field .list rfl (wants0 rfl) rfl rfl ?_
    refine T.load .list 5 rfl rfl (wants0 rfl) rfl rfl rfl ?_
    refine T.max2 .list rfl (wants0 rfl) rfl rfl rfl ?_
    refine T.min2 .list rfl (wants0 rfl) rfl rfl rfl ?_
    refine T.assign .list rfl (wants0 rfl) rfl rfl ?_
    refine T.nil ?_
    refine T.then_normal ?_
    refine T.seq ?_
    refine T.region ?_
    refine T.loadN .list 5 rfl rfl (wants0 rfl) rfl rfl (vs := [.int .i64 a1.1, .int .u64 a1.2.1, .int .i64 a1.2.2.1, .int .i64 a1.2.2.2]) rfl rfl ?_
    refine T.move .list rfl (wants0 rfl) rfl rfl ?_
    obtain ⟨r1, hg1, he1⟩ := inv_bind he1
    refine T.call .list (wants0 rfl) rfl (run_callF (vs := [_, _]) rfl Try.func39 rfl (by decide) rfl) (fun w hS => disk_fate.c hS (a0 := (a1.1, a1.2.1, a1.2.2.1, a1.2.2.2))  hg1) (fun x4 => ?_)
    refine T.nil ?_
    refine T.then_normal ?_
    refine T.block ?_
    refine T.seqJ (fun (s3 : Int) (x5 : Unit) => [(0, .pointer (some ⟨p0, 0, none⟩)), (3, .pointer (some ⟨b1, 0, none⟩)), (5, .pointer (some ⟨b2, 0, none⟩)), (6, .int .i64 s3), (14, .slice A0c q0c.length c0c), (15, .int .i64 ((q0c.length : Int))), (16, .int .i64 s2.2)]) (fun s3 x5 => Cl p0 68 [.int .i64 o0.1, .map (some m0b), .slice A0c q0c.length c0c, .bool o0.2.1, .int .i64 o0.2.2.1, .int .i64 o0.2.2.2.1, .int .u64 o0.2.2.2.2.1, .int .i64 o0.2.2.2.2.2.1, .int .i64 o0.2.2.2.2.2.2] :: Mp (Elt.slice E8) m0b s2.1 :: Bf ((Elt.pair E64 (Elt.slice E8))) 82 A0c c0c q0c :: Cl b1 57 [.int .i64 a1.1, .int .u64 a1.2.1, .int .i64 a1.2.2.1, .int .i64 a1.2.2.2] :: Cl b2 82 [.int .i64 (((((q0c).getD (s2.2 : Int).toNat default)).1)), .slice x3.2.1 ((((((q0c).getD (s2.2 : Int).toNat default)).2)).length) x3.2.2] :: Ro E8 x3.2.1 x3.2.2 (((((q0c).getD (s2.2 : Int).toNat default)).2)) :: hs) (fun s3 => disk_Disk_Cut.k2 o0 s2 q0c s3 = some o1) (fun s3 x5 hk2 => ?_) (fun J2 => ?_)
    ·unfold disk_Disk_Cut.k2 at hk2
     refine T.seq ?_
     refine T.region ?_
     refine T.move .list rfl (wants0 rfl) rfl rfl ?_
     refine T.loadN .list 4 rfl rfl (wants0 rfl) rfl rfl (vs := [.int .i64 (((((q0c).getD (s2.2 : Int).toNat default)).1)), .slice x3.2.1 ((((((q0c).getD (s2.2 : Int).toNat default)).2)).length) x3.2.2]) rfl rfl ?_
     refine T.move .list rfl (wants0 rfl) rfl rfl ?_
     refine T.pick [0, 1, 2, 3, 4, 5] 6 rfl rfl (Nat.le_add_left _ _) (hs' := Cl p0 68 [.int .i64 o0.1, .map (some m0b), .slice A0c q0c.length c0c, .bool o0.2.1, .int .i64 o0.2.2.1, .int .i64 o0.2.2.2.1, .int .u64 o0.2.2.2.2.1, .int .i64 o0.2.2.2.2.2.1, .int .i64 o0.2.2.2.2.2.2] :: Mp (Elt.slice E8) m0b s2.1 :: Bf ((Elt.pair E64 (Elt.slice E8))) 82 A0c c0c q0c :: Cl b1 57 [.int .i64 a1.1, .int .u64 a1.2.1, .int .i64 a1.2.2.1, .int .i64 a1.2.2.2] :: Cl b2 82 [.int .i64 (((((q0c).getD (s2.2 : Int).toNat default)).1)), .slice x3.2.1 ((((((q0c).getD (s2.2 : Int).toNat default)).2)).length) x3.2.2] :: Ro E8 x3.2.1 x3.2.2 (((((q0c).getD (s2.2 : Int).toNat default)).2)) :: hs) rfl ?_
     obtain ⟨r2, hg2, hk2⟩ := inv_bind hk2
     refine T.call .list (wants0 rfl) rfl (run_callF (vs := [_, _, _]) rfl Try.func40 rfl (by decide) rfl) (fun w hS => disk_Disk_lay.c hS (i1a := 5) (o0 := (o0.1, o0.2.1, o0.2.2.1, o0.2.2.2.1, o0.2.2.2.2.1, o0.2.2.2.2.2.1, o0.2.2.2.2.2.2)) (q0b := s2.1) (v0c := .slice A0c q0c.length c0c) (a1 := (((((q0c).getD (s2.2 : Int).toNat default)).1), ((((q0c).getD (s2.2 : Int).toNat default)).2))) rfl hg2) (fun x6 => ?_)
     refine T.nil ?_
     refine T.then_normal ?_
     refine T.exit ?_
     refine T.in_hit ?_
     refine T.in_normal ?_
     refine T.then_normal ?_
     refine T.region ?_
     refine T.bin .list rfl (wants0 rfl) rfl rfl rfl rfl ?_
     refine T.move .list rfl (wants0 rfl) rfl rfl ?_
     refine T.nil ?_
     refine T.then_normal ?_
     obtain rfl := inv_some hk2
     exact T.le (EnvLe.cons rfl (EnvLe.cons rfl (EnvLe.cons rfl (EnvLe.cons rfl (EnvLe.cons rfl EnvLe.nil))))) (T.pick [0, 1, 2, 3] 6 rfl rfl (Nat.le_add_left _ _) rfl (hm1 (r2, IntKind.i64.wrap (s2.2 + 1)) rfl ()))
    ·refine T.block ?_
     refine T.seq ?_
     refine T.block ?_
     refine T.seq ?_
     refine T.seq ?_
     refine T.seq ?_
     refine T.region ?_
     refine T.bin .list rfl (wants0 rfl) rfl rfl rfl rfl ?_
     refine T.assign .list rfl (wants0 rfl) rfl rfl ?_
     refine T.nil ?_
     refine T.then_normal ?_
     refine T.cond rfl (fun hb3 => ?_) (fun hb3 => ?_)
     ·replace he1 := inv_posB hb3 he1
      refine T.exit ?_
      refine T.then_exit ?_
      refine T.then_exit ?_
      refine T.in_hit ?_
      refine T.then_normal ?_
      refine T.region ?_
      refine T.assign .list rfl (wants0 rfl) rfl rfl ?_
      refine T.nil ?_
      refine T.in_normal ?_
      refine T.then_normal ?_
      exact T.le (EnvLe.cons rfl (EnvLe.cons rfl (EnvLe.cons rfl (EnvLe.cons rfl (EnvLe.cons rfl (EnvLe.cons rfl (EnvLe.cons rfl EnvLe.nil))))))) (T.pick [2, 3, 4, 5, 0, 1] 6 rfl rfl (Nat.le_add_left _ _) rfl (J2 8192 () he1))
     ·replace he1 := inv_negB hb3 he1
      refine T.skip ?_
      refine T.then_normal ?_
      refine T.seq ?_
      refine T.region ?_
      refine T.bin .list rfl (wants0 rfl) rfl rfl rfl rfl ?_
      refine T.assign .list rfl (wants0 rfl) rfl rfl ?_
      refine T.nil ?_
      refine T.then_normal ?_
      refine T.cond rfl (fun hb4 => ?_) (fun hb4 => ?_)
      ·replace he1 := inv_posB hb4 he1
       refine T.exit ?_
       refine T.then_exit ?_
       refine T.in_miss rfl ?_
       refine T.then_exit ?_
       refine T.in_hit ?_
       refine T.then_normal ?_
       exact T.le (EnvLe.cons rfl (EnvLe.cons rfl (EnvLe.cons rfl (EnvLe.cons rfl (EnvLe.cons rfl (EnvLe.cons rfl (EnvLe.cons rfl EnvLe.nil))))))) (T.pick [2, 3, 4, 5, 0, 1] 6 rfl rfl (Nat.le_add_left _ _) rfl (J2 (min (max a1.2.2.2 0) 8192) () he1))
      ·replace he1 := inv_negB hb4 he1
       refine T.skip ?_
       refine T.then_normal ?_
       refine T.exit ?_
       refine T.in_miss rfl ?_
       refine T.then_exit ?_
       refine T.in_miss rfl ?_
       refine T.then_exit ?_
       refine T.in_hit ?_
       refine T.in_normal ?_
       refine T.then_normal ?_
       refine T.region ?_
       refine T.bin .list rfl (wants0 rfl) rfl rfl rfl rfl ?_
       refine T.move .list rfl (wants0 rfl) rfl rfl ?_
       refine T.nil ?_
       refine T.then_normal ?_
       obtain rfl := inv_some he1
       exact T.le (EnvLe.cons rfl (EnvLe.cons rfl (EnvLe.cons rfl (EnvLe.cons rfl (EnvLe.cons rfl EnvLe.nil))))) (T.pick [2, 3, 4, 5] 6 rfl rfl (Nat.le_add_left _ _) rfl (hm1 (s2.1, IntKind.i64.wrap (s2.2 + 1)) rfl ()))
   ·replace he1 := inv_negB hb2 he1
    refine T.exit ?_
    refine T.then_exit ?_
    refine T.then_exit ?_
    obtain rfl := inv_some he1
    obtain rfl := hx1 _ rfl
    refine T.in_hit ?_
    refine T.then_normal ?_
    exact T.le (EnvLe.cons rfl EnvLe.nil) (T.pick [0, 1, 2] 4 rfl rfl (Nat.le_add_left _ _) rfl (J1 s2.1 () hr))

noncomputable def disk_Disk_strikes.impl (o0 : Int × Bool × Int × Int × Int × Int × Int) (q0b : List (Int × (List UInt8))) (q0c : List (Int × List UInt8)) : Option (Bool × (Int × Bool × Int × Int × Int × Int × Int) × (List (Int × (List UInt8))) × (List (Int × List UInt8))) :=
  (if ((decide (o0.2.2.2.1 < 1))) = true then some (false, (o0.1, o0.2.1, o0.2.2.1, o0.2.2.2.1, o0.2.2.2.2.1, o0.2.2.2.2.2.1, o0.2.2.2.2.2.2), q0b, q0c) else (if ((decide ((0 : Int) < (IntKind.i64.wrap (o0.2.2.2.1 - 1))))) = true then some (false, (o0.1, o0.2.1, o0.2.2.1, IntKind.i64.wrap (o0.2.2.2.1 - 1), o0.2.2.2.2.1, o0.2.2.2.2.2.1, o0.2.2.2.2.2.2), q0b, q0c) else (disk_Disk_Cut.impl ((o0.1, o0.2.1, o0.2.2.1, IntKind.i64.wrap (o0.2.2.2.1 - 1), o0.2.2.2.2.1, o0.2.2.2.2.2.1, o0.2.2.2.2.2.2)) q0b q0c ((IntKind.i64.wrap (o0.2.2.2.1 - 1), o0.2.2.2.2.1, o0.2.2.2.2.2.1, o0.2.2.2.2.2.2))).bind fun r1 => some (true, (r1.1.1, r1.1.2.1, r1.1.2.2.1, r1.1.2.2.2.1, r1.1.2.2.2.2.1, r1.1.2.2.2.2.2.1, r1.1.2.2.2.2.2.2), r1.2.1, r1.2.2)))
set_option maxRecDepth 100000 in
set_option maxHeartbeats 4000000 in
theorem disk_Disk_strikes.c {B : World} {hs : List MP} {w : World} {p0 : Nat} {o0 : Int × Bool × Int × Int × Int × Int × Int} {m0b : Nat} {q0b : List (Int × (List UInt8))} {c0c : Nat} {A0c : Option Addr} {d0c : Ads} {q0c : List (Int × List UInt8)} (hS : St B (Cl p0 68 [.int .i64 o0.1, .map (some m0b), .slice A0c q0c.length c0c, .bool o0.2.1, .int .i64 o0.2.2.1, .int .i64 o0.2.2.2.1, .int .u64 o0.2.2.2.2.1, .int .i64 o0.2.2.2.2.2.1, .int .i64 o0.2.2.2.2.2.2] :: Mp (Elt.slice E8) m0b q0b :: Hb 82 A0c c0c d0c q0c :: Bb 5 d0c q0c :: hs) w) {r : Bool × (Int × Bool × Int × Int × Int × Int × Int) × (List (Int × (List UInt8))) × (List (Int × List UInt8))} (hr : disk_Disk_strikes.impl o0 q0b q0c = some r) :
    Calls Try.prog 43 #[.pointer (some ⟨p0, 0, none⟩)] w fun e w' => ∃ x : (Option Addr × Nat) × (Ads), e = .returned (.bool r.1) ∧ St B (Cl p0 68 [.int .i64 r.2.1.1, .map (some m0b), .slice x.1.1 r.2.2.2.length x.1.2, .bool r.2.1.2.1, .int .i64 r.2.1.2.2.1, .int .i64 r.2.1.2.2.2.1, .int .u64 r.2.1.2.2.2.2.1, .int .i64 r.2.1.2.2.2.2.2.1, .int .i64 r.2.1.2.2.2.2.2.2] :: Mp (Elt.slice E8) m0b r.2.2.1 :: Hb 82 x.1.1 x.1.2 x.2 r.2.2.2 :: Bb 5 x.2 r.2.2.2 :: hs) w' := by
 unfold disk_Disk_strikes.impl at hr
 refine calls_T Try.func43 rfl rfl rfl hS ?_
 refine T.seq ?_
 refine T.region ?_
 refine T.assign .list rfl (wants0 rfl) rfl rfl ?_
 refine T.nil ?_
 refine T.then_normal ?_
 refine T.seq ?_
 refine T.seq ?_
 refine T.region ?_
 refine T.move .list rfl (wants0 rfl) rfl rfl ?_
 refine T.nilCheck .list rfl (wants0 rfl) rfl rfl ?_
 refine T.field .list rfl (wants0 rfl) rfl rfl ?_
 refine T.field .list rfl (wants0 rfl) rfl rfl ?_
 refine T.load .list 0 rfl rfl (wants0 rfl) rfl rfl rfl ?_
 refine T.bin .list rfl (wants0 rfl) rfl rfl rfl rfl ?_
 refine T.nil ?_
 refine T.then_normal ?_
 refine T.cond rfl (fun hb1 => ?_) (fun hb1 => ?_)
 ·replace hr := inv_posB hb1 hr
  refine T.seq ?_
  refine T.region ?_
  refine T.assign .list rfl (wants0 rfl) rfl rfl ?_
  refine T.nil ?_
  refine T.then_normal ?_
  refine T.ret ?_
  refine T.then_ret ?_
  obtain rfl := inv_some hr
  refine T.pick [0, 1, 2, 3] 4 rfl rfl (Nat.le_add_left _ _) rfl ?_
  refine T.ret1 rfl rfl (fun w hS => ⟨((A0c, c0c), d0c), rfl, hS⟩)
 ·replace hr := inv_negB hb1 hr
  refine T.skip ?_
  refine T.then_normal ?_
  refine T.seq ?_
  refine T.region ?_
  refine T.move .list rfl (wants0 rfl) rfl rfl ?_
  refine T.nilCheck .list rfl (wants0 rfl) rfl rfl ?_
  refine T.field .list rfl (wants0 rfl) rfl rfl ?_
  refine T.field .list rfl (wants0 rfl) rfl rfl ?_
  refine T.load .list 0 rfl rfl (wants0 rfl) rfl rfl rfl ?_
  refine T.bin .list rfl (wants0 rfl) rfl rfl rfl rfl ?_
  refine T.nilCheck .list rfl (wants0 rfl) rfl rfl ?_
  refine T.field .list rfl (wants0 rfl) rfl rfl ?_
  refine T.field .list rfl (wants0 rfl) rfl rfl ?_
  refine T.store .list 0 rfl rfl (wants0 rfl) rfl rfl rfl rfl (Nat.le_of_ble_eq_true rfl) rfl (cs' := [.int .i64 o0.1, .map (some m0b), .slice A0c q0c.length c0c, .bool o0.2.1, .int .i64 o0.2.2.1, .int .i64 (IntKind.i64.wrap (o0.2.2.2.1 - 1)), .int .u64 o0.2.2.2.2.1, .int .i64 o0.2.2.2.2.2.1, .int .i64 o0.2.2.2.2.2.2]) rfl rfl ?_
  refine T.nil ?_
  refine T.then_normal ?_
  refine T.seq ?_
  refine T.seq ?_
  refine T.region ?_
  refine T.move .list rfl (wants0 rfl) rfl rfl ?_
  refine T.nilCheck .list rfl (wants0 rfl) rfl rfl ?_
  refine T.field .list rfl (wants0 rfl) rfl rfl ?_
  refine T.field .list rfl (wants0 rfl) rfl rfl ?_
  refine T.load .list 0 rfl rfl (wants0 rfl) rfl rfl rfl ?_
  refine T.bin .list rfl (wants0 rfl) rfl rfl rfl rfl ?_
  refine T.nil ?_
  refine T.then_normal ?_
  refine T.cond rfl (fun hb2 => ?_) (fun hb2 => ?_)
  ·replace hr := inv_posB hb2 hr
   refine T.seq ?_
   refine T.region ?_
   refine T.assign .list rfl (wants0 rfl) rfl rfl ?_
   refine T.nil ?_
   refine T.then_normal ?_
   refine T.ret ?_
   refine T.then_ret ?_
   obtain rfl := inv_some hr
   refine T.pick [0, 1, 2, 3] 4 rfl rfl (Nat.le_add_left _ _) rfl ?_
   refine T.ret1 rfl rfl (fun w hS => ⟨((A0c, c0c), d0c), rfl, hS⟩)
  ·replace hr := inv_negB hb2 hr
   refine T.skip ?_
   refine T.then_normal ?_
   refine T.seq ?_
   refine T.region ?_
   refine T.move .list rfl (wants0 rfl) rfl rfl ?_
   refine T.move .list rfl (wants0 rfl) rfl rfl ?_
   refine T.nilCheck .list rfl (wants0 rfl) rfl rfl ?_
   refine T.field .list rfl (wants0 rfl) rfl rfl ?_
   refine T.loadN .list 0 rfl rfl (wants0 rfl) rfl rfl (vs := [.int .i64 (IntKind.i64.wrap (o0.2.2.2.1 - 1)), .int .u64 o0.2.2.2.2.1, .int .i64 o0.2.2.2.2.2.1, .int .i64 o0.2.2.2.2.2.2]) rfl rfl ?_
   refine T.pick [0, 1, 2, 3] 4 rfl rfl (Nat.le_add_left _ _) (hs' := Cl p0 68 [.int .i64 o0.1, .map (some m0b), .slice A0c q0c.length c0c, .bool o0.2.1, .int .i64 o0.2.2.1, .int .i64 (IntKind.i64.wrap (o0.2.2.2.1 - 1)), .int .u64 o0.2.2.2.2.1, .int .i64 o0.2.2.2.2.2.1, .int .i64 o0.2.2.2.2.2.2] :: Mp (Elt.slice E8) m0b q0b :: Hb 82 A0c c0c d0c q0c :: Bb 5 d0c q0c :: hs) rfl ?_
   obtain ⟨r1, hg1, hr⟩ := inv_bind hr
   refine T.call .list (wants0 rfl) rfl (run_callF (vs := [_, _]) rfl Try.func17 rfl (by decide) rfl) (fun w hS => disk_Disk_Cut.c hS (o0 := (o0.1, o0.2.1, o0.2.2.1, IntKind.i64.wrap (o0.2.2.2.1 - 1), o0.2.2.2.2.1, o0.2.2.2.2.2.1, o0.2.2.2.2.2.2)) (q0b := q0b) (q0c := q0c) (a1 := (IntKind.i64.wrap (o0.2.2.2.1 - 1), o0.2.2.2.2.1, o0.2.2.2.2.2.1, o0.2.2.2.2.2.2))  hg1) (fun x1 => ?_)
   refine T.nil ?_
   refine T.then_normal ?_
   refine T.seq ?_
   refine T.region ?_
   refine T.assign .list rfl (wants0 rfl) rfl rfl ?_
   refine T.nil ?_
   refine T.then_normal ?_
   refine T.ret ?_
   obtain rfl := inv_some hr
   refine T.pick [0, 1, 2, 3] 4 rfl rfl (Nat.le_add_left _ _) rfl ?_
   refine T.ret1 rfl rfl (fun w hS => ⟨((x1.1.1, x1.1.2), x1.2), rfl, hS⟩)

noncomputable def disk_Disk_Write.k1 (o0 : Int × Bool × Int × Int × Int × Int × Int) (q0b : List (Int × (List UInt8))) (q0c : List (Int × List UInt8)) (l2 : List UInt8) (a1 : Int) (s1 : Bool) : Option (Int × (Int × Bool × Int × Int × Int × Int × Int) × (List (Int × (List UInt8))) × (List (Int × List UInt8))) :=
  (if s1 = true then some (1, (o0.1, o0.2.1, o0.2.2.1, o0.2.2.2.1, o0.2.2.2.2.1, o0.2.2.2.2.2.1, o0.2.2.2.2.2.2), q0b, q0c) else (disk_Disk_strikes.impl ((o0.1, o0.2.1, o0.2.2.1, o0.2.2.2.1, o0.2.2.2.2.1, o0.2.2.2.2.2.1, o0.2.2.2.2.2.2)) q0b q0c).bind fun r1 => (if r1.1 = true then some (20, (r1.2.1.1, r1.2.1.2.1, r1.2.1.2.2.1, r1.2.1.2.2.2.1, r1.2.1.2.2.2.2.1, r1.2.1.2.2.2.2.2.1, r1.2.1.2.2.2.2.2.2), r1.2.2.1, r1.2.2.2) else (disk_whole.impl l2).bind fun r2 => chk ((r1.2.2.2.length + 1) * 32 ≤ 140737488355328) (some (0, (r1.2.1.1, r1.2.1.2.1, r1.2.1.2.2.1, r1.2.1.2.2.2.1, r1.2.1.2.2.2.2.1, r1.2.1.2.2.2.2.2.1, r1.2.1.2.2.2.2.2.2), r1.2.2.1, (r1.2.2.2 ++ [(a1, r2)])))))
noncomputable def disk_Disk_Write.impl (o0 : Int × Bool × Int × Int × Int × Int × Int) (q0b : List (Int × (List UInt8))) (q0c : List (Int × List UInt8)) (a1 : Int) (l2 : List UInt8) : Option (Int × (Int × Bool × Int × Int × Int × Int × Int) × (List (Int × (List UInt8))) × (List (Int × List UInt8))) :=
  (if o0.2.1 = true then some (20, (o0.1, o0.2.1, o0.2.2.1, o0.2.2.2.1, o0.2.2.2.2.1, o0.2.2.2.2.2.1, o0.2.2.2.2.2.2), q0b, q0c) else (if ((decide (a1 < 0))) = true then disk_Disk_Write.k1 o0 q0b q0c l2 a1 true else (if ((decide (o0.1 ≤ a1))) = true then disk_Disk_Write.k1 o0 q0b q0c l2 a1 true else disk_Disk_Write.k1 o0 q0b q0c l2 a1 (decide ((8192 : Int) < ((l2.length : Int)))))))
set_option maxRecDepth 100000 in
set_option maxHeartbeats 4000000 in
theorem disk_Disk_Write.c {B : World} {hs : List MP} {w : World} {p0 : Nat} {o0 : Int × Bool × Int × Int × Int × Int × Int} {m0b : Nat} {q0b : List (Int × (List UInt8))} {c0c : Nat} {A0c : Option Addr} {d0c : Ads} {q0c : List (Int × List UInt8)} {a1 : Int} {c2 : Nat} {A2 : Option Addr} {l2 : List UInt8} (hS : St B (Cl p0 68 [.int .i64 o0.1, .map (some m0b), .slice A0c q0c.length c0c, .bool o0.2.1, .int .i64 o0.2.2.1, .int .i64 o0.2.2.2.1, .int .u64 o0.2.2.2.2.1, .int .i64 o0.2.2.2.2.2.1, .int .i64 o0.2.2.2.2.2.2] :: Mp (Elt.slice E8) m0b q0b :: Hb 82 A0c c0c d0c q0c :: Bb 5 d0c q0c :: Bf E8 5 A2 c2 l2 :: hs) w) {r : Int × (Int × Bool × Int × Int × Int × Int × Int) × (List (Int × (List UInt8))) × (List (Int × List UInt8))} (hr : disk_Disk_Write.impl o0 q0b q0c a1 l2 = some r) :
    Calls Try.prog 29 #[.pointer (some ⟨p0, 0, none⟩), .int .i64 a1, .slice A2 l2.length c2] w fun e w' => ∃ x : (Option Addr × Nat) × (Ads), e = .returned (.int .i64 r.1) ∧ St B (Cl p0 68 [.int .i64 r.2.1.1, .map (some m0b), .slice x.1.1 r.2.2.2.length x.1.2, .bool r.2.1.2.1, .int .i64 r.2.1.2.2.1, .int .i64 r.2.1.2.2.2.1, .int .u64 r.2.1.2.2.2.2.1, .int .i64 r.2.1.2.2.2.2.2.1, .int .i64 r.2.1.2.2.2.2.2.2] :: Mp (Elt.slice E8) m0b r.2.2.1 :: Hb 82 x.1.1 x.1.2 x.2 r.2.2.2 :: Bb 5 x.2 r.2.2.2 :: Bf E8 5 A2 c2 l2 :: hs) w' := by
 unfold disk_Disk_Write.impl at hr
 refine calls_T Try.func29 rfl rfl rfl hS ?_
 refine T.seq ?_
 refine T.region ?_
 refine T.assign .list rfl (wants0 rfl) rfl rfl ?_
 refine T.nil ?_
 refine T.then_normal ?_
 refine T.seq ?_
 refine T.block ?_
 refine T.seq ?_
 refine T.region ?_
 refine T.move .list rfl (wants0 rfl) rfl rfl ?_
 refine T.nilCheck .list rfl (wants0 rfl) rfl rfl ?_
 refine T.field .list rfl (wants0 rfl) rfl rfl ?_
 refine T.load .list 0 rfl rfl (wants0 rfl) rfl rfl rfl ?_
 refine T.assign .list rfl (wants0 rfl) rfl rfl ?_
 refine T.nil ?_
 refine T.then_normal ?_
 refine T.cond rfl (fun hb1 => ?_) (fun hb1 => ?_)
 ·replace hr := inv_posB hb1 hr
  refine T.seq ?_
  refine T.region ?_
  refine T.assign .list rfl (wants0 rfl) rfl rfl ?_
  refine T.nil ?_
  refine T.then_normal ?_
  refine T.ret ?_
  refine T.in_ret ?_
  refine T.then_ret ?_
  obtain rfl := inv_some hr
  refine T.pick [0, 1, 2, 3, 4] 5 rfl rfl (Nat.le_add_left _ _) rfl ?_
  refine T.ret1 rfl rfl (fun w hS => ⟨((A0c, c0c), d0c), rfl, hS⟩)
 ·replace hr := inv_negB hb1 hr
  refine T.seqJ (fun (s1 : Bool) (x1 : Unit) => [(0, .pointer (some ⟨p0, 0, none⟩)), (1, .int .i64 a1), (2, .slice A2 l2.length c2), (12, .bool s1)]) (fun s1 x1 => Cl p0 68 [.int .i64 o0.1, .map (some m0b), .slice A0c q0c.length c0c, .bool o0.2.1, .int .i64 o0.2.2.1, .int .i64 o0.2.2.2.1, .int .u64 o0.2.2.2.2.1, .int .i64 o0.2.2.2.2.2.1, .int .i64 o0.2.2.2.2.2.2] :: Mp (Elt.slice E8) m0b q0b :: Hb 82 A0c c0c d0c q0c :: Bb 5 d0c q0c :: Bf E8 5 A2 c2 l2 :: hs) (fun s1 => disk_Disk_Write.k1 o0 q0b q0c l2 a1 s1 = some r) (fun s1 x1 hk1 => ?_) (fun J1 => ?_)
  ·unfold disk_Disk_Write.k1 at hk1
   refine T.cond rfl (fun hb2 => ?_) (fun hb2 => ?_)
   ·replace hk1 := inv_posB hb2 hk1
    refine T.seq ?_
    refine T.region ?_
    refine T.assign .list rfl (wants0 rfl) rfl rfl ?_
    refine T.nil ?_
    refine T.then_normal ?_
    refine T.ret ?_
    refine T.in_ret ?_
    refine T.then_ret ?_
    obtain rfl := inv_some hk1
    refine T.pick [0, 1, 2, 3, 4] 5 rfl rfl (Nat.le_add_left _ _) rfl ?_
    refine T.ret1 rfl rfl (fun w hS => ⟨((A0c, c0c), d0c), rfl, hS⟩)
   ·replace hk1 := inv_negB hb2 hk1
    refine T.seq ?_
    refine T.region ?_
    refine T.move .list rfl (wants0 rfl) rfl rfl ?_
    refine T.pick [0, 1, 2, 3, 4] 5 rfl rfl (Nat.le_add_left _ _) (hs' := Cl p0 68 [.int .i64 o0.1, .map (some m0b), .slice A0c q0c.length c0c, .bool o0.2.1, .int .i64 o0.2.2.1, .int .i64 o0.2.2.2.1, .int .u64 o0.2.2.2.2.1, .int .i64 o0.2.2.2.2.2.1, .int .i64 o0.2.2.2.2.2.2] :: Mp (Elt.slice E8) m0b q0b :: Hb 82 A0c c0c d0c q0c :: Bb 5 d0c q0c :: Bf E8 5 A2 c2 l2 :: hs) rfl ?_
    obtain ⟨r1, hg1, hk1⟩ := inv_bind hk1
    refine T.call .list (wants0 rfl) rfl (run_callF (vs := [_]) rfl Try.func43 rfl (by decide) rfl) (fun w hS => disk_Disk_strikes.c hS (o0 := (o0.1, o0.2.1, o0.2.2.1, o0.2.2.2.1, o0.2.2.2.2.1, o0.2.2.2.2.2.1, o0.2.2.2.2.2.2)) (q0b := q0b) (q0c := q0c)  hg1) (fun x2 => ?_)
    refine T.assign .list rfl (wants0 rfl) rfl rfl ?_
    refine T.nil ?_
    refine T.then_normal ?_
    refine T.cond rfl (fun hb3 => ?_) (fun hb3 => ?_)
    ·replace hk1 := inv_posB hb3 hk1
     refine T.seq ?_
     refine T.region ?_
     refine T.assign .list rfl (wants0 rfl) rfl rfl ?_
     refine T.nil ?_
     refine T.then_normal ?_
     refine T.ret ?_
     refine T.in_ret ?_
     refine T.then_ret ?_
     obtain rfl := inv_some hk1
     refine T.pick [0, 1, 2, 3, 4] 5 rfl rfl (Nat.le_add_left _ _) rfl ?_
     refine T.ret1 rfl rfl (fun w hS => ⟨((x2.1.1, x2.1.2), x2.2), rfl, hS⟩)
    ·replace hk1 := inv_negB hb3 hk1
     refine T.skip ?_
     refine T.in_normal ?_
     refine T.then_normal ?_
     refine T.seq ?_
     refine T.dStart mixed ?_
     refine T.move (.dPure (i := 0) rfl (by kernel_rfl) (fun d _ _ _ _ h => by cases d <;> exact h)) rfl (wants0 rfl) rfl rfl ?_
     refine T.move (.dPure (i := 1) rfl (by kernel_rfl) (fun d _ _ _ _ h => by cases d <;> exact h)) rfl (wants0 rfl) rfl rfl ?_
     refine T.nilCheck (.dPure (i := 2) rfl (by kernel_rfl) (fun d _ _ _ _ h => by cases d <;> exact h)) rfl (wants0 rfl) rfl rfl ?_
     refine T.field (.dPure (i := 3) rfl (by kernel_rfl) (fun d _ _ _ _ h => by cases d <;> exact h)) rfl (wants0 rfl) rfl rfl ?_
     refine T.move (.dPure (i := 5) rfl (by kernel_rfl) (fun d _ _ _ _ h => by cases d <;> exact h)) rfl (wants0 rfl) rfl rfl ?_
     refine T.move (.dPure (i := 6) rfl (by kernel_rfl) (fun d _ _ _ _ h => by cases d <;> exact h)) rfl (wants0 rfl) rfl rfl ?_
     refine T.dAdd 13 (fun w => w.heap[p0]? = some (.cells [.int .i64 r1.2.1.1, .map (some m0b), .slice x2.1.1 r1.2.2.2.length x2.1.2, .bool r1.2.1.2.1, .int .i64 r1.2.1.2.2.1, .int .i64 r1.2.1.2.2.2.1, .int .u64 r1.2.1.2.2.2.2.1, .int .i64 r1.2.1.2.2.2.2.2.1, .int .i64 r1.2.1.2.2.2.2.2.2].toArray 68 (0, 0))) (Cl.stays 0 rfl) ?_
     refine T.valS 0 (i := 4) (.slice x2.1.1 r1.2.2.2.length x2.1.2) rfl rfl (by kernel_rfl) (by kernel_rfl) (fun d _ _ _ _ h => by cases d <;> exact h) (wants0 rfl) rfl (run_ldCl rfl rfl rfl) ?_
     obtain ⟨r2, hg2, hk1⟩ := inv_bind hk1
     refine T.dOnly (i := 7) (by kernel_rfl) ?_
     refine T.call (.dOne rfl (by kernel_rfl)) (wants0 rfl) rfl (run_callF (vs := [_]) rfl Try.func41 rfl (by decide) rfl) (fun w hS => (disk_whole.c (St.borrow (ros := [Ro E8 A2 c2 l2]) (Ros.cons (hS.roBf 4 rfl rfl) Ros.nil)) (i0 := 0) rfl hg2).mono fun e w' ⟨x, he, h1⟩ => ⟨x, he, hS.unborrow (post := [Bf E8 5 x.1 x.2 r2]) h1 (Frees.cons (Bf.free .sc) Frees.nil)⟩) (fun x3 => ?_)
     refine T.dNext (phi_cons (.inr (Cl.stays 1 rfl)) phi_nil) ?_
     refine T.build (.dPure (i := 8) rfl (by kernel_rfl) (fun d _ _ _ _ h => by cases d <;> exact h)) (vals := [(0, .int .i64 a1), (1, .slice x3.1 r2.length x3.2)]) (cells := #[.int .i64 a1, .slice x3.1 r2.length x3.2]) rfl (wants0 rfl) rfl rfl (run_buildStruct (sizes := [1, 1]) (by kernel_rfl) (by kernel_rfl)) ?_
     refine T.dOnly (i := 9) (by kernel_rfl) ?_
     refine T.lit (E := EOp) (.dOne rfl (by kernel_rfl)) (vals := [(0, .agg #[.int .i64 a1, .slice x3.1 r2.length x3.2])]) (cells := #[.int .i64 a1, .slice x3.1 r2.length x3.2]) rfl (wants0 rfl) rfl rfl rfl rfl rfl (by kernel_rfl) [(a1, x3.1, r2.length, x3.2)] rfl (fun _ _ _ _ ho => encsOp) (fun b1 => ?_)
     refine T.dNext (phi_cons (.inr (Cl.stays 2 rfl)) phi_nil) ?_
     obtain ⟨hc1, hk1⟩ := inv_chk hk1
     refine T.dOnly (i := 10) (by kernel_rfl) ?_
     refine T.appHb (.dOne rfl (by kernel_rfl)) 4 0 (bs := r2) rfl rfl rfl (wants0 rfl) rfl rfl rfl rfl rfl rfl hc1 (fun _ _ => rfl) (fun A4 c4 => ?_)
     refine T.pick [1, 5, 4, 0, 2, 3, 6] 7 rfl rfl (Nat.le_add_left _ _) (hs' := Bf E8 5 x3.1 x3.2 r2 :: Bb 5 x2.2 r1.2.2.2 :: Bf EOp 82 A4 c4 (hdr x2.2 r1.2.2.2 ++ [(a1, x3.1, r2.length, x3.2)]) :: Bf EOp 82 (some ⟨b1, 0, none⟩) 1 ([(a1, x3.1, r2.length, x3.2)]) :: Cl p0 68 [.int .i64 r1.2.1.1, .map (some m0b), .slice x2.1.1 r1.2.2.2.length x2.1.2, .bool r1.2.1.2.1, .int .i64 r1.2.1.2.2.1, .int .i64 r1.2.1.2.2.2.1, .int .u64 r1.2.1.2.2.2.2.1, .int .i64 r1.2.1.2.2.2.2.2.1, .int .i64 r1.2.1.2.2.2.2.2.2] :: Mp (Elt.slice E8) m0b r1.2.2.1 :: Bf E8 5 A2 c2 l2 :: hs) rfl ?_
     refine T.snocHb ?_
     refine T.dNext (phi_cons (.inr (Cl.stays 3 rfl)) phi_nil) ?_
     refine T.nilCheck (.dPure (i := 11) rfl (by kernel_rfl) (fun d _ _ _ _ h => by cases d <;> exact h)) rfl (wants0 rfl) rfl rfl ?_
     refine T.field (.dPure (i := 12) rfl (by kernel_rfl) (fun d _ _ _ _ h => by cases d <;> exact h)) rfl (wants0 rfl) rfl rfl ?_
     refine T.dOnly (i := 13) (by kernel_rfl) ?_
     refine T.store (.dOne rfl (by kernel_rfl)) 3 rfl rfl (wants0 rfl) rfl rfl rfl rfl (Nat.le_of_ble_eq_true rfl) rfl (cs' := [.int .i64 r1.2.1.1, .map (some m0b), .slice A4 (((r1.2.2.2 ++ [(a1, r2)])).length) c4, .bool r1.2.1.2.1, .int .i64 r1.2.1.2.2.1, .int .i64 r1.2.1.2.2.2.1, .int .u64 r1.2.1.2.2.2.2.1, .int .i64 r1.2.1.2.2.2.2.2.1, .int .i64 r1.2.1.2.2.2.2.2.2]) rfl rfl ?_
     refine T.dNext (phi_cons (.inl (by kernel_rfl)) phi_nil) ?_
     refine T.dDone (by kernel_rfl) ?_
     refine T.then_normal ?_
     refine T.seq ?_
     refine T.region ?_
     refine T.assign .list rfl (wants0 rfl) rfl rfl ?_
     refine T.nil ?_
     refine T.then_normal ?_
     refine T.ret ?_
     obtain rfl := inv_some hk1
     refine T.pick [3, 4, 0, 1, 5] 6 rfl rfl (Nat.le_add_left _ _) rfl ?_
     refine T.ret1 rfl rfl (fun w hS => ⟨((A4, c4), (upd x2.2 r1.2.2.2.length (x3.1, x3.2))), rfl, hS⟩)
  ·refine T.region ?_
   refine T.move .list rfl (wants0 rfl) rfl rfl ?_
   refine T.bin .list rfl (wants0 rfl) rfl rfl rfl rfl ?_
   refine T.move .list rfl (wants0 rfl) rfl rfl ?_
   refine T.bool (b := (decide (a1 < 0))) (fun hb4 => ?_) (fun hb4 => ?_)
   ·replace hr := inv_posB hb4 hr
    refine T.leave .list (wantsNot rfl rfl rfl hb4) rfl ?_
    refine T.leave .list (wantsNot rfl rfl rfl hb4) rfl ?_
    refine T.leave .list (wantsNot rfl rfl rfl hb4) rfl ?_
    refine T.leave .list (wantsNot rfl rfl rfl hb4) rfl ?_
    refine T.leave .list (wantsNot rfl rfl rfl hb4) rfl ?_
    refine T.leave .list (wantsNot rfl rfl rfl hb4) rfl ?_
    refine T.pickT .list rfl (wants0 rfl) rfl rfl hb4 rfl ?_
    refine T.move .list rfl (wants0 rfl) rfl rfl ?_
    refine T.leave .list (wantsNot rfl rfl rfl rfl) rfl ?_
    refine T.leave .list (wantsNot rfl rfl rfl rfl) rfl ?_
    refine T.leave .list (wantsNot rfl rfl rfl rfl) rfl ?_
    refine T.pickT .list rfl (wants0 rfl) rfl rfl rfl rfl ?_
    refine T.assign .list rfl (wants0 rfl) rfl rfl ?_
    refine T.nil ?_
    refine T.then_normal ?_
    exact T.le (EnvLe.cons rfl (EnvLe.cons rfl (EnvLe.cons rfl (EnvLe.cons rfl EnvLe.nil)))) (T.pick [0, 1, 2, 3, 4] 5 rfl rfl (Nat.le_add_left _ _) rfl (J1 true () hr))
   ·replace hr := inv_negB hb4 hr
    refine T.move .list rfl (wants1 rfl rfl rfl hb4) rfl rfl ?_
    refine T.move .list rfl (wants1 rfl rfl rfl hb4) rfl rfl ?_
    refine T.nilCheck .list rfl (wants1 rfl rfl rfl hb4) rfl rfl ?_
    refine T.field .list rfl (wants1 rfl rfl rfl hb4) rfl rfl ?_
    refine T.load .list 0 rfl rfl (wants1 rfl rfl rfl hb4) rfl rfl rfl ?_
    refine T.bin .list rfl (wants1 rfl rfl rfl hb4) rfl rfl rfl rfl ?_
    refine T.pickF .list rfl (wants0 rfl) rfl rfl hb4 rfl ?_
    refine T.move .list rfl (wants0 rfl) rfl rfl ?_
    refine T.bool (b := (decide (o0.1 ≤ a1))) (fun hb5 => ?_) (fun hb5 => ?_)
    ·replace hr := inv_posB hb5 hr
     refine T.leave .list (wantsNot rfl rfl rfl hb5) rfl ?_
     refine T.leave .list (wantsNot rfl rfl rfl hb5) rfl ?_
     refine T.leave .list (wantsNot rfl rfl rfl hb5) rfl ?_
     refine T.pickT .list rfl (wants0 rfl) rfl rfl hb5 rfl ?_
     refine T.assign .list rfl (wants0 rfl) rfl rfl ?_
     refine T.nil ?_
     refine T.then_normal ?_
     exact T.le (EnvLe.cons rfl (EnvLe.cons rfl (EnvLe.cons rfl (EnvLe.cons rfl EnvLe.nil)))) (T.pick [0, 1, 2, 3, 4] 5 rfl rfl (Nat.le_add_left _ _) rfl (J1 true () hr))
    ·replace hr := inv_negB hb5 hr
     refine T.move .list rfl (wants1 rfl rfl rfl hb5) rfl rfl ?_
     refine T.lenSlice .list rfl (wants1 rfl rfl rfl hb5) rfl rfl ?_
     refine T.bin .list rfl (wants1 rfl rfl rfl hb5) rfl rfl rfl rfl ?_
     refine T.pickF .list rfl (wants0 rfl) rfl rfl hb5 rfl ?_
     refine T.assign .list rfl (wants0 rfl) rfl rfl ?_
     refine T.nil ?_
     refine T.then_normal ?_
     exact T.le (EnvLe.cons rfl (EnvLe.cons rfl (EnvLe.cons rfl (EnvLe.cons rfl EnvLe.nil)))) (T.pick [0, 1, 2, 3, 4] 5 rfl rfl (Nat.le_add_left _ _) rfl (J1 (decide ((8192 : Int) < ((l2.length : Int)))) () hr))

noncomputable def disk_Disk_Flush.k2 (s1 : Int × (List (Int × (List UInt8))) × (List (Int × List UInt8)) × Bool × Int × Int × Int × Int × Int × Bool) (s2 : (List (Int × (List UInt8)))) : Option (Int × (Int × Bool × Int × Int × Int × Int × Int) × (List (Int × (List UInt8))) × (List (Int × List UInt8))) :=
  some (0, (s1.1, s1.2.2.2.1, s1.2.2.2.2.1, s1.2.2.2.2.2.1, s1.2.2.2.2.2.2.1, s1.2.2.2.2.2.2.2.1, s1.2.2.2.2.2.2.2.2.1), s2, ([] : List (Int × List UInt8)))
noncomputable def disk_Disk_Flush.st1 (s1 : Int × (List (Int × (List UInt8))) × (List (Int × List UInt8)) × Bool × Int × Int × Int × Int × Int × Bool) (s3 : (List (Int × (List UInt8))) × Int) : Option (((List (Int × (List UInt8))) × Int) ⊕ ((List (Int × (List UInt8))))) :=
  (if ((decide (s3.2 < ((s1.2.2.1.length : Int))))) = true then chk (0 ≤ s3.2 ∧ s3.2 < (s1.2.2.1.length : Int)) ((disk_Disk_lay.impl ((s1.1, s1.2.2.2.1, s1.2.2.2.2.1, s1.2.2.2.2.2.1, s1.2.2.2.2.2.2.1, s1.2.2.2.2.2.2.2.1, s1.2.2.2.2.2.2.2.2.1)) s3.1 ((((((s1.2.2.1).getD (s3.2 : Int).toNat default)).1), ((((s1.2.2.1).getD (s3.2 : Int).toNat default)).2))) 8192).bind fun r1 => some (.inl (r1, IntKind.i64.wrap (s3.2 + 1)))) else some (.inr s3.1))
noncomputable def disk_Disk_Flush.k1 (s1 : Int × (List (Int × (List UInt8))) × (List (Int × List UInt8)) × Bool × Int × Int × Int × Int × Int × Bool) : Option (Int × (Int × Bool × Int × Int × Int × Int × Int) × (List (Int × (List UInt8))) × (List (Int × List UInt8))) :=
  (if s1.2.2.2.2.2.2.2.2.2 = true then some (20, (s1.1, s1.2.2.2.1, s1.2.2.2.2.1, s1.2.2.2.2.2.1, s1.2.2.2.2.2.2.1, s1.2.2.2.2.2.2.2.1, s1.2.2.2.2.2.2.2.2.1), s1.2.1, s1.2.2.1) else (loop (disk_Disk_Flush.st1 s1) (s1.2.1, 0)).bind (fun e1 => disk_Disk_Flush.k2 s1 e1))
noncomputable def disk_Disk_Flush.impl (o0 : Int × Bool × Int × Int × Int × Int × Int) (q0b : List (Int × (List UInt8))) (q0c : List (Int × List UInt8)) : Option (Int × (Int × Bool × Int × Int × Int × Int × Int) × (List (Int × (List UInt8))) × (List (Int × List UInt8))) :=
  (if o0.2.1 = true then disk_Disk_Flush.k1 (o0.1, q0b, q0c, o0.2.1, o0.2.2.1, o0.2.2.2.1, o0.2.2.2.2.1, o0.2.2.2.2.2.1, o0.2.2.2.2.2.2, true) else (disk_Disk_strikes.impl ((o0.1, o0.2.1, o0.2.2.1, o0.2.2.2.1, o0.2.2.2.2.1, o0.2.2.2.2.2.1, o0.2.2.2.2.2.2)) q0b q0c).bind fun r2 => disk_Disk_Flush.k1 (r2.2.1.1, r2.2.2.1, r2.2.2.2, r2.2.1.2.1, r2.2.1.2.2.1, r2.2.1.2.2.2.1, r2.2.1.2.2.2.2.1, r2.2.1.2.2.2.2.2.1, r2.2.1.2.2.2.2.2.2, r2.1))
set_option maxRecDepth 100000 in
set_option maxHeartbeats 4000000 in
theorem disk_Disk_Flush.c {B : World} {hs : List MP} {w : World} {p0 : Nat} {o0 : Int × Bool × Int × Int × Int × Int × Int} {m0b : Nat} {q0b : List (Int × (List UInt8))} {c0c : Nat} {A0c : Option Addr} {d0c : Ads} {q0c : List (Int × List UInt8)} (hS : St B (Cl p0 68 [.int .i64 o0.1, .map (some m0b), .slice A0c q0c.length c0c, .bool o0.2.1, .int .i64 o0.2.2.1, .int .i64 o0.2.2.2.1, .int .u64 o0.2.2.2.2.1, .int .i64 o0.2.2.2.2.2.1, .int .i64 o0.2.2.2.2.2.2] :: Mp (Elt.slice E8) m0b q0b :: Hb 82 A0c c0c d0c q0c :: Bb 5 d0c q0c :: hs) w) {r : Int × (Int × Bool × Int × Int × Int × Int × Int) × (List (Int × (List UInt8))) × (List (Int × List UInt8))} (hr : disk_Disk_Flush.impl o0 q0b q0c = some r) :
    Calls Try.prog 31 #[.pointer (some ⟨p0, 0, none⟩)] w fun e w' => ∃ x : (Option Addr × Nat) × (Ads), e = .returned (.int .i64 r.1) ∧ St B (Cl p0 68 [.int .i64 r.2.1.1, .map (some m0b), .slice x.1.1 r.2.2.2.length x.1.2, .bool r.2.1.2.1, .int .i64 r.2.1.2.2.1, .int .i64 r.2.1.2.2.2.1, .int .u64 r.2.1.2.2.2.2.1, .int .i64 r.2.1.2.2.2.2.2.1, .int .i64 r.2.1.2.2.2.2.2.2] :: Mp (Elt.slice E8) m0b r.2.2.1 :: Hb 82 x.1.1 x.1.2 x.2 r.2.2.2 :: Bb 5 x.2 r.2.2.2 :: hs) w' := by
 unfold disk_Disk_Flush.impl at hr
 refine calls_T Try.func31 rfl rfl rfl hS ?_
 refine T.seq ?_
 refine T.region ?_
 refine T.assign .list rfl (wants0 rfl) rfl rfl ?_
 refine T.nil ?_
 refine T.then_normal ?_
 refine T.seq ?_
 refine T.seqJ (fun (s1 : Int × (List (Int × (List UInt8))) × (List (Int × List UInt8)) × Bool × Int × Int × Int × Int × Int × Bool) (x1 : (Option Addr × Nat) × (Ads)) => [(0, .pointer (some ⟨p0, 0, none⟩)), (12, .bool s1.2.2.2.2.2.2.2.2.2)]) (fun s1 x1 => Cl p0 68 [.int .i64 s1.1, .map (some m0b), .slice x1.1.1 s1.2.2.1.length x1.1.2, .bool s1.2.2.2.1, .int .i64 s1.2.2.2.2.1, .int .i64 s1.2.2.2.2.2.1, .int .u64 s1.2.2.2.2.2.2.1, .int .i64 s1.2.2.2.2.2.2.2.1, .int .i64 s1.2.2.2.2.2.2.2.2.1] :: Mp (Elt.slice E8) m0b s1.2.1 :: Hb 82 x1.1.1 x1.1.2 x1.2 s1.2.2.1 :: Bb 5 x1.2 s1.2.2.1 :: hs) (fun s1 => disk_Disk_Flush.k1 s1 = some r) (fun s1 x1 hk1 => ?_) (fun J1 => ?_)
 ·unfold disk_Disk_Flush.k1 at hk1
  refine T.cond rfl (fun hb1 => ?_) (fun hb1 => ?_)
  ·replace hk1 := inv_posB hb1 hk1
   refine T.seq ?_
   refine T.region ?_
   refine T.assign .list rfl (wants0 rfl) rfl rfl ?_
   refine T.nil ?_
   refine T.then_normal ?_
   refine T.ret ?_
   refine T.then_ret ?_
   obtain rfl := inv_some hk1
   refine T.pick [0, 1, 2, 3] 4 rfl rfl (Nat.le_add_left _ _) rfl ?_
   refine T.ret1 rfl rfl (fun w hS => ⟨((x1.1.1, x1.1.2), x1.2), rfl, hS⟩)
  ·replace hk1 := inv_negB hb1 hk1
   refine T.skip ?_
   refine T.then_normal ?_
   refine T.pick [2, 3, 0, 1] 4 rfl rfl (Nat.le_add_left _ _) (hs' := Hb 82 x1.1.1 x1.1.2 x1.2 s1.2.2.1 :: Bb 5 x1.2 s1.2.2.1 :: Cl p0 68 [.int .i64 s1.1, .map (some m0b), .slice x1.1.1 s1.2.2.1.length x1.1.2, .bool s1.2.2.2.1, .int .i64 s1.2.2.2.2.1, .int .i64 s1.2.2.2.2.2.1, .int .u64 s1.2.2.2.2.2.2.1, .int .i64 s1.2.2.2.2.2.2.2.1, .int .i64 s1.2.2.2.2.2.2.2.2.1] :: Mp (Elt.slice E8) m0b s1.2.1 :: hs) rfl ?_
   refine T.hbFreeze ?_
   refine T.seqJ (fun (s2 : (List (Int × (List UInt8)))) (x2 : Unit) => [(0, .pointer (some ⟨p0, 0, none⟩))]) (fun s2 x2 => Cl p0 68 [.int .i64 s1.1, .map (some m0b), .slice x1.1.1 s1.2.2.1.length x1.1.2, .bool s1.2.2.2.1, .int .i64 s1.2.2.2.2.1, .int .i64 s1.2.2.2.2.2.1, .int .u64 s1.2.2.2.2.2.2.1, .int .i64 s1.2.2.2.2.2.2.2.1, .int .i64 s1.2.2.2.2.2.2.2.2.1] :: Mp (Elt.slice E8) m0b s2 :: Bf ((Elt.pair E64 (Elt.slice E8))) 82 x1.1.1 x1.1.2 s1.2.2.1 :: hs) (fun s2 => disk_Disk_Flush.k2 s1 s2 = some r) (fun s2 x2 hk2 => ?_) (fun J2 => ?_)
   ·unfold disk_Disk_Flush.k2 at hk2
    refine T.seq ?_
    refine T.region ?_
    refine T.move .list rfl (wants0 rfl) rfl rfl ?_
    refine T.nilCheck .list rfl (wants0 rfl) rfl rfl ?_
    refine T.field .list rfl (wants0 rfl) rfl rfl ?_
    refine T.store .list 0 rfl rfl (wants0 rfl) rfl rfl rfl rfl (Nat.le_of_ble_eq_true rfl) rfl (cs' := [.int .i64 s1.1, .map (some m0b), .slice none 0 0, .bool s1.2.2.2.1, .int .i64 s1.2.2.2.2.1, .int .i64 s1.2.2.2.2.2.1, .int .u64 s1.2.2.2.2.2.2.1, .int .i64 s1.2.2.2.2.2.2.2.1, .int .i64 s1.2.2.2.2.2.2.2.2.1]) rfl rfl ?_
    refine T.nil ?_
    refine T.then_normal ?_
    refine T.seq ?_
    refine T.region ?_
    refine T.assign .list rfl (wants0 rfl) rfl rfl ?_
    refine T.nil ?_
    refine T.then_normal ?_
    refine T.ret ?_
    obtain rfl := inv_some hk2
    refine T.nilHb 82 5 ?_
    refine T.pick [2, 3, 0, 1] 5 rfl rfl (Nat.le_add_left _ _) rfl ?_
    refine T.ret1 rfl rfl (fun w hS => ⟨((none, 0), noAds), rfl, hS⟩)
   ·refine T.seq ?_
    refine T.region ?_
    refine T.move .list rfl (wants0 rfl) rfl rfl ?_
    refine T.nilCheck .list rfl (wants0 rfl) rfl rfl ?_
    refine T.field .list rfl (wants0 rfl) rfl rfl ?_
    refine T.load .list 1 rfl rfl (wants0 rfl) rfl rfl rfl ?_
    refine T.lenSlice .list rfl (wants0 rfl) rfl rfl ?_
    refine T.move .list rfl (wants0 rfl) rfl rfl ?_
    refine T.nil ?_
    refine T.then_normal ?_
    refine T.block ?_
    obtain ⟨e1, hl1, hk1⟩ := inv_bind hk1
    refine T.le (EnvLe.cons rfl (EnvLe.cons rfl (EnvLe.cons rfl (EnvLe.cons rfl EnvLe.nil)))) (T.pick [1, 2, 0] 3 rfl rfl (Nat.le_add_left _ _) rfl (T.loop (s0 := (s1.2.1, 0)) (env := fun s3 x3 => [(0, .pointer (some ⟨p0, 0, none⟩)), (16, .slice x1.1.1 s1.2.2.1.length x1.1.2), (17, .int .i64 ((s1.2.2.1.length : Int))), (18, .int .i64 s3.2)]) (hs := fun (s3 : (List (Int × (List UInt8))) × Int) (x3 : Unit) => Cl p0 68 [.int .i64 s1.1, .map (some m0b), .slice x1.1.1 s1.2.2.1.length x1.1.2, .bool s1.2.2.2.1, .int .i64 s1.2.2.2.2.1, .int .i64 s1.2.2.2.2.2.1, .int .u64 s1.2.2.2.2.2.2.1, .int .i64 s1.2.2.2.2.2.2.2.1, .int .i64 s1.2.2.2.2.2.2.2.2.1] :: Mp (Elt.slice E8) m0b s3.1 :: Bf ((Elt.pair E64 (Elt.slice E8))) 82 x1.1.1 x1.1.2 s1.2.2.1 :: hs) hl1 () (fun K1 s3 x3 o1 he1 hm1 hx1 => ?_)))
    unfold disk_Disk_Flush.st1 at he1
    refine T.seq ?_
    refine T.region ?_
    refine T.bin .list rfl (wants0 rfl) rfl rfl rfl rfl ?_
    refine T.nil ?_
    refine T.then_normal ?_
    refine T.seq ?_
    refine T.cond rfl (fun hb2 => ?_) (fun hb2 => ?_)
    ·replace he1 := inv_posB hb2 he1
     refine T.skip ?_
     refine T.then_normal ?_
     refine T.seq ?_
     refine T.block ?_
     refine T.seq ?_
     refine T.region ?_
     obtain ⟨hc1, he1⟩ := inv_chk he1
     refine T.idxBf .list 2 rfl rfl (wants0 rfl) rfl rfl rfl hc1.1 hc1.2 (Nat.le_refl _) ?_
     refine T.ldFBf 2 .list Fd.self (Sh.pair Sh.sc Sh.slice) rfl (.inl rfl) rfl rfl hc1.1 hc1.2 rfl (wants0 rfl) rfl rfl rfl (v := fun x4 => .agg #[.int .i64 (((((s1.2.2.1).getD (s3.2 : Int).toNat default)).1)), .slice x4.2.1 ((((((s1.2.2.1).getD (s3.2 : Int).toNat default)).2)).length) x4.2.2]) (hs' := fun x4 => Ro E8 x4.2.1 x4.2.2 (((((s1.2.2.1).getD (s3.2 : Int).toNat default)).2)) :: Cl p0 68 [.int .i64 s1.1, .map (some m0b), .slice x1.1.1 s1.2.2.1.length x1.1.2, .bool s1.2.2.2.1, .int .i64 s1.2.2.2.2.1, .int .i64 s1.2.2.2.2.2.1, .int .u64 s1.2.2.2.2.2.2.1, .int .i64 s1.2.2.2.2.2.2.2.1, .int .i64 s1.2.2.2.2.2.2.2.2.1] :: Mp (Elt.slice E8) m0b s3.1 :: Bf ((Elt.pair E64 (Elt.slice E8))) 82 x1.1.1 x1.1.2 s1.2.2.1 :: hs) (fun _ => rfl) (fun _ => rfl) (fun x4 => ?_)
     refine T.allocS .list rfl (wants0 rfl) rfl (cs := [.int .i64 0, .slice none 0 0]) rfl (fun b1 => ?_)
     refine T.store .list 0 rfl rfl (wants0 rfl) rfl rfl rfl rfl (Nat.le_of_ble_eq_true rfl) rfl (cs' := [.int .i64 (((((s1.2.2.1).getD (s3.2 : Int).toNat default)).1)), .slice x4.2.1 ((((((s1.2.2.1).getD (s3.2 : Int).toNat default)).2)).length) x4.2.2]) rfl rfl ?_
     refine T.nil ?_
     refine T.then_normal ?_
     refine T.region ?_
     refine T.move .list rfl (wants0 rfl) rfl rfl ?_
     refine T.loadN .list 0 rfl rfl (wants0 rfl) rfl rfl (vs := [.int .i64 (((((s1.2.2.1).getD (s3.2 : Int).toNat default)).1)), .slice x4.2.1 ((((((s1.2.2.1).getD (s3.2 : Int).toNat default)).2)).length) x4.2.2]) rfl rfl ?_
     refine T.pick [2, 3, 0, 1, 4] 5 rfl rfl (Nat.le_add_left _ _) (hs' := Cl p0 68 [.int .i64 s1.1, .map (some m0b), .slice x1.1.1 s1.2.2.1.length x1.1.2, .bool s1.2.2.2.1, .int .i64 s1.2.2.2.2.1, .int .i64 s1.2.2.2.2.2.1, .int .u64 s1.2.2.2.2.2.2.1, .int .i64 s1.2.2.2.2.2.2.2.1, .int .i64 s1.2.2.2.2.2.2.2.2.1] :: Mp (Elt.slice E8) m0b s3.1 :: Cl b1 82 [.int .i64 (((((s1.2.2.1).getD (s3.2 : Int).toNat default)).1)), .slice x4.2.1 ((((((s1.2.2.1).getD (s3.2 : Int).toNat default)).2)).length) x4.2.2] :: Ro E8 x4.2.1 x4.2.2 (((((s1.2.2.1).getD (s3.2 : Int).toNat default)).2)) :: Bf ((Elt.pair E64 (Elt.slice E8))) 82 x1.1.1 x1.1.2 s1.2.2.1 :: hs) rfl ?_
     obtain ⟨r1, hg1, he1⟩ := inv_bind he1
     refine T.call .list (wants0 rfl) rfl (run_callF (vs := [_, _, _]) rfl Try.func40 rfl (by decide) rfl) (fun w hS => disk_Disk_lay.c hS (i1a := 3) (o0 := (s1.1, s1.2.2.2.1, s1.2.2.2.2.1, s1.2.2.2.2.2.1, s1.2.2.2.2.2.2.1, s1.2.2.2.2.2.2.2.1, s1.2.2.2.2.2.2.2.2.1)) (q0b := s3.1) (v0c := .slice x1.1.1 s1.2.2.1.length x1.1.2) (a1 := (((((s1.2.2.1).getD (s3.2 : Int).toNat default)).1), ((((s1.2.2.1).getD (s3.2 : Int).toNat default)).2))) rfl hg1) (fun x5 => ?_)
     refine T.nil ?_
     refine T.in_normal ?_
     refine T.then_normal ?_
     refine T.region ?_
     refine T.bin .list rfl (wants0 rfl) rfl rfl rfl rfl ?_
     refine T.move .list rfl (wants0 rfl) rfl rfl ?_
     refine T.nil ?_
     refine T.then_normal ?_
     obtain rfl := inv_some he1
     exact T.le (EnvLe.cons rfl (EnvLe.cons rfl (EnvLe.cons rfl (EnvLe.cons rfl EnvLe.nil)))) (T.pick [0, 1, 4] 5 rfl rfl (Nat.le_add_left _ _) rfl (hm1 (r1, IntKind.i64.wrap (s3.2 + 1)) rfl ()))
    ·replace he1 := inv_negB hb2 he1
     refine T.exit ?_
     refine T.then_exit ?_
     refine T.then_exit ?_
     obtain rfl := inv_some he1
     obtain rfl := hx1 _ rfl
     refine T.in_hit ?_
     refine T.then_normal ?_
     exact T.le (EnvLe.cons rfl EnvLe.nil) (T.pick [0, 1, 2] 3 rfl rfl (Nat.le_add_left _ _) rfl (J2 s3.1 () hk1))
 ·refine T.region ?_
  refine T.move .list rfl (wants0 rfl) rfl rfl ?_
  refine T.nilCheck .list rfl (wants0 rfl) rfl rfl ?_
  refine T.field .list rfl (wants0 rfl) rfl rfl ?_
  refine T.load .list 0 rfl rfl (wants0 rfl) rfl rfl rfl ?_
  refine T.move .list rfl (wants0 rfl) rfl rfl ?_
  refine T.bool (b := o0.2.1) (fun hb3 => ?_) (fun hb3 => ?_)
  ·replace hr := inv_posB hb3 hr
   refine T.leave .list (wantsNot rfl rfl rfl hb3) rfl ?_
   refine T.leave .list (wantsNot rfl rfl rfl hb3) rfl ?_
   refine T.pickT .list rfl (wants0 rfl) rfl rfl hb3 rfl ?_
   refine T.nil ?_
   refine T.then_normal ?_
   exact T.le (EnvLe.cons rfl (EnvLe.cons rfl EnvLe.nil)) (T.pick [0, 1, 2, 3] 4 rfl rfl (Nat.le_add_left _ _) rfl (J1 (o0.1, q0b, q0c, o0.2.1, o0.2.2.1, o0.2.2.2.1, o0.2.2.2.2.1, o0.2.2.2.2.2.1, o0.2.2.2.2.2.2, true) ((A0c, c0c), d0c) hr))
  ·replace hr := inv_negB hb3 hr
   refine T.move .list rfl (wants1 rfl rfl rfl hb3) rfl rfl ?_
   refine T.pick [0, 1, 2, 3] 4 rfl rfl (Nat.le_add_left _ _) (hs' := Cl p0 68 [.int .i64 o0.1, .map (some m0b), .slice A0c q0c.length c0c, .bool o0.2.1, .int .i64 o0.2.2.1, .int .i64 o0.2.2.2.1, .int .u64 o0.2.2.2.2.1, .int .i64 o0.2.2.2.2.2.1, .int .i64 o0.2.2.2.2.2.2] :: Mp (Elt.slice E8) m0b q0b :: Hb 82 A0c c0c d0c q0c :: Bb 5 d0c q0c :: hs) rfl ?_
   obtain ⟨r2, hg2, hr⟩ := inv_bind hr
   refine T.call .list (wants1 rfl rfl rfl hb3) rfl (run_callF (vs := [_]) rfl Try.func43 rfl (by decide) rfl) (fun w hS => disk_Disk_strikes.c hS (o0 := (o0.1, o0.2.1, o0.2.2.1, o0.2.2.2.1, o0.2.2.2.2.1, o0.2.2.2.2.2.1, o0.2.2.2.2.2.2)) (q0b := q0b) (q0c := q0c)  hg2) (fun x6 => ?_)
   refine T.pickF .list rfl (wants0 rfl) rfl rfl hb3 rfl ?_
   refine T.nil ?_
   refine T.then_normal ?_
   exact T.le (EnvLe.cons rfl (EnvLe.cons rfl EnvLe.nil)) (T.pick [0, 1, 2, 3] 4 rfl rfl (Nat.le_add_left _ _) rfl (J1 (r2.2.1.1, r2.2.2.1, r2.2.2.2, r2.2.1.2.1, r2.2.1.2.2.1, r2.2.1.2.2.2.1, r2.2.1.2.2.2.2.1, r2.2.1.2.2.2.2.2.1, r2.2.1.2.2.2.2.2.2, r2.1) ((x6.1.1, x6.1.2), x6.2) hr))

noncomputable def disk_Disk_Read.k2 (o0 : Int × Bool × Int × Int × Int × Int × Int) (q0b : List (Int × (List UInt8))) (a1 : Int) (s2 : Unit) : Option (List UInt8 × Int) :=
  (disk_Disk_good.impl ((o0.1, o0.2.1, o0.2.2.1, o0.2.2.2.1, o0.2.2.2.2.1, o0.2.2.2.2.2.1, o0.2.2.2.2.2.2)) q0b a1).bind fun r1 => some (r1, 0)
noncomputable def disk_Disk_Read.st1 (q0c : List (Int × List UInt8)) (a1 : Int) (s3 : Int) : Option (Int ⊕ ((List UInt8 × Int) ⊕ Unit)) :=
  (if ((decide ((0 : Int) ≤ s3))) = true then chk (0 ≤ s3 ∧ s3 < (q0c.length : Int)) ((if ((decide (((((q0c).getD (s3 : Int).toNat default).1)) = a1))) = true then chk (0 ≤ s3 ∧ s3 < (q0c.length : Int)) ((disk_whole.impl ((q0c.getD ((s3 : Int).toNat) default).2)).bind fun r2 => some (.inr (.inl (r2, 0)))) else some (.inl (IntKind.i64.wrap (s3 - 1))))) else some (.inr (.inr ())))
noncomputable def disk_Disk_Read.k1 (q0c : List (Int × List UInt8)) (a1 : Int) (o0 : Int × Bool × Int × Int × Int × Int × Int) (q0b : List (Int × (List UInt8))) (s1 : Bool) : Option (List UInt8 × Int) :=
  (if s1 = true then some (([] : List UInt8), 1) else (loop (disk_Disk_Read.st1 q0c a1) (IntKind.i64.wrap (((q0c.length : Int)) - 1))).bind (fun e1 => match e1 with | .inl v => some v | .inr v => disk_Disk_Read.k2 o0 q0b a1 v))
noncomputable def disk_Disk_Read.impl (o0 : Int × Bool × Int × Int × Int × Int × Int) (q0b : List (Int × (List UInt8))) (q0c : List (Int × List UInt8)) (a1 : Int) : Option (List UInt8 × Int) :=
  (if o0.2.1 = true then some (([] : List UInt8), 20) else (if ((decide (a1 < 0))) = true then disk_Disk_Read.k1 q0c a1 o0 q0b true else disk_Disk_Read.k1 q0c a1 o0 q0b (decide (o0.1 ≤ a1))))
set_option maxRecDepth 100000 in
set_option maxHeartbeats 4000000 in
theorem disk_Disk_Read.c {B : World} {hs : List MP} {w : World} {p0 : Nat} {o0 : Int × Bool × Int × Int × Int × Int × Int} {m0b : Nat} {q0b : List (Int × (List UInt8))} {c0c : Nat} {A0c : Option Addr} {d0c : Ads} {q0c : List (Int × List UInt8)} {a1 : Int} (hS : St B (Cl p0 68 [.int .i64 o0.1, .map (some m0b), .slice A0c q0c.length c0c, .bool o0.2.1, .int .i64 o0.2.2.1, .int .i64 o0.2.2.2.1, .int .u64 o0.2.2.2.2.1, .int .i64 o0.2.2.2.2.2.1, .int .i64 o0.2.2.2.2.2.2] :: Mp (Elt.slice E8) m0b q0b :: Hb 82 A0c c0c d0c q0c :: Bb 5 d0c q0c :: hs) w) {r : List UInt8 × Int} (hr : disk_Disk_Read.impl o0 q0b q0c a1 = some r) :
    Calls Try.prog 26 #[.pointer (some ⟨p0, 0, none⟩), .int .i64 a1] w fun e w' => ∃ x : (Option Addr × Nat), e = .returned (.tuple #[.slice x.1 r.1.length x.2, .int .i64 r.2]) ∧ St B (Bf E8 5 x.1 x.2 r.1 :: Cl p0 68 [.int .i64 o0.1, .map (some m0b), .slice A0c q0c.length c0c, .bool o0.2.1, .int .i64 o0.2.2.1, .int .i64 o0.2.2.2.1, .int .u64 o0.2.2.2.2.1, .int .i64 o0.2.2.2.2.2.1, .int .i64 o0.2.2.2.2.2.2] :: Mp (Elt.slice E8) m0b q0b :: Hb 82 A0c c0c d0c q0c :: Bb 5 d0c q0c :: hs) w' := by
 unfold disk_Disk_Read.impl at hr
 refine calls_T Try.func26 rfl rfl rfl hS ?_
 refine T.seq ?_
 refine T.region ?_
 refine T.assign .list rfl (wants0 rfl) rfl rfl ?_
 refine T.assign .list rfl (wants0 rfl) rfl rfl ?_
 refine T.nil ?_
 refine T.then_normal ?_
 refine T.seq ?_
 refine T.block ?_
 refine T.seq ?_
 refine T.region ?_
 refine T.move .list rfl (wants0 rfl) rfl rfl ?_
 refine T.nilCheck .list rfl (wants0 rfl) rfl rfl ?_
 refine T.field .list rfl (wants0 rfl) rfl rfl ?_
 refine T.load .list 0 rfl rfl (wants0 rfl) rfl rfl rfl ?_
 refine T.assign .list rfl (wants0 rfl) rfl rfl ?_
 refine T.nil ?_
 refine T.then_normal ?_
 refine T.cond rfl (fun hb1 => ?_) (fun hb1 => ?_)
 ·replace hr := inv_posB hb1 hr
  refine T.seq ?_
  refine T.region ?_
  refine T.assign .list rfl (wants0 rfl) rfl rfl ?_
  refine T.assign .list rfl (wants0 rfl) rfl rfl ?_
  refine T.nil ?_
  refine T.then_normal ?_
  refine T.ret ?_
  refine T.in_ret ?_
  refine T.then_ret ?_
  obtain rfl := inv_some hr
  refine T.nilBf E8 5 ?_
  refine T.pick [0, 1, 2, 3, 4] 5 rfl rfl (Nat.le_add_left _ _) rfl ?_
  refine T.ret2 rfl rfl rfl (fun w hS => ⟨(none, 0), rfl, hS⟩)
 ·replace hr := inv_negB hb1 hr
  refine T.seqJ (fun (s1 : Bool) (x1 : Unit) => [(0, .pointer (some ⟨p0, 0, none⟩)), (1, .int .i64 a1), (12, .bool s1)]) (fun s1 x1 => Cl p0 68 [.int .i64 o0.1, .map (some m0b), .slice A0c q0c.length c0c, .bool o0.2.1, .int .i64 o0.2.2.1, .int .i64 o0.2.2.2.1, .int .u64 o0.2.2.2.2.1, .int .i64 o0.2.2.2.2.2.1, .int .i64 o0.2.2.2.2.2.2] :: Mp (Elt.slice E8) m0b q0b :: Hb 82 A0c c0c d0c q0c :: Bb 5 d0c q0c :: hs) (fun s1 => disk_Disk_Read.k1 q0c a1 o0 q0b s1 = some r) (fun s1 x1 hk1 => ?_) (fun J1 => ?_)
  ·unfold disk_Disk_Read.k1 at hk1
   refine T.cond rfl (fun hb2 => ?_) (fun hb2 => ?_)
   ·replace hk1 := inv_posB hb2 hk1
    refine T.seq ?_
    refine T.region ?_
    refine T.assign .list rfl (wants0 rfl) rfl rfl ?_
    refine T.assign .list rfl (wants0 rfl) rfl rfl ?_
    refine T.nil ?_
    refine T.then_normal ?_
    refine T.ret ?_
    refine T.in_ret ?_
    refine T.then_ret ?_
    obtain rfl := inv_some hk1
    refine T.nilBf E8 5 ?_
    refine T.pick [0, 1, 2, 3, 4] 5 rfl rfl (Nat.le_add_left _ _) rfl ?_
    refine T.ret2 rfl rfl rfl (fun w hS => ⟨(none, 0), rfl, hS⟩)
   ·replace hk1 := inv_negB hb2 hk1
    refine T.skip ?_
    refine T.in_normal ?_
    refine T.then_normal ?_
    refine T.seqJ (fun (s2 : Unit) (x2 : Unit) => [(0, .pointer (some ⟨p0, 0, none⟩)), (1, .int .i64 a1)]) (fun s2 x2 => Cl p0 68 [.int .i64 o0.1, .map (some m0b), .slice A0c q0c.length c0c, .bool o0.2.1, .int .i64 o0.2.2.1, .int .i64 o0.2.2.2.1, .int .u64 o0.2.2.2.2.1, .int .i64 o0.2.2.2.2.2.1, .int .i64 o0.2.2.2.2.2.2] :: Mp (Elt.slice E8) m0b q0b :: Hb 82 A0c c0c d0c q0c :: Bb 5 d0c q0c :: hs) (fun s2 => disk_Disk_Read.k2 o0 q0b a1 s2 = some r) (fun s2 x2 hk2 => ?_) (fun J2 => ?_)
    ·unfold disk_Disk_Read.k2 at hk2
     refine T.seq ?_
     refine T.region ?_
     refine T.move .list rfl (wants0 rfl) rfl rfl ?_
     refine T.move .list rfl (wants0 rfl) rfl rfl ?_
     refine T.pick [0, 1, 2, 3] 4 rfl rfl (Nat.le_add_left _ _) (hs' := Cl p0 68 [.int .i64 o0.1, .map (some m0b), .slice A0c q0c.length c0c, .bool o0.2.1, .int .i64 o0.2.2.1, .int .i64 o0.2.2.2.1, .int .u64 o0.2.2.2.2.1, .int .i64 o0.2.2.2.2.2.1, .int .i64 o0.2.2.2.2.2.2] :: Mp (Elt.slice E8) m0b q0b :: Hb 82 A0c c0c d0c q0c :: Bb 5 d0c q0c :: hs) rfl ?_
     obtain ⟨r1, hg1, hk2⟩ := inv_bind hk2
     refine T.call .list (wants0 rfl) rfl (run_callF (vs := [_, _]) rfl Try.func38 rfl (by decide) rfl) (fun w hS => disk_Disk_good.c hS (o0 := (o0.1, o0.2.1, o0.2.2.1, o0.2.2.2.1, o0.2.2.2.2.1, o0.2.2.2.2.2.1, o0.2.2.2.2.2.2)) (q0b := q0b) (v0c := .slice A0c q0c.length c0c)  hg1) (fun x3 => ?_)
     refine T.assign .list rfl (wants0 rfl) rfl rfl ?_
     refine T.assign .list rfl (wants0 rfl) rfl rfl ?_
     refine T.nil ?_
     refine T.then_normal ?_
     refine T.ret ?_
     obtain rfl := inv_some hk2
     refine T.pick [0, 1, 2, 3, 4] 5 rfl rfl (Nat.le_add_left _ _) rfl ?_
     refine T.ret2 rfl rfl rfl (fun w hS => ⟨(x3.1, x3.2), rfl, hS⟩)
    ·refine T.seq ?_
     refine T.region ?_
     refine T.move .list rfl (wants0 rfl) rfl rfl ?_
     refine T.nilCheck .list rfl (wants0 rfl) rfl rfl ?_
     refine T.field .list rfl (wants0 rfl) rfl rfl ?_
     refine T.load .list 0 rfl rfl (wants0 rfl) rfl rfl rfl ?_
     refine T.lenSlice .list rfl (wants0 rfl) rfl rfl ?_
     refine T.bin .list rfl (wants0 rfl) rfl rfl rfl rfl ?_
     refine T.assign .list rfl (wants0 rfl) rfl rfl ?_
     refine T.nil ?_
     refine T.then_normal ?_
     refine T.block ?_
     obtain ⟨e1, hl1, hk1⟩ := inv_bind hk1
     refine T.le (EnvLe.cons rfl (EnvLe.cons rfl (EnvLe.cons rfl EnvLe.nil))) (T.pick [0, 1, 2, 3] 4 rfl rfl (Nat.le_add_left _ _) rfl (T.loop (s0 := IntKind.i64.wrap (((q0c.length : Int)) - 1)) (env := fun s3 x4 => [(0, .pointer (some ⟨p0, 0, none⟩)), (1, .int .i64 a1), (6, .int .i64 s3)]) (hs := fun (s3 : Int) (x4 : Unit) => Cl p0 68 [.int .i64 o0.1, .map (some m0b), .slice A0c q0c.length c0c, .bool o0.2.1, .int .i64 o0.2.2.1, .int .i64 o0.2.2.2.1, .int .u64 o0.2.2.2.2.1, .int .i64 o0.2.2.2.2.2.1, .int .i64 o0.2.2.2.2.2.2] :: Mp (Elt.slice E8) m0b q0b :: Hb 82 A0c c0c d0c q0c :: Bb 5 d0c q0c :: hs) hl1 () (fun K1 s3 x4 o1 he1 hm1 hx1 => ?_)))
     unfold disk_Disk_Read.st1 at he1
     refine T.seq ?_
     refine T.seq ?_
     refine T.region ?_
     refine T.move .list rfl (wants0 rfl) rfl rfl ?_
     refine T.bin .list rfl (wants0 rfl) rfl rfl rfl rfl ?_
     refine T.nil ?_
     refine T.then_normal ?_
     refine T.cond rfl (fun hb3 => ?_) (fun hb3 => ?_)
     ·replace he1 := inv_posB hb3 he1
      refine T.skip ?_
      refine T.then_normal ?_
      refine T.seq ?_
      refine T.block ?_
      refine T.seq ?_
      refine T.region ?_
      refine T.move .list rfl (wants0 rfl) rfl rfl ?_
      refine T.nilCheck .list rfl (wants0 rfl) rfl rfl ?_
      refine T.field .list rfl (wants0 rfl) rfl rfl ?_
      refine T.load .list 0 rfl rfl (wants0 rfl) rfl rfl rfl ?_
      refine T.move .list rfl (wants0 rfl) rfl rfl ?_
      obtain ⟨hc1, he1⟩ := inv_chk he1
      refine T.idxBf .list 2 rfl rfl (wants0 rfl) rfl rfl rfl hc1.1 hc1.2 (hdr_le (Nat.le_refl _)) ?_
      refine T.fieldBf .list 2 rfl hc1.1 (hdr_lt hc1.2) rfl (wants0 rfl) rfl rfl ?_
      refine T.fldHb 2 .list rfl hc1.1 hc1.2 rfl (wants0 rfl) rfl rfl rfl ?_
      refine T.move .list rfl (wants0 rfl) rfl rfl ?_
      refine T.bin .list rfl (wants0 rfl) rfl rfl rfl rfl ?_
      refine T.nil ?_
      refine T.then_normal ?_
      refine T.cond rfl (fun hb4 => ?_) (fun hb4 => ?_)
      ·replace he1 := inv_posB hb4 he1
       refine T.seq ?_
       refine T.region ?_
       refine T.move .list rfl (wants0 rfl) rfl rfl ?_
       refine T.nilCheck .list rfl (wants0 rfl) rfl rfl ?_
       refine T.field .list rfl (wants0 rfl) rfl rfl ?_
       refine T.load .list 0 rfl rfl (wants0 rfl) rfl rfl rfl ?_
       refine T.move .list rfl (wants0 rfl) rfl rfl ?_
       obtain ⟨hc2, he1⟩ := inv_chk he1
       refine T.idxBf .list 2 rfl rfl (wants0 rfl) rfl rfl rfl hc2.1 hc2.2 (hdr_le (Nat.le_refl _)) ?_
       refine T.fieldBf .list 2 rfl hc2.1 (hdr_lt hc2.2) rfl (wants0 rfl) rfl rfl ?_
       refine T.bufHb 2 .list rfl hc2.1 hc2.2 rfl (wants0 rfl) rfl rfl rfl ?_
       refine T.focusB 3 ((s3 : Int).toNat) rfl (toNat_lt hc2.1 hc2.2) rfl ?_
       obtain ⟨r2, hg2, he1⟩ := inv_bind he1
       refine T.call .list (wants0 rfl) rfl (run_callF (vs := [_]) rfl Try.func41 rfl (by decide) rfl) (fun w hS => (disk_whole.c (St.borrow (ros := [Ro E8 ((d0c ((s3 : Int).toNat)).1) ((d0c ((s3 : Int).toNat)).2) ((q0c.getD ((s3 : Int).toNat) default).2)]) (Ros.cons (hS.roBf 0 rfl rfl) Ros.nil)) (i0 := 0) rfl hg2).mono fun e w' ⟨x, he, h1⟩ => ⟨x, he, hS.unborrow (post := [Bf E8 5 x.1 x.2 r2]) h1 (Frees.cons (Bf.free .sc) Frees.nil)⟩) (fun x5 => ?_)
       refine T.assign .list rfl (wants0 rfl) rfl rfl ?_
       refine T.assign .list rfl (wants0 rfl) rfl rfl ?_
       refine T.nil ?_
       refine T.then_normal ?_
       refine T.ret ?_
       refine T.in_ret ?_
       refine T.then_ret ?_
       refine T.then_ret ?_
       obtain rfl := inv_some he1
       obtain rfl := hx1 _ rfl
       refine T.in_ret ?_
       refine T.then_ret ?_
       obtain rfl := inv_some hk1
       refine T.pick [1, 5, 0, 2, 3, 4] 6 rfl rfl (Nat.le_add_left _ _) (hs' := Bf E8 5 ((d0c ((s3 : Int).toNat)).1) ((d0c ((s3 : Int).toNat)).2) ((q0c.getD ((s3 : Int).toNat) default).2) :: Bh 5 d0c q0c ((s3 : Int).toNat) :: Bf E8 5 x5.1 x5.2 r2 :: Cl p0 68 [.int .i64 o0.1, .map (some m0b), .slice A0c q0c.length c0c, .bool o0.2.1, .int .i64 o0.2.2.1, .int .i64 o0.2.2.2.1, .int .u64 o0.2.2.2.2.1, .int .i64 o0.2.2.2.2.2.1, .int .i64 o0.2.2.2.2.2.2] :: Mp (Elt.slice E8) m0b q0b :: Hb 82 A0c c0c d0c q0c :: hs) rfl ?_
       refine T.unfocusB ((s3 : Int).toNat) (toNat_lt hc2.1 hc2.2) ?_
       refine T.pick [1, 2, 3, 4, 0] 5 rfl rfl (Nat.le_add_left _ _) rfl ?_
       refine T.ret2 rfl rfl rfl (fun w hS => ⟨(x5.1, x5.2), rfl, hS⟩)
      ·replace he1 := inv_negB hb4 he1
       refine T.skip ?_
       refine T.in_normal ?_
       refine T.then_normal ?_
       refine T.region ?_
       refine T.move .list rfl (wants0 rfl) rfl rfl ?_
       refine T.bin .list rfl (wants0 rfl) rfl rfl rfl rfl ?_
       refine T.assign .list rfl (wants0 rfl) rfl rfl ?_
       refine T.nil ?_
       refine T.then_normal ?_
       obtain rfl := inv_some he1
       exact T.le (EnvLe.cons rfl (EnvLe.cons rfl (EnvLe.cons rfl EnvLe.nil))) (T.pick [0, 1, 2, 3] 4 rfl rfl (Nat.le_add_left _ _) rfl (hm1 (IntKind.i64.wrap (s3 - 1)) rfl ()))
     ·replace he1 := inv_negB hb3 he1
      refine T.exit ?_
      refine T.then_exit ?_
      refine T.then_exit ?_
      obtain rfl := inv_some he1
      obtain rfl := hx1 _ rfl
      refine T.in_hit ?_
      refine T.then_normal ?_
      exact T.le (EnvLe.cons rfl (EnvLe.cons rfl EnvLe.nil)) (T.pick [0, 1, 2, 3] 4 rfl rfl (Nat.le_add_left _ _) rfl (J2 () () hk1))
  ·refine T.region ?_
   refine T.move .list rfl (wants0 rfl) rfl rfl ?_
   refine T.bin .list rfl (wants0 rfl) rfl rfl rfl rfl ?_
   refine T.move .list rfl (wants0 rfl) rfl rfl ?_
   refine T.bool (b := (decide (a1 < 0))) (fun hb5 => ?_) (fun hb5 => ?_)
   ·replace hr := inv_posB hb5 hr
    refine T.leave .list (wantsNot rfl rfl rfl hb5) rfl ?_
    refine T.leave .list (wantsNot rfl rfl rfl hb5) rfl ?_
    refine T.leave .list (wantsNot rfl rfl rfl hb5) rfl ?_
    refine T.leave .list (wantsNot rfl rfl rfl hb5) rfl ?_
    refine T.leave .list (wantsNot rfl rfl rfl hb5) rfl ?_
    refine T.leave .list (wantsNot rfl rfl rfl hb5) rfl ?_
    refine T.pickT .list rfl (wants0 rfl) rfl rfl hb5 rfl ?_
    refine T.assign .list rfl (wants0 rfl) rfl rfl ?_
    refine T.nil ?_
    refine T.then_normal ?_
    exact T.le (EnvLe.cons rfl (EnvLe.cons rfl (EnvLe.cons rfl EnvLe.nil))) (T.pick [0, 1, 2, 3] 4 rfl rfl (Nat.le_add_left _ _) rfl (J1 true () hr))
   ·replace hr := inv_negB hb5 hr
    refine T.move .list rfl (wants1 rfl rfl rfl hb5) rfl rfl ?_
    refine T.move .list rfl (wants1 rfl rfl rfl hb5) rfl rfl ?_
    refine T.nilCheck .list rfl (wants1 rfl rfl rfl hb5) rfl rfl ?_
    refine T.field .list rfl (wants1 rfl rfl rfl hb5) rfl rfl ?_
    refine T.load .list 0 rfl rfl (wants1 rfl rfl rfl hb5) rfl rfl rfl ?_
    refine T.bin .list rfl (wants1 rfl rfl rfl hb5) rfl rfl rfl rfl ?_
    refine T.pickF .list rfl (wants0 rfl) rfl rfl hb5 rfl ?_
    refine T.assign .list rfl (wants0 rfl) rfl rfl ?_
    refine T.nil ?_
    refine T.then_normal ?_
    exact T.le (EnvLe.cons rfl (EnvLe.cons rfl (EnvLe.cons rfl EnvLe.nil))) (T.pick [0, 1, 2, 3] 4 rfl rfl (Nat.le_add_left _ _) rfl (J1 (decide (o0.1 ≤ a1)) () hr))

noncomputable def disk_Disk_Arm.impl (o0 : Int × Bool × Int × Int × Int × Int × Int) (q0b : List (Int × (List UInt8))) (q0c : List (Int × List UInt8)) (a1 : Int × Int × Int × Int) : Option ((Int × Bool × Int × Int × Int × Int × Int)) :=
  (if ((!o0.2.1)) = true then some (o0.1, o0.2.1, o0.2.2.1, a1.1, a1.2.1, a1.2.2.1, a1.2.2.2) else some (o0.1, o0.2.1, o0.2.2.1, o0.2.2.2.1, o0.2.2.2.2.1, o0.2.2.2.2.2.1, o0.2.2.2.2.2.2))
set_option maxRecDepth 100000 in
set_option maxHeartbeats 4000000 in
theorem disk_Disk_Arm.c {B : World} {hs : List MP} {w : World} {p0 : Nat} {o0 : Int × Bool × Int × Int × Int × Int × Int} {m0b : Nat} {q0b : List (Int × (List UInt8))} {c0c : Nat} {A0c : Option Addr} {d0c : Ads} {q0c : List (Int × List UInt8)} {a1 : Int × Int × Int × Int} (hS : St B (Cl p0 68 [.int .i64 o0.1, .map (some m0b), .slice A0c q0c.length c0c, .bool o0.2.1, .int .i64 o0.2.2.1, .int .i64 o0.2.2.2.1, .int .u64 o0.2.2.2.2.1, .int .i64 o0.2.2.2.2.2.1, .int .i64 o0.2.2.2.2.2.2] :: Mp (Elt.slice E8) m0b q0b :: Hb 82 A0c c0c d0c q0c :: Bb 5 d0c q0c :: hs) w) {r : (Int × Bool × Int × Int × Int × Int × Int)} (hr : disk_Disk_Arm.impl o0 q0b q0c a1 = some r) :
    Calls Try.prog 22 #[.pointer (some ⟨p0, 0, none⟩), .agg #[.int .i64 a1.1, .int .u64 a1.2.1, .int .i64 a1.2.2.1, .int .i64 a1.2.2.2]] w fun e w' => ∃ x : Unit, e = .returned (.tuple #[]) ∧ St B (Cl p0 68 [.int .i64 r.1, .map (some m0b), .slice A0c q0c.length c0c, .bool r.2.1, .int .i64 r.2.2.1, .int .i64 r.2.2.2.1, .int .u64 r.2.2.2.2.1, .int .i64 r.2.2.2.2.2.1, .int .i64 r.2.2.2.2.2.2] :: Mp (Elt.slice E8) m0b q0b :: Hb 82 A0c c0c d0c q0c :: Bb 5 d0c q0c :: hs) w' := by
 unfold disk_Disk_Arm.impl at hr
 refine calls_T Try.func22 rfl rfl rfl hS ?_
 refine T.seq ?_
 refine T.region ?_
 refine T.boxS .list rfl (wants0 rfl) rfl rfl (cs := [.int .i64 a1.1, .int .u64 a1.2.1, .int .i64 a1.2.2.1, .int .i64 a1.2.2.2]) rfl (fun b1 => ?_)
 refine T.nil ?_
 refine T.then_normal ?_
 refine T.seq ?_
 refine T.region ?_
 refine T.move .list rfl (wants0 rfl) rfl rfl ?_
 refine T.nilCheck .list rfl (wants0 rfl) rfl rfl ?_
 refine T.field .list rfl (wants0 rfl) rfl rfl ?_
 refine T.load .list 1 rfl rfl (wants0 rfl) rfl rfl rfl ?_
 refine T.not .list rfl (wants0 rfl) rfl rfl ?_
 refine T.nil ?_
 refine T.then_normal ?_
 refine T.cond rfl (fun hb1 => ?_) (fun hb1 => ?_)
 ·replace hr := inv_posB hb1 hr
  refine T.region ?_
  refine T.move .list rfl (wants0 rfl) rfl rfl ?_
  refine T.loadN .list 0 rfl rfl (wants0 rfl) rfl rfl (vs := [.int .i64 a1.1, .int .u64 a1.2.1, .int .i64 a1.2.2.1, .int .i64 a1.2.2.2]) rfl rfl ?_
  refine T.nilCheck .list rfl (wants0 rfl) rfl rfl ?_
  refine T.field .list rfl (wants0 rfl) rfl rfl ?_
  refine T.store .list 1 rfl rfl (wants0 rfl) rfl rfl rfl rfl (Nat.le_of_ble_eq_true rfl) rfl (cs' := [.int .i64 o0.1, .map (some m0b), .slice A0c q0c.length c0c, .bool o0.2.1, .int .i64 o0.2.2.1, .int .i64 a1.1, .int .u64 a1.2.1, .int .i64 a1.2.2.1, .int .i64 a1.2.2.2]) rfl rfl ?_
  refine T.nil ?_
  obtain rfl := inv_some hr
  refine T.pick [1, 2, 3, 4] 5 rfl rfl (Nat.le_add_left _ _) rfl ?_
  refine T.end0 rfl (fun w hS => ⟨(), rfl, hS⟩)
 ·replace hr := inv_negB hb1 hr
  refine T.skip ?_
  obtain rfl := inv_some hr
  refine T.pick [1, 2, 3, 4] 5 rfl rfl (Nat.le_add_left _ _) rfl ?_
  refine T.end0 rfl (fun w hS => ⟨(), rfl, hS⟩)

noncomputable def disk_Disk_Restart.impl (o0 : Int × Bool × Int × Int × Int × Int × Int) (q0b : List (Int × (List UInt8))) (q0c : List (Int × List UInt8)) : Option ((Int × Bool × Int × Int × Int × Int × Int)) :=
  some (o0.1, false, o0.2.2.1, o0.2.2.2.1, o0.2.2.2.2.1, o0.2.2.2.2.2.1, o0.2.2.2.2.2.2)
set_option maxRecDepth 100000 in
set_option maxHeartbeats 4000000 in
theorem disk_Disk_Restart.c {B : World} {hs : List MP} {w : World} {p0 : Nat} {o0 : Int × Bool × Int × Int × Int × Int × Int} {m0b : Nat} {q0b : List (Int × (List UInt8))} {c0c : Nat} {A0c : Option Addr} {d0c : Ads} {q0c : List (Int × List UInt8)} (hS : St B (Cl p0 68 [.int .i64 o0.1, .map (some m0b), .slice A0c q0c.length c0c, .bool o0.2.1, .int .i64 o0.2.2.1, .int .i64 o0.2.2.2.1, .int .u64 o0.2.2.2.2.1, .int .i64 o0.2.2.2.2.2.1, .int .i64 o0.2.2.2.2.2.2] :: Mp (Elt.slice E8) m0b q0b :: Hb 82 A0c c0c d0c q0c :: Bb 5 d0c q0c :: hs) w) {r : (Int × Bool × Int × Int × Int × Int × Int)} (hr : disk_Disk_Restart.impl o0 q0b q0c = some r) :
    Calls Try.prog 20 #[.pointer (some ⟨p0, 0, none⟩)] w fun e w' => ∃ x : Unit, e = .returned (.tuple #[]) ∧ St B (Cl p0 68 [.int .i64 r.1, .map (some m0b), .slice A0c q0c.length c0c, .bool r.2.1, .int .i64 r.2.2.1, .int .i64 r.2.2.2.1, .int .u64 r.2.2.2.2.1, .int .i64 r.2.2.2.2.2.1, .int .i64 r.2.2.2.2.2.2] :: Mp (Elt.slice E8) m0b q0b :: Hb 82 A0c c0c d0c q0c :: Bb 5 d0c q0c :: hs) w' := by
 unfold disk_Disk_Restart.impl at hr
 refine calls_T Try.func20 rfl rfl rfl hS ?_
 refine T.region ?_
 refine T.move .list rfl (wants0 rfl) rfl rfl ?_
 refine T.nilCheck .list rfl (wants0 rfl) rfl rfl ?_
 refine T.field .list rfl (wants0 rfl) rfl rfl ?_
 refine T.store .list 0 rfl rfl (wants0 rfl) rfl rfl rfl rfl (Nat.le_of_ble_eq_true rfl) rfl (cs' := [.int .i64 o0.1, .map (some m0b), .slice A0c q0c.length c0c, .bool false, .int .i64 o0.2.2.1, .int .i64 o0.2.2.2.1, .int .u64 o0.2.2.2.2.1, .int .i64 o0.2.2.2.2.2.1, .int .i64 o0.2.2.2.2.2.2]) rfl rfl ?_
 refine T.nil ?_
 obtain rfl := inv_some hr
 refine T.pick [0, 1, 2, 3] 4 rfl rfl (Nat.le_add_left _ _) rfl ?_
 refine T.end0 rfl (fun w hS => ⟨(), rfl, hS⟩)

noncomputable def disk_Disk_Down.impl (o0 : Int × Bool × Int × Int × Int × Int × Int) (q0b : List (Int × (List UInt8))) (q0c : List (Int × List UInt8)) : Option Bool :=
  some o0.2.1
set_option maxRecDepth 100000 in
set_option maxHeartbeats 4000000 in
theorem disk_Disk_Down.c {B : World} {hs : List MP} {w : World} {p0 : Nat} {o0 : Int × Bool × Int × Int × Int × Int × Int} {m0b : Nat} {q0b : List (Int × (List UInt8))} {c0c : Nat} {A0c : Option Addr} {d0c : Ads} {q0c : List (Int × List UInt8)} (hS : St B (Cl p0 68 [.int .i64 o0.1, .map (some m0b), .slice A0c q0c.length c0c, .bool o0.2.1, .int .i64 o0.2.2.1, .int .i64 o0.2.2.2.1, .int .u64 o0.2.2.2.2.1, .int .i64 o0.2.2.2.2.2.1, .int .i64 o0.2.2.2.2.2.2] :: Mp (Elt.slice E8) m0b q0b :: Hb 82 A0c c0c d0c q0c :: Bb 5 d0c q0c :: hs) w) {r : Bool} (hr : disk_Disk_Down.impl o0 q0b q0c = some r) :
    Calls Try.prog 23 #[.pointer (some ⟨p0, 0, none⟩)] w fun e w' => ∃ x : Unit, e = .returned (.bool r) ∧ St B (Cl p0 68 [.int .i64 o0.1, .map (some m0b), .slice A0c q0c.length c0c, .bool o0.2.1, .int .i64 o0.2.2.1, .int .i64 o0.2.2.2.1, .int .u64 o0.2.2.2.2.1, .int .i64 o0.2.2.2.2.2.1, .int .i64 o0.2.2.2.2.2.2] :: Mp (Elt.slice E8) m0b q0b :: Hb 82 A0c c0c d0c q0c :: Bb 5 d0c q0c :: hs) w' := by
 unfold disk_Disk_Down.impl at hr
 refine calls_T Try.func23 rfl rfl rfl hS ?_
 refine T.seq ?_
 refine T.region ?_
 refine T.assign .list rfl (wants0 rfl) rfl rfl ?_
 refine T.nil ?_
 refine T.then_normal ?_
 refine T.seq ?_
 refine T.region ?_
 refine T.move .list rfl (wants0 rfl) rfl rfl ?_
 refine T.nilCheck .list rfl (wants0 rfl) rfl rfl ?_
 refine T.field .list rfl (wants0 rfl) rfl rfl ?_
 refine T.load .list 0 rfl rfl (wants0 rfl) rfl rfl rfl ?_
 refine T.assign .list rfl (wants0 rfl) rfl rfl ?_
 refine T.nil ?_
 refine T.then_normal ?_
 refine T.ret ?_
 obtain rfl := inv_some hr
 refine T.pick [0, 1, 2, 3] 4 rfl rfl (Nat.le_add_left _ _) rfl ?_
 refine T.ret1 rfl rfl (fun w hS => ⟨(), rfl, hS⟩)

noncomputable def disk_Disk_Life.impl (o0 : Int × Bool × Int × Int × Int × Int × Int) (q0b : List (Int × (List UInt8))) (q0c : List (Int × List UInt8)) : Option Int :=
  some o0.2.2.1
set_option maxRecDepth 100000 in
set_option maxHeartbeats 4000000 in
theorem disk_Disk_Life.c {B : World} {hs : List MP} {w : World} {p0 : Nat} {o0 : Int × Bool × Int × Int × Int × Int × Int} {m0b : Nat} {q0b : List (Int × (List UInt8))} {c0c : Nat} {A0c : Option Addr} {d0c : Ads} {q0c : List (Int × List UInt8)} (hS : St B (Cl p0 68 [.int .i64 o0.1, .map (some m0b), .slice A0c q0c.length c0c, .bool o0.2.1, .int .i64 o0.2.2.1, .int .i64 o0.2.2.2.1, .int .u64 o0.2.2.2.2.1, .int .i64 o0.2.2.2.2.2.1, .int .i64 o0.2.2.2.2.2.2] :: Mp (Elt.slice E8) m0b q0b :: Hb 82 A0c c0c d0c q0c :: Bb 5 d0c q0c :: hs) w) {r : Int} (hr : disk_Disk_Life.impl o0 q0b q0c = some r) :
    Calls Try.prog 25 #[.pointer (some ⟨p0, 0, none⟩)] w fun e w' => ∃ x : Unit, e = .returned (.int .i64 r) ∧ St B (Cl p0 68 [.int .i64 o0.1, .map (some m0b), .slice A0c q0c.length c0c, .bool o0.2.1, .int .i64 o0.2.2.1, .int .i64 o0.2.2.2.1, .int .u64 o0.2.2.2.2.1, .int .i64 o0.2.2.2.2.2.1, .int .i64 o0.2.2.2.2.2.2] :: Mp (Elt.slice E8) m0b q0b :: Hb 82 A0c c0c d0c q0c :: Bb 5 d0c q0c :: hs) w' := by
 unfold disk_Disk_Life.impl at hr
 refine calls_T Try.func25 rfl rfl rfl hS ?_
 refine T.seq ?_
 refine T.region ?_
 refine T.assign .list rfl (wants0 rfl) rfl rfl ?_
 refine T.nil ?_
 refine T.then_normal ?_
 refine T.seq ?_
 refine T.region ?_
 refine T.move .list rfl (wants0 rfl) rfl rfl ?_
 refine T.nilCheck .list rfl (wants0 rfl) rfl rfl ?_
 refine T.field .list rfl (wants0 rfl) rfl rfl ?_
 refine T.load .list 0 rfl rfl (wants0 rfl) rfl rfl rfl ?_
 refine T.assign .list rfl (wants0 rfl) rfl rfl ?_
 refine T.nil ?_
 refine T.then_normal ?_
 refine T.ret ?_
 obtain rfl := inv_some hr
 refine T.pick [0, 1, 2, 3] 4 rfl rfl (Nat.le_add_left _ _) rfl ?_
 refine T.ret1 rfl rfl (fun w hS => ⟨(), rfl, hS⟩)

noncomputable def disk_Disk_Blocks.impl (o0 : Int × Bool × Int × Int × Int × Int × Int) (q0b : List (Int × (List UInt8))) (q0c : List (Int × List UInt8)) : Option Int :=
  some o0.1
set_option maxRecDepth 100000 in
set_option maxHeartbeats 4000000 in
theorem disk_Disk_Blocks.c {B : World} {hs : List MP} {w : World} {p0 : Nat} {o0 : Int × Bool × Int × Int × Int × Int × Int} {m0b : Nat} {q0b : List (Int × (List UInt8))} {c0c : Nat} {A0c : Option Addr} {d0c : Ads} {q0c : List (Int × List UInt8)} (hS : St B (Cl p0 68 [.int .i64 o0.1, .map (some m0b), .slice A0c q0c.length c0c, .bool o0.2.1, .int .i64 o0.2.2.1, .int .i64 o0.2.2.2.1, .int .u64 o0.2.2.2.2.1, .int .i64 o0.2.2.2.2.2.1, .int .i64 o0.2.2.2.2.2.2] :: Mp (Elt.slice E8) m0b q0b :: Hb 82 A0c c0c d0c q0c :: Bb 5 d0c q0c :: hs) w) {r : Int} (hr : disk_Disk_Blocks.impl o0 q0b q0c = some r) :
    Calls Try.prog 24 #[.pointer (some ⟨p0, 0, none⟩)] w fun e w' => ∃ x : Unit, e = .returned (.int .i64 r) ∧ St B (Cl p0 68 [.int .i64 o0.1, .map (some m0b), .slice A0c q0c.length c0c, .bool o0.2.1, .int .i64 o0.2.2.1, .int .i64 o0.2.2.2.1, .int .u64 o0.2.2.2.2.1, .int .i64 o0.2.2.2.2.2.1, .int .i64 o0.2.2.2.2.2.2] :: Mp (Elt.slice E8) m0b q0b :: Hb 82 A0c c0c d0c q0c :: Bb 5 d0c q0c :: hs) w' := by
 unfold disk_Disk_Blocks.impl at hr
 refine calls_T Try.func24 rfl rfl rfl hS ?_
 refine T.seq ?_
 refine T.region ?_
 refine T.assign .list rfl (wants0 rfl) rfl rfl ?_
 refine T.nil ?_
 refine T.then_normal ?_
 refine T.seq ?_
 refine T.region ?_
 refine T.move .list rfl (wants0 rfl) rfl rfl ?_
 refine T.nilCheck .list rfl (wants0 rfl) rfl rfl ?_
 refine T.field .list rfl (wants0 rfl) rfl rfl ?_
 refine T.load .list 0 rfl rfl (wants0 rfl) rfl rfl rfl ?_
 refine T.assign .list rfl (wants0 rfl) rfl rfl ?_
 refine T.nil ?_
 refine T.then_normal ?_
 refine T.ret ?_
 obtain rfl := inv_some hr
 refine T.pick [0, 1, 2, 3] 4 rfl rfl (Nat.le_add_left _ _) rfl ?_
 refine T.ret1 rfl rfl (fun w hS => ⟨(), rfl, hS⟩)

noncomputable def disk_Disk_Flip.k2 (q0b : List (Int × (List UInt8))) (a1 : Int) (r1 : List UInt8) (a2 : Int) (s2 : (List (Int × List UInt8))) : Option (Int × (List (Int × (List UInt8))) × (List (Int × List UInt8))) :=
  some (0, (mset q0b a1 (((r1).set (IntKind.i64.wrap (Int.tdiv a2 8) : Int).toNat (u8 (bitsOf .xor .u8 ((((r1).getD (IntKind.i64.wrap (Int.tdiv a2 8) : Int).toNat default).toNat : Int)) (shlI .u8 1 (Int.tmod a2 8))))))), s2)
noncomputable def disk_Disk_Flip.st1 (q0c : List (Int × List UInt8)) (a1 : Int) (a2 : Int) (s3 : (List (Int × List UInt8)) × Int) : Option (((List (Int × List UInt8)) × Int) ⊕ ((List (Int × List UInt8)))) :=
  (if ((decide (s3.2 < ((q0c.length : Int))))) = true then chk (0 ≤ s3.2 ∧ s3.2 < (s3.1.length : Int)) ((if ((decide (((((s3.1).getD (s3.2 : Int).toNat default).1)) = a1))) = true then chk (0 ≤ Int.tmod a2 8) (chk (0 ≤ (IntKind.i64.wrap (Int.tdiv a2 8)) ∧ (IntKind.i64.wrap (Int.tdiv a2 8)) < (((s3.1.getD ((s3.2 : Int).toNat) default).2).length : Int)) (chk (0 ≤ (IntKind.i64.wrap (Int.tdiv a2 8)) ∧ (IntKind.i64.wrap (Int.tdiv a2 8)) < (((s3.1.getD ((s3.2 : Int).toNat) default).2).length : Int)) (some (.inl ((s3.1.set ((s3.2 : Int).toNat) ((s3.1.getD ((s3.2 : Int).toNat) default).1, (((s3.1.getD ((s3.2 : Int).toNat) default).2).set (IntKind.i64.wrap (Int.tdiv a2 8) : Int).toNat (u8 (bitsOf .xor .u8 (((((s3.1.getD ((s3.2 : Int).toNat) default).2).getD (IntKind.i64.wrap (Int.tdiv a2 8) : Int).toNat default).toNat : Int)) (shlI .u8 1 (Int.tmod a2 8))))))), IntKind.i64.wrap (s3.2 + 1)))))) else some (.inl (s3.1, IntKind.i64.wrap (s3.2 + 1))))) else some (.inr s3.1))
noncomputable def disk_Disk_Flip.k1 (q0b : List (Int × (List UInt8))) (q0c : List (Int × List UInt8)) (o0 : Int × Bool × Int × Int × Int × Int × Int) (a1 : Int) (a2 : Int) (s1 : Bool) : Option (Int × (List (Int × (List UInt8))) × (List (Int × List UInt8))) :=
  (if s1 = true then some (1, q0b, q0c) else (disk_Disk_good.impl ((o0.1, o0.2.1, o0.2.2.1, o0.2.2.2.1, o0.2.2.2.2.1, o0.2.2.2.2.2.1, o0.2.2.2.2.2.2)) q0b a1).bind fun r1 => chk (0 ≤ (IntKind.i64.wrap (Int.tdiv a2 8)) ∧ (IntKind.i64.wrap (Int.tdiv a2 8)) < (r1.length : Int)) (chk (0 ≤ Int.tmod a2 8) (chk (0 ≤ (IntKind.i64.wrap (Int.tdiv a2 8)) ∧ (IntKind.i64.wrap (Int.tdiv a2 8)) < (r1.length : Int)) ((loop (disk_Disk_Flip.st1 q0c a1 a2) (q0c, 0)).bind (fun e1 => disk_Disk_Flip.k2 q0b a1 r1 a2 e1)))))
noncomputable def disk_Disk_Flip.impl (o0 : Int × Bool × Int × Int × Int × Int × Int) (q0b : List (Int × (List UInt8))) (q0c : List (Int × List UInt8)) (a1 : Int) (a2 : Int) : Option (Int × (List (Int × (List UInt8))) × (List (Int × List UInt8))) :=
  (if ((decide (a1 < 0))) = true then disk_Disk_Flip.k1 q0b q0c o0 a1 a2 true else (if ((decide (o0.1 ≤ a1))) = true then disk_Disk_Flip.k1 q0b q0c o0 a1 a2 true else (if ((decide (a2 < 0))) = true then disk_Disk_Flip.k1 q0b q0c o0 a1 a2 true else disk_Disk_Flip.k1 q0b q0c o0 a1 a2 (decide ((65536 : Int) ≤ a2)))))
set_option maxRecDepth 100000 in
set_option maxHeartbeats 4000000 in
theorem disk_Disk_Flip.c {B : World} {hs : List MP} {w : World} {p0 : Nat} {o0 : Int × Bool × Int × Int × Int × Int × Int} {m0b : Nat} {q0b : List (Int × (List UInt8))} {c0c : Nat} {A0c : Option Addr} {d0c : Ads} {q0c : List (Int × List UInt8)} {a1 : Int} {a2 : Int} (hS : St B (Cl p0 68 [.int .i64 o0.1, .map (some m0b), .slice A0c q0c.length c0c, .bool o0.2.1, .int .i64 o0.2.2.1, .int .i64 o0.2.2.2.1, .int .u64 o0.2.2.2.2.1, .int .i64 o0.2.2.2.2.2.1, .int .i64 o0.2.2.2.2.2.2] :: Mp (Elt.slice E8) m0b q0b :: Hb 82 A0c c0c d0c q0c :: Bb 5 d0c q0c :: hs) w) {r : Int × (List (Int × (List UInt8))) × (List (Int × List UInt8))} (hr : disk_Disk_Flip.impl o0 q0b q0c a1 a2 = some r) :
    Calls Try.prog 16 #[.pointer (some ⟨p0, 0, none⟩), .int .i64 a1, .int .i64 a2] w fun e w' => ∃ x : (Option Addr × Nat) × (Ads), e = .returned (.int .i64 r.1) ∧ St B (Cl p0 68 [.int .i64 o0.1, .map (some m0b), .slice x.1.1 r.2.2.length x.1.2, .bool o0.2.1, .int .i64 o0.2.2.1, .int .i64 o0.2.2.2.1, .int .u64 o0.2.2.2.2.1, .int .i64 o0.2.2.2.2.2.1, .int .i64 o0.2.2.2.2.2.2] :: Mp (Elt.slice E8) m0b r.2.1 :: Hb 82 x.1.1 x.1.2 x.2 r.2.2 :: Bb 5 x.2 r.2.2 :: hs) w' := by
 unfold disk_Disk_Flip.impl at hr
 refine calls_T Try.func16 rfl rfl rfl hS ?_
 refine T.seq ?_
 refine T.region ?_
 refine T.assign .list rfl (wants0 rfl) rfl rfl ?_
 refine T.nil ?_
 refine T.then_normal ?_
 refine T.seq ?_
 refine T.seqJ (fun (s1 : Bool) (x1 : Unit) => [(0, .pointer (some ⟨p0, 0, none⟩)), (1, .int .i64 a1), (2, .int .i64 a2), (27, .bool s1)]) (fun s1 x1 => Cl p0 68 [.int .i64 o0.1, .map (some m0b), .slice A0c q0c.length c0c, .bool o0.2.1, .int .i64 o0.2.2.1, .int .i64 o0.2.2.2.1, .int .u64 o0.2.2.2.2.1, .int .i64 o0.2.2.2.2.2.1, .int .i64 o0.2.2.2.2.2.2] :: Mp (Elt.slice E8) m0b q0b :: Hb 82 A0c c0c d0c q0c :: Bb 5 d0c q0c :: hs) (fun s1 => disk_Disk_Flip.k1 q0b q0c o0 a1 a2 s1 = some r) (fun s1 x1 hk1 => ?_) (fun J1 => ?_)
 ·unfold disk_Disk_Flip.k1 at hk1
  refine T.cond rfl (fun hb1 => ?_) (fun hb1 => ?_)
  ·replace hk1 := inv_posB hb1 hk1
   refine T.seq ?_
   refine T.region ?_
   refine T.assign .list rfl (wants0 rfl) rfl rfl ?_
   refine T.nil ?_
   refine T.then_normal ?_
   refine T.ret ?_
   refine T.then_ret ?_
   obtain rfl := inv_some hk1
   refine T.pick [0, 1, 2, 3] 4 rfl rfl (Nat.le_add_left _ _) rfl ?_
   refine T.ret1 rfl rfl (fun w hS => ⟨((A0c, c0c), d0c), rfl, hS⟩)
  ·replace hk1 := inv_negB hb1 hk1
   refine T.skip ?_
   refine T.then_normal ?_
   refine T.seq ?_
   refine T.region ?_
   refine T.move .list rfl (wants0 rfl) rfl rfl ?_
   refine T.move .list rfl (wants0 rfl) rfl rfl ?_
   refine T.pick [0, 1, 2, 3] 4 rfl rfl (Nat.le_add_left _ _) (hs' := Cl p0 68 [.int .i64 o0.1, .map (some m0b), .slice A0c q0c.length c0c, .bool o0.2.1, .int .i64 o0.2.2.1, .int .i64 o0.2.2.2.1, .int .u64 o0.2.2.2.2.1, .int .i64 o0.2.2.2.2.2.1, .int .i64 o0.2.2.2.2.2.2] :: Mp (Elt.slice E8) m0b q0b :: Hb 82 A0c c0c d0c q0c :: Bb 5 d0c q0c :: hs) rfl ?_
   obtain ⟨r1, hg1, hk1⟩ := inv_bind hk1
   refine T.call .list (wants0 rfl) rfl (run_callF (vs := [_, _]) rfl Try.func38 rfl (by decide) rfl) (fun w hS => disk_Disk_good.c hS (o0 := (o0.1, o0.2.1, o0.2.2.1, o0.2.2.2.1, o0.2.2.2.2.1, o0.2.2.2.2.2.1, o0.2.2.2.2.2.2)) (q0b := q0b) (v0c := .slice A0c q0c.length c0c)  hg1) (fun x2 => ?_)
   refine T.assign .list rfl (wants0 rfl) rfl rfl ?_
   refine T.nil ?_
   refine T.then_normal ?_
   refine T.seq ?_
   refine T.plan [(0, 0), (1, 0), (2, 0), (3, 0), (5, 0), (6, 0), (7, 0), (4, 1), (8, 0), (9, 0), (10, 2)] mixed (by kernel_rfl) (by kernel_rfl) rfl (fun d _ _ _ _ h => by cases d <;> exact h) ?_
   refine T.move (.plan rfl) rfl (wants0 rfl) rfl rfl ?_
   refine T.move (.plan rfl) rfl (wants0 rfl) rfl rfl ?_
   refine T.quo (.plan rfl) rfl (wants0 rfl) rfl rfl rfl (by decide) ?_
   obtain ⟨hc1, hk1⟩ := inv_chk hk1
   refine T.idxBf (.plan rfl) 0 rfl rfl (wants0 rfl) rfl rfl rfl hc1.1 hc1.2 (Nat.le_refl _) ?_
   refine T.move (.plan rfl) rfl (wants0 rfl) rfl rfl ?_
   refine T.rem (.plan rfl) rfl (wants0 rfl) rfl rfl rfl (by decide) ?_
   obtain ⟨hc2, hk1⟩ := inv_chk hk1
   refine T.shl (.plan rfl) rfl (wants0 rfl) rfl rfl rfl hc2 ?_
   refine T.ldBf1 (.plan rfl) 0 rfl rfl (wants0 rfl) rfl rfl hc1.1 hc1.2 ?_
   refine T.bin (.plan rfl) rfl (wants0 rfl) rfl rfl rfl rfl ?_
   obtain ⟨hc3, hk1⟩ := inv_chk hk1
   refine T.idxBf (.plan rfl) 0 rfl rfl (wants0 rfl) rfl rfl rfl hc3.1 hc3.2 (Nat.le_refl _) ?_
   refine T.stBf (.plan rfl) 0 rfl rfl (wants0 rfl) rfl rfl rfl (b8_bits _ _ _) hc3.1 hc3.2 rfl ?_
   refine T.planEnd ?_
   refine T.then_normal ?_
   refine T.seq ?_
   refine T.region ?_
   refine T.move .list rfl (wants0 rfl) rfl rfl ?_
   refine T.nilCheck .list rfl (wants0 rfl) rfl rfl ?_
   refine T.field .list rfl (wants0 rfl) rfl rfl ?_
   refine T.load .list 1 rfl rfl (wants0 rfl) rfl rfl rfl ?_
   refine T.move .list rfl (wants0 rfl) rfl rfl ?_
   refine T.move .list rfl (wants0 rfl) rfl rfl ?_
   refine T.env1 46 rfl (slc (n' := (((r1).set (IntKind.i64.wrap (Int.tdiv a2 8) : Int).toNat (u8 (bitsOf .xor .u8 ((((r1).getD (IntKind.i64.wrap (Int.tdiv a2 8) : Int).toNat default).toNat : Int)) (shlI .u8 1 (Int.tmod a2 8)))))).length) (by simp only [List.length_set])) ?_
   refine T.freeze 0 rfl rfl rfl ?_
   refine T.mapUpdate .list 2 (c := ((r1).set (IntKind.i64.wrap (Int.tdiv a2 8) : Int).toNat (u8 (bitsOf .xor .u8 ((((r1).getD (IntKind.i64.wrap (Int.tdiv a2 8) : Int).toNat default).toNat : Int)) (shlI .u8 1 (Int.tmod a2 8)))))) rfl rfl (wants0 rfl) rfl rfl rfl rfl (Has.slice 0 rfl rfl) rfl ?_
   refine T.nil ?_
   refine T.then_normal ?_
   refine T.seqJ (fun (s2 : (List (Int × List UInt8))) (x3 : (Option Addr × Nat) × (Ads)) => []) (fun s2 x3 => Cl p0 68 [.int .i64 o0.1, .map (some m0b), .slice x3.1.1 s2.length x3.1.2, .bool o0.2.1, .int .i64 o0.2.2.1, .int .i64 o0.2.2.2.1, .int .u64 o0.2.2.2.2.1, .int .i64 o0.2.2.2.2.2.1, .int .i64 o0.2.2.2.2.2.2] :: Mp (Elt.slice E8) m0b ((mset q0b a1 (((r1).set (IntKind.i64.wrap (Int.tdiv a2 8) : Int).toNat (u8 (bitsOf .xor .u8 ((((r1).getD (IntKind.i64.wrap (Int.tdiv a2 8) : Int).toNat default).toNat : Int)) (shlI .u8 1 (Int.tmod a2 8)))))))) :: Hb 82 x3.1.1 x3.1.2 x3.2 s2 :: Bb 5 x3.2 s2 :: hs) (fun s2 => disk_Disk_Flip.k2 q0b a1 r1 a2 s2 = some r) (fun s2 x3 hk2 => ?_) (fun J2 => ?_)
   ·unfold disk_Disk_Flip.k2 at hk2
    refine T.seq ?_
    refine T.region ?_
    refine T.assign .list rfl (wants0 rfl) rfl rfl ?_
    refine T.nil ?_
    refine T.then_normal ?_
    refine T.ret ?_
    obtain rfl := inv_some hk2
    refine T.pick [0, 1, 2, 3] 4 rfl rfl (Nat.le_add_left _ _) rfl ?_
    refine T.ret1 rfl rfl (fun w hS => ⟨((x3.1.1, x3.1.2), x3.2), rfl, hS⟩)
   ·refine T.seq ?_
    refine T.region ?_
    refine T.move .list rfl (wants0 rfl) rfl rfl ?_
    refine T.nilCheck .list rfl (wants0 rfl) rfl rfl ?_
    refine T.field .list rfl (wants0 rfl) rfl rfl ?_
    refine T.load .list 1 rfl rfl (wants0 rfl) rfl rfl rfl ?_
    refine T.lenSlice .list rfl (wants0 rfl) rfl rfl ?_
    refine T.move .list rfl (wants0 rfl) rfl rfl ?_
    refine T.nil ?_
    refine T.then_normal ?_
    refine T.block ?_
    obtain ⟨e1, hl1, hk1⟩ := inv_bind hk1
    refine T.le (EnvLe.cons rfl (EnvLe.cons rfl (EnvLe.cons rfl (EnvLe.cons rfl (EnvLe.cons rfl EnvLe.nil))))) (T.pick [3, 4, 1, 2] 5 rfl rfl (Nat.le_add_left _ _) rfl (T.loop (s0 := (q0c, 0)) (env := fun s3 x4 => [(1, .int .i64 a1), (2, .int .i64 a2), (50, .slice x4.1.1 s3.1.length x4.1.2), (51, .int .i64 ((q0c.length : Int))), (52, .int .i64 s3.2)]) (hs := fun (s3 : (List (Int × List UInt8)) × Int) (x4 : (Option Addr × Nat) × (Ads)) => Hb 82 x4.1.1 x4.1.2 x4.2 s3.1 :: Bb 5 x4.2 s3.1 :: Cl p0 68 [.int .i64 o0.1, .map (some m0b), .slice x4.1.1 s3.1.length x4.1.2, .bool o0.2.1, .int .i64 o0.2.2.1, .int .i64 o0.2.2.2.1, .int .u64 o0.2.2.2.2.1, .int .i64 o0.2.2.2.2.2.1, .int .i64 o0.2.2.2.2.2.2] :: Mp (Elt.slice E8) m0b ((mset q0b a1 (((r1).set (IntKind.i64.wrap (Int.tdiv a2 8) : Int).toNat (u8 (bitsOf .xor .u8 ((((r1).getD (IntKind.i64.wrap (Int.tdiv a2 8) : Int).toNat default).toNat : Int)) (shlI .u8 1 (Int.tmod a2 8)))))))) :: hs) hl1 ((A0c, c0c), d0c) (fun K1 s3 x4 o1 he1 hm1 hx1 => ?_)))
    unfold disk_Disk_Flip.st1 at he1
    refine T.seq ?_
    refine T.region ?_
    refine T.bin .list rfl (wants0 rfl) rfl rfl rfl rfl ?_
    refine T.nil ?_
    refine T.then_normal ?_
    refine T.seq ?_
    refine T.cond rfl (fun hb2 => ?_) (fun hb2 => ?_)
    ·replace he1 := inv_posB hb2 he1
     refine T.skip ?_
     refine T.then_normal ?_
     refine T.seq ?_
     refine T.block ?_
     refine T.seq ?_
     refine T.region ?_
     obtain ⟨hc4, he1⟩ := inv_chk he1
     refine T.idxBf .list 0 rfl rfl (wants0 rfl) rfl rfl rfl hc4.1 hc4.2 (hdr_le (Nat.le_refl _)) ?_
     refine T.ldHb 0 .list rfl hc4.1 hc4.2 rfl (wants0 rfl) rfl rfl rfl ?_
     refine T.focusB 1 ((s3.2 : Int).toNat) rfl (toNat_lt hc4.1 hc4.2) rfl ?_
     refine T.allocS .list rfl (wants0 rfl) rfl (cs := [.int .i64 0, .slice none 0 0]) rfl (fun b1 => ?_)
     refine T.store .list 0 rfl rfl (wants0 rfl) rfl rfl rfl rfl (Nat.le_of_ble_eq_true rfl) rfl (cs' := [.int .i64 (((s3.1).getD (s3.2 : Int).toNat default).1), .slice ((x4.2 ((s3.2 : Int).toNat)).1) (((s3.1.getD ((s3.2 : Int).toNat) default).2).length) ((x4.2 ((s3.2 : Int).toNat)).2)]) rfl rfl ?_
     refine T.nil ?_
     refine T.then_normal ?_
     refine T.seq ?_
     refine T.region ?_
     refine T.field .list rfl (wants0 rfl) rfl rfl ?_
     refine T.load .list 0 rfl rfl (wants0 rfl) rfl rfl rfl ?_
     refine T.move .list rfl (wants0 rfl) rfl rfl ?_
     refine T.bin .list rfl (wants0 rfl) rfl rfl rfl rfl ?_
     refine T.nil ?_
     refine T.then_normal ?_
     refine T.cond rfl (fun hb3 => ?_) (fun hb3 => ?_)
     ·replace he1 := inv_posB hb3 he1
      refine T.plan [(0, 0), (2, 0), (3, 0), (6, 0), (7, 0), (8, 0), (1, 1), (4, 0), (5, 1), (9, 0), (10, 0), (11, 2)] mixed (by kernel_rfl) (by kernel_rfl) rfl (fun d _ _ _ _ h => by cases d <;> exact h) ?_
      refine T.field (.plan rfl) rfl (wants0 rfl) rfl rfl ?_
      refine T.move (.plan rfl) rfl (wants0 rfl) rfl rfl ?_
      refine T.quo (.plan rfl) rfl (wants0 rfl) rfl rfl rfl (by decide) ?_
      refine T.move (.plan rfl) rfl (wants0 rfl) rfl rfl ?_
      refine T.rem (.plan rfl) rfl (wants0 rfl) rfl rfl rfl (by decide) ?_
      obtain ⟨hc5, he1⟩ := inv_chk he1
      refine T.shl (.plan rfl) rfl (wants0 rfl) rfl rfl rfl hc5 ?_
      refine T.load (.plan rfl) 0 rfl rfl (wants0 rfl) rfl rfl rfl ?_
      obtain ⟨hc6, he1⟩ := inv_chk he1
      refine T.idxBf (.plan rfl) 1 rfl rfl (wants0 rfl) rfl rfl rfl hc6.1 hc6.2 (Nat.le_refl _) ?_
      refine T.ldBf1 (.plan rfl) 1 rfl rfl (wants0 rfl) rfl rfl hc6.1 hc6.2 ?_
      refine T.bin (.plan rfl) rfl (wants0 rfl) rfl rfl rfl rfl ?_
      obtain ⟨hc7, he1⟩ := inv_chk he1
      refine T.idxBf (.plan rfl) 1 rfl rfl (wants0 rfl) rfl rfl rfl hc7.1 hc7.2 (Nat.le_refl _) ?_
      refine T.stBf (.plan rfl) 1 rfl rfl (wants0 rfl) rfl rfl rfl (b8_bits _ _ _) hc7.1 hc7.2 rfl ?_
      refine T.planEnd ?_
      refine T.in_normal ?_
      refine T.then_normal ?_
      refine T.region ?_
      refine T.bin .list rfl (wants0 rfl) rfl rfl rfl rfl ?_
      refine T.move .list rfl (wants0 rfl) rfl rfl ?_
      refine T.nil ?_
      refine T.then_normal ?_
      obtain rfl := inv_some he1
      refine T.pick [1, 3, 2, 0, 4, 5] 6 rfl rfl (Nat.le_add_left _ _) (hs' := Bf E8 5 ((x4.2 ((s3.2 : Int).toNat)).1) ((x4.2 ((s3.2 : Int).toNat)).2) ((((s3.1.getD ((s3.2 : Int).toNat) default).2).set (IntKind.i64.wrap (Int.tdiv a2 8) : Int).toNat (u8 (bitsOf .xor .u8 (((((s3.1.getD ((s3.2 : Int).toNat) default).2).getD (IntKind.i64.wrap (Int.tdiv a2 8) : Int).toNat default).toNat : Int)) (shlI .u8 1 (Int.tmod a2 8)))))) :: Bh 5 x4.2 s3.1 ((s3.2 : Int).toNat) :: Hb 82 x4.1.1 x4.1.2 x4.2 s3.1 :: Cl b1 82 [.int .i64 (((s3.1).getD (s3.2 : Int).toNat default).1), .slice ((x4.2 ((s3.2 : Int).toNat)).1) (((s3.1.getD ((s3.2 : Int).toNat) default).2).length) ((x4.2 ((s3.2 : Int).toNat)).2)] :: Cl p0 68 [.int .i64 o0.1, .map (some m0b), .slice x4.1.1 s3.1.length x4.1.2, .bool o0.2.1, .int .i64 o0.2.2.1, .int .i64 o0.2.2.2.1, .int .u64 o0.2.2.2.2.1, .int .i64 o0.2.2.2.2.2.1, .int .i64 o0.2.2.2.2.2.2] :: Mp (Elt.slice E8) m0b ((mset q0b a1 (((r1).set (IntKind.i64.wrap (Int.tdiv a2 8) : Int).toNat (u8 (bitsOf .xor .u8 ((((r1).getD (IntKind.i64.wrap (Int.tdiv a2 8) : Int).toNat default).toNat : Int)) (shlI .u8 1 (Int.tmod a2 8)))))))) :: hs) rfl ?_
      refine T.fillB ((s3.2 : Int).toNat) (toNat_lt hc4.1 hc4.2) (by simp only [List.length_set]) ?_
      refine T.env1 50 rfl (slc (n' := ((s3.1.set ((s3.2 : Int).toNat) ((s3.1.getD ((s3.2 : Int).toNat) default).1, (((s3.1.getD ((s3.2 : Int).toNat) default).2).set (IntKind.i64.wrap (Int.tdiv a2 8) : Int).toNat (u8 (bitsOf .xor .u8 (((((s3.1.getD ((s3.2 : Int).toNat) default).2).getD (IntKind.i64.wrap (Int.tdiv a2 8) : Int).toNat default).toNat : Int)) (shlI .u8 1 (Int.tmod a2 8)))))))).length) (by simp only [List.length_set])) ?_
      refine T.clEq 3 (cs' := [.int .i64 o0.1, .map (some m0b), .slice x4.1.1 (((s3.1.set ((s3.2 : Int).toNat) ((s3.1.getD ((s3.2 : Int).toNat) default).1, (((s3.1.getD ((s3.2 : Int).toNat) default).2).set (IntKind.i64.wrap (Int.tdiv a2 8) : Int).toNat (u8 (bitsOf .xor .u8 (((((s3.1.getD ((s3.2 : Int).toNat) default).2).getD (IntKind.i64.wrap (Int.tdiv a2 8) : Int).toNat default).toNat : Int)) (shlI .u8 1 (Int.tmod a2 8)))))))).length) x4.1.2, .bool o0.2.1, .int .i64 o0.2.2.1, .int .i64 o0.2.2.2.1, .int .u64 o0.2.2.2.2.1, .int .i64 o0.2.2.2.2.2.1, .int .i64 o0.2.2.2.2.2.2]) rfl (by simp only [List.length_set]) rfl ?_
      exact T.le (EnvLe.cons rfl (EnvLe.cons rfl (EnvLe.cons rfl (EnvLe.cons rfl (EnvLe.cons rfl EnvLe.nil))))) (T.pick [1, 0, 3, 4] 5 rfl rfl (Nat.le_add_left _ _) rfl (hm1 ((s3.1.set ((s3.2 : Int).toNat) ((s3.1.getD ((s3.2 : Int).toNat) default).1, (((s3.1.getD ((s3.2 : Int).toNat) default).2).set (IntKind.i64.wrap (Int.tdiv a2 8) : Int).toNat (u8 (bitsOf .xor .u8 (((((s3.1.getD ((s3.2 : Int).toNat) default).2).getD (IntKind.i64.wrap (Int.tdiv a2 8) : Int).toNat default).toNat : Int)) (shlI .u8 1 (Int.tmod a2 8))))))), IntKind.i64.wrap (s3.2 + 1)) rfl ((x4.1.1, x4.1.2), x4.2)))
     ·replace he1 := inv_negB hb3 he1
      refine T.skip ?_
      refine T.in_normal ?_
      refine T.then_normal ?_
      refine T.region ?_
      refine T.bin .list rfl (wants0 rfl) rfl rfl rfl rfl ?_
      refine T.move .list rfl (wants0 rfl) rfl rfl ?_
      refine T.nil ?_
      refine T.then_normal ?_
      obtain rfl := inv_some he1
      refine T.pick [1, 3, 0, 2, 4, 5] 6 rfl rfl (Nat.le_add_left _ _) (hs' := Bf E8 5 ((x4.2 ((s3.2 : Int).toNat)).1) ((x4.2 ((s3.2 : Int).toNat)).2) ((s3.1.getD ((s3.2 : Int).toNat) default).2) :: Bh 5 x4.2 s3.1 ((s3.2 : Int).toNat) :: Cl b1 82 [.int .i64 (((s3.1).getD (s3.2 : Int).toNat default).1), .slice ((x4.2 ((s3.2 : Int).toNat)).1) (((s3.1.getD ((s3.2 : Int).toNat) default).2).length) ((x4.2 ((s3.2 : Int).toNat)).2)] :: Hb 82 x4.1.1 x4.1.2 x4.2 s3.1 :: Cl p0 68 [.int .i64 o0.1, .map (some m0b), .slice x4.1.1 s3.1.length x4.1.2, .bool o0.2.1, .int .i64 o0.2.2.1, .int .i64 o0.2.2.2.1, .int .u64 o0.2.2.2.2.1, .int .i64 o0.2.2.2.2.2.1, .int .i64 o0.2.2.2.2.2.2] :: Mp (Elt.slice E8) m0b ((mset q0b a1 (((r1).set (IntKind.i64.wrap (Int.tdiv a2 8) : Int).toNat (u8 (bitsOf .xor .u8 ((((r1).getD (IntKind.i64.wrap (Int.tdiv a2 8) : Int).toNat default).toNat : Int)) (shlI .u8 1 (Int.tmod a2 8)))))))) :: hs) rfl ?_
      refine T.unfocusB ((s3.2 : Int).toNat) (toNat_lt hc4.1 hc4.2) ?_
      exact T.le (EnvLe.cons rfl (EnvLe.cons rfl (EnvLe.cons rfl (EnvLe.cons rfl (EnvLe.cons rfl EnvLe.nil))))) (T.pick [2, 0, 3, 4] 5 rfl rfl (Nat.le_add_left _ _) rfl (hm1 (s3.1, IntKind.i64.wrap (s3.2 + 1)) rfl ((x4.1.1, x4.1.2), x4.2)))
    ·replace he1 := inv_negB hb2 he1
     refine T.exit ?_
     refine T.then_exit ?_
     refine T.then_exit ?_
     obtain rfl := inv_some he1
     obtain rfl := hx1 _ rfl
     refine T.in_hit ?_
     refine T.then_normal ?_
     exact T.le EnvLe.nil (T.pick [2, 3, 0, 1] 4 rfl rfl (Nat.le_add_left _ _) rfl (J2 s3.1 ((x4.1.1, x4.1.2), x4.2) hk1))
 ·refine T.region ?_
  refine T.move .list rfl (wants0 rfl) rfl rfl ?_
  refine T.bin .list rfl (wants0 rfl) rfl rfl rfl rfl ?_
  refine T.move .list rfl (wants0 rfl) rfl rfl ?_
  refine T.bool (b := (decide (a1 < 0))) (fun hb4 => ?_) (fun hb4 => ?_)
  ·replace hr := inv_posB hb4 hr
   refine T.leave .list (wantsNot rfl rfl rfl hb4) rfl ?_
   refine T.leave .list (wantsNot rfl rfl rfl hb4) rfl ?_
   refine T.leave .list (wantsNot rfl rfl rfl hb4) rfl ?_
   refine T.leave .list (wantsNot rfl rfl rfl hb4) rfl ?_
   refine T.leave .list (wantsNot rfl rfl rfl hb4) rfl ?_
   refine T.leave .list (wantsNot rfl rfl rfl hb4) rfl ?_
   refine T.pickT .list rfl (wants0 rfl) rfl rfl hb4 rfl ?_
   refine T.move .list rfl (wants0 rfl) rfl rfl ?_
   refine T.leave .list (wantsNot rfl rfl rfl rfl) rfl ?_
   refine T.leave .list (wantsNot rfl rfl rfl rfl) rfl ?_
   refine T.pickT .list rfl (wants0 rfl) rfl rfl rfl rfl ?_
   refine T.move .list rfl (wants0 rfl) rfl rfl ?_
   refine T.leave .list (wantsNot rfl rfl rfl rfl) rfl ?_
   refine T.leave .list (wantsNot rfl rfl rfl rfl) rfl ?_
   refine T.pickT .list rfl (wants0 rfl) rfl rfl rfl rfl ?_
   refine T.nil ?_
   refine T.then_normal ?_
   exact T.le (EnvLe.cons rfl (EnvLe.cons rfl (EnvLe.cons rfl (EnvLe.cons rfl EnvLe.nil)))) (T.pick [0, 1, 2, 3] 4 rfl rfl (Nat.le_add_left _ _) rfl (J1 true () hr))
  ·replace hr := inv_negB hb4 hr
   refine T.move .list rfl (wants1 rfl rfl rfl hb4) rfl rfl ?_
   refine T.move .list rfl (wants1 rfl rfl rfl hb4) rfl rfl ?_
   refine T.nilCheck .list rfl (wants1 rfl rfl rfl hb4) rfl rfl ?_
   refine T.field .list rfl (wants1 rfl rfl rfl hb4) rfl rfl ?_
   refine T.load .list 0 rfl rfl (wants1 rfl rfl rfl hb4) rfl rfl rfl ?_
   refine T.bin .list rfl (wants1 rfl rfl rfl hb4) rfl rfl rfl rfl ?_
   refine T.pickF .list rfl (wants0 rfl) rfl rfl hb4 rfl ?_
   refine T.move .list rfl (wants0 rfl) rfl rfl ?_
   refine T.bool (b := (decide (o0.1 ≤ a1))) (fun hb5 => ?_) (fun hb5 => ?_)
   ·replace hr := inv_posB hb5 hr
    refine T.leave .list (wantsNot rfl rfl rfl hb5) rfl ?_
    refine T.leave .list (wantsNot rfl rfl rfl hb5) rfl ?_
    refine T.pickT .list rfl (wants0 rfl) rfl rfl hb5 rfl ?_
    refine T.move .list rfl (wants0 rfl) rfl rfl ?_
    refine T.leave .list (wantsNot rfl rfl rfl rfl) rfl ?_
    refine T.leave .list (wantsNot rfl rfl rfl rfl) rfl ?_
    refine T.pickT .list rfl (wants0 rfl) rfl rfl rfl rfl ?_
    refine T.nil ?_
    refine T.then_normal ?_
    exact T.le (EnvLe.cons rfl (EnvLe.cons rfl (EnvLe.cons rfl (EnvLe.cons rfl EnvLe.nil)))) (T.pick [0, 1, 2, 3] 4 rfl rfl (Nat.le_add_left _ _) rfl (J1 true () hr))
   ·replace hr := inv_negB hb5 hr
    refine T.move .list rfl (wants1 rfl rfl rfl hb5) rfl rfl ?_
    refine T.bin .list rfl (wants1 rfl rfl rfl hb5) rfl rfl rfl rfl ?_
    refine T.pickF .list rfl (wants0 rfl) rfl rfl hb5 rfl ?_
    refine T.move .list rfl (wants0 rfl) rfl rfl ?_
    refine T.bool (b := (decide (a2 < 0))) (fun hb6 => ?_) (fun hb6 => ?_)
    ·replace hr := inv_posB hb6 hr
     refine T.leave .list (wantsNot rfl rfl rfl hb6) rfl ?_
     refine T.leave .list (wantsNot rfl rfl rfl hb6) rfl ?_
     refine T.pickT .list rfl (wants0 rfl) rfl rfl hb6 rfl ?_
     refine T.nil ?_
     refine T.then_normal ?_
     exact T.le (EnvLe.cons rfl (EnvLe.cons rfl (EnvLe.cons rfl (EnvLe.cons rfl EnvLe.nil)))) (T.pick [0, 1, 2, 3] 4 rfl rfl (Nat.le_add_left _ _) rfl (J1 true () hr))
    ·replace hr := inv_negB hb6 hr
     refine T.move .list rfl (wants1 rfl rfl rfl hb6) rfl rfl ?_
     refine T.bin .list rfl (wants1 rfl rfl rfl hb6) rfl rfl rfl rfl ?_
     refine T.pickF .list rfl (wants0 rfl) rfl rfl hb6 rfl ?_
     refine T.nil ?_
     refine T.then_normal ?_
     exact T.le (EnvLe.cons rfl (EnvLe.cons rfl (EnvLe.cons rfl (EnvLe.cons rfl EnvLe.nil)))) (T.pick [0, 1, 2, 3] 4 rfl rfl (Nat.le_add_left _ _) rfl (J1 (decide ((65536 : Int) ≤ a2)) () hr))
end Go.Proofs.Ytccifnjlfhdpiaa
