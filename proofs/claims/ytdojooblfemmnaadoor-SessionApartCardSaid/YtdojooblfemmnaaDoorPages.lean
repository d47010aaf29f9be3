/- Pages: what the functions compute, and that the program computes it; printed by a program of ours. -/
import Derived.Test.YtdojooblfemmnaaDoorCaught
import Derived.Test.YtdojooblfemmnaaDoorCks
import Derived.Test.YtdojooblfemmnaaDoorWire
set_option linter.unusedVariables false
set_option linter.unusedSimpArgs false
namespace Go.Proofs.YtdojooblfemmnaaDoor
open Go.RowKit
noncomputable def disk_New.k1 (a0 : Int) (s1 : Bool) : Option ((Option ((Int × Bool × Int × Int × Int × Int × Int) × (List (Int × (List UInt8))) × (List (Int × (List UInt8))))) × Int) :=
  (if s1 = true then some (none, 1) else some ((some ((a0, false, 0, 0, 0, 0, 0), ([] : List (Int × (List UInt8))), ([] : List (Int × (List UInt8))))), 0))
noncomputable def disk_New.impl (a0 : Int) : Option ((Option ((Int × Bool × Int × Int × Int × Int × Int) × (List (Int × (List UInt8))) × (List (Int × (List UInt8))))) × Int) :=
  (if ((decide (a0 < 1))) = true then disk_New.k1 a0 true else disk_New.k1 a0 (decide ((4096 : Int) < a0)))
set_option maxRecDepth 100000 in
set_option maxHeartbeats 4000000 in
theorem disk_New.c {B : World} {hs : List MP} {w : World} {a0 : Int} (hB : Base B) (hS : St B hs w) {r : (Option ((Int × Bool × Int × Int × Int × Int × Int) × (List (Int × (List UInt8))) × (List (Int × (List UInt8))))) × Int} (hr : disk_New.impl a0 = some r) :
    Calls Tryd.prog 12 #[.int .i64 a0] w fun e w' => ∃ x : Nat × Nat × (Option Addr × Nat), e = .returned (.tuple #[optp r.1 x.1, .int .i64 r.2]) ∧ St B (((optc r.1 (fun v => [ck0 x.1 v.1 x.2.1 x.2.2.1 v.2.2.length x.2.2.2, Mp (Elt.slice E8) x.2.1 v.2.1, Bf (Elt.pair E64 (Elt.slice E8)) 174 x.2.2.1 x.2.2.2 v.2.2])) ++ hs)) w' := by
 unfold disk_New.impl at hr
 refine calls_T Tryd.func12 rfl rfl rfl hS ?_
 refine T.seq ?_
 refine T.region ?_
 refine T.assign .list rfl (wants0 rfl) rfl rfl ?_
 refine T.assign .list rfl (wants0 rfl) rfl rfl ?_
 refine T.nil ?_
 refine T.then_normal ?_
 refine T.seq ?_
 refine T.seqJ (fun (s1 : Bool) (x1 : Unit) => [(0, .int .i64 a0), (9, .bool s1)]) (fun s1 x1 => hs) (fun s1 => disk_New.k1 a0 s1 = some r) (fun s1 x1 hk1 => ?_) (fun J1 => ?_)
 ·unfold disk_New.k1 at hk1
  refine T.cond rfl (fun hb1 => ?_) (fun hb1 => ?_)
  ·replace hk1 := inv_posB hb1 hk1
   refine T.seq ?_
   refine T.region ?_
   refine T.assign .list rfl (wants0 rfl) rfl rfl ?_
   refine T.assign .list rfl (wants0 rfl) rfl rfl ?_
   refine T.nil ?_
   refine T.then_normal ?_
   refine T.ret ?_
   refine T.then_ret ?_
   obtain rfl := inv_some hk1
   refine T.pick [] 0 rfl rfl nla rfl ?_
   refine T.ret2 rfl rfl rfl (fun w hS => ⟨(0, 0, (none, 0)), rfl, hS⟩)
  ·replace hk1 := inv_negB hb1 hk1
   refine T.skip ?_
   refine T.then_normal ?_
   refine T.seq ?_
   refine T.region ?_
   refine T.move .list rfl (wants0 rfl) rfl rfl ?_
   refine T.makeMap (Elt.slice E8) .list rfl (wants0 rfl) rfl (fun b1 => ?_)
   refine T.build .list (vals := [(0, .int .i64 a0), (1, .map (some b1))]) (cells := #[.int .i64 a0, .map (some b1), .slice none 0 0, .bool false, .int .i64 0, .int .i64 0, .int .u64 0, .int .i64 0, .int .i64 0]) rfl (wants0 rfl) rfl rfl (run_buildStruct (sizes := [1, 1, 1, 1, 1, 4]) (by kernel_rfl) (by kernel_rfl)) ?_
   refine T.boxS .list rfl (wants0 rfl) rfl rfl (cs := [.int .i64 a0, .map (some b1), .slice none 0 0, .bool false, .int .i64 0, .int .i64 0, .int .u64 0, .int .i64 0, .int .i64 0]) rfl (fun b2 => ?_)
   refine T.assign .list rfl (wants0 rfl) rfl rfl ?_
   refine T.assign .list rfl (wants0 rfl) rfl rfl ?_
   refine T.nil ?_
   refine T.then_normal ?_
   refine T.ret ?_
   obtain rfl := inv_some hk1
   refine T.nilBf (Elt.pair E64 (Elt.slice E8)) 174 ?_
   refine T.pick [1, 2, 0] 3 rfl rfl nla rfl ?_
   refine T.ret2 rfl rfl rfl (fun w hS => ⟨(b2, b1, (none, 0)), rfl, hS⟩)
 ·refine T.region ?_
  refine T.move .list rfl (wants0 rfl) rfl rfl ?_
  refine T.bin .list rfl (wants0 rfl) rfl rfl rfl rfl ?_
  refine T.move .list rfl (wants0 rfl) rfl rfl ?_
  refine T.bool (b := (decide (a0 < 1))) (fun hb2 => ?_) (fun hb2 => ?_)
  ·replace hr := inv_posB hb2 hr
   refine T.leave .list (wantsNot rfl rfl rfl hb2) rfl ?_
   refine T.leave .list (wantsNot rfl rfl rfl hb2) rfl ?_
   refine T.pickT .list rfl (wants0 rfl) rfl rfl hb2 rfl ?_
   refine T.nil ?_
   refine T.then_normal ?_
   exact T.le (EnvLe.cons rfl (EnvLe.cons rfl EnvLe.nil)) (T.pick [] 0 rfl rfl nla rfl (J1 true () hr))
  ·replace hr := inv_negB hb2 hr
   refine T.move .list rfl (wants1 rfl rfl rfl hb2) rfl rfl ?_
   refine T.bin .list rfl (wants1 rfl rfl rfl hb2) rfl rfl rfl rfl ?_
   refine T.pickF .list rfl (wants0 rfl) rfl rfl hb2 rfl ?_
   refine T.nil ?_
   refine T.then_normal ?_
   exact T.le (EnvLe.cons rfl (EnvLe.cons rfl EnvLe.nil)) (T.pick [] 0 rfl rfl nla rfl (J1 (decide ((4096 : Int) < a0)) () hr))

noncomputable def disk_whole.impl (l0 : List UInt8) : Option (List UInt8) :=
  chk (0 ≤ (8192 : Int) ∧ (8192 : Int) * 1 ≤ 140737488355328) (some ((l0).take (min l0.length (List.replicate (8192 : Int).toNat (0 : UInt8)).length) ++ (List.replicate (8192 : Int).toNat (0 : UInt8)).drop (min l0.length (List.replicate (8192 : Int).toNat (0 : UInt8)).length)))
set_option maxRecDepth 100000 in
set_option maxHeartbeats 4000000 in
theorem disk_whole.c {B : World} {hs : List MP} {w : World} {i0 c0 : Nat} {A0 : Option Addr} {l0 : List UInt8} (hB : Base B) (hS : St B hs w) (h0 : (hs)[i0]? = some (Ro E8 A0 c0 l0)) {r : List UInt8} (hr : disk_whole.impl l0 = some r) :
    Calls Tryd.prog 76 #[.slice A0 l0.length c0] w fun e w' => ∃ x : (Option Addr × Nat), e = .returned (.slice x.1 r.length x.2) ∧ St B (Bf E8 5 x.1 x.2 r :: hs) w' := by
 unfold disk_whole.impl at hr
 refine calls_T Tryd.func76 rfl rfl rfl hS ?_
 refine T.front i0 h0 ?_
 refine T.seq ?_
 refine T.region ?_
 refine T.assign .list rfl (wants0 rfl) rfl rfl ?_
 refine T.nil ?_
 refine T.then_normal ?_
 refine T.seq ?_
 refine T.region ?_
 obtain ⟨hc1, hr⟩ := inv_chk hr
 refine T.make .list (enc := b8) (h1' := fun _ => rfl) (z0 := (0 : UInt8)) (by rfl) rfl (wants0 rfl) rfl rfl rfl rfl hc1 (fun b1 => ?_)
 refine T.assign .list rfl (wants0 rfl) rfl rfl ?_
 refine T.nil ?_
 refine T.then_normal ?_
 refine T.seq ?_
 refine T.region ?_
 refine T.move .list rfl (wants0 rfl) rfl rfl ?_
 refine T.move .list rfl (wants0 rfl) rfl rfl ?_
 refine T.copyBf .list 0 rfl rfl (wants0 rfl) rfl rfl rfl (Nat.le_refl _) rfl (Rd.ofRo 1 rfl) rfl ?_
 refine T.env1 3 rfl (slc (n' := (((l0).take (min l0.length (List.replicate (8192 : Int).toNat (0 : UInt8)).length) ++ (List.replicate (8192 : Int).toNat (0 : UInt8)).drop (min l0.length (List.replicate (8192 : Int).toNat (0 : UInt8)).length))).length) (by simp only [List.length_append, List.length_take, List.length_drop, List.length_replicate]; (try unfold subl); (try simp only [List.length_drop, List.length_take, List.length_replicate]); omega)) ?_
 refine T.env1 4 rfl (slc (n' := (((l0).take (min l0.length (List.replicate (8192 : Int).toNat (0 : UInt8)).length) ++ (List.replicate (8192 : Int).toNat (0 : UInt8)).drop (min l0.length (List.replicate (8192 : Int).toNat (0 : UInt8)).length))).length) (by simp only [List.length_append, List.length_take, List.length_drop, List.length_replicate]; (try unfold subl); (try simp only [List.length_drop, List.length_take, List.length_replicate]); omega)) ?_
 refine T.env1 5 rfl (slc (n' := (((l0).take (min l0.length (List.replicate (8192 : Int).toNat (0 : UInt8)).length) ++ (List.replicate (8192 : Int).toNat (0 : UInt8)).drop (min l0.length (List.replicate (8192 : Int).toNat (0 : UInt8)).length))).length) (by simp only [List.length_append, List.length_take, List.length_drop, List.length_replicate]; (try unfold subl); (try simp only [List.length_drop, List.length_take, List.length_replicate]); omega)) ?_
 refine T.nil ?_
 refine T.then_normal ?_
 refine T.seq ?_
 refine T.region ?_
 refine T.move .list rfl (wants0 rfl) rfl rfl ?_
 refine T.assign .list rfl (wants0 rfl) rfl rfl ?_
 refine T.nil ?_
 refine T.then_normal ?_
 refine T.ret ?_
 obtain rfl := inv_some hr
 refine T.pick [0] 2 rfl rfl nla rfl ?_
 refine T.ret1 rfl rfl (fun w hS => ⟨(some ⟨b1, 0, none⟩, (8192 : Int).toNat), rfl, hS⟩)

noncomputable def disk_Disk_good.impl (o0 : Int × Bool × Int × Int × Int × Int × Int) (q0b : List (Int × (List UInt8))) (q0c : List (Int × (List UInt8))) (a1 : Int) : Option (List UInt8) :=
  (disk_whole.impl (((mget q0b a1).getD (([] : List UInt8))))).bind fun r1 => some r1
set_option maxRecDepth 100000 in
set_option maxHeartbeats 4000000 in
theorem disk_Disk_good.c {B : World} {hs : List MP} {w : World} {p0 : Nat} {o0 : Int × Bool × Int × Int × Int × Int × Int} {m0b : Nat} {q0b : List (Int × (List UInt8))} {c0c : Nat} {A0c : Option Addr} {q0c : List (Int × (List UInt8))} {a1 : Int} (hB : Base B) (hS : St B (ck0 p0 o0 m0b A0c q0c.length c0c :: Mp (Elt.slice E8) m0b q0b :: Bf (Elt.pair E64 (Elt.slice E8)) 174 A0c c0c q0c :: hs) w) {r : List UInt8} (hr : disk_Disk_good.impl o0 q0b q0c a1 = some r) :
    Calls Tryd.prog 77 #[.pointer (some ⟨p0, 0, none⟩), .int .i64 a1] w fun e w' => ∃ x : (Option Addr × Nat), e = .returned (.slice x.1 r.length x.2) ∧ St B (Bf E8 5 x.1 x.2 r :: ck0 p0 o0 m0b A0c q0c.length c0c :: Mp (Elt.slice E8) m0b q0b :: Bf (Elt.pair E64 (Elt.slice E8)) 174 A0c c0c q0c :: hs) w' := by
 unfold disk_Disk_good.impl at hr
 refine calls_T Tryd.func77 rfl rfl rfl hS ?_
 refine T.seq ?_
 refine T.region ?_
 refine T.assign .list rfl (wants0 rfl) rfl rfl ?_
 refine T.nil ?_
 refine T.then_normal ?_
 refine T.seq ?_
 refine T.region ?_
 refine T.move .list rfl (wants0 rfl) rfl rfl ?_
 refine T.nilCheck .list rfl (wants0 rfl) rfl rfl ?_
 refine T.field .list rfl (wants0 rfl) rfl rfl ?_
 refine T.load .list 0 rfl rfl (wants0 rfl) rfl rfl rfl ?_
 refine T.move .list rfl (wants0 rfl) rfl rfl ?_
 refine T.lookup .list 1 (d := ([] : List UInt8)) Sh.slice (fun _ => ⟨none, 0, rfl, Nat.le_refl _, .inl rfl⟩) rfl rfl (wants0 rfl) rfl rfl rfl (v := fun x1 => .slice x1.1 ((((mget q0b a1).getD (([] : List UInt8)))).length) x1.2) (hs' := fun x1 => Ro E8 x1.1 x1.2 (((mget q0b a1).getD (([] : List UInt8)))) :: ck0 p0 o0 m0b A0c q0c.length c0c :: Mp (Elt.slice E8) m0b q0b :: Bf (Elt.pair E64 (Elt.slice E8)) 174 A0c c0c q0c :: hs) (fun _ => rfl) (fun _ => rfl) (fun x1 => ?_)
 obtain ⟨r1, hg1, hr⟩ := inv_bind hr
 refine T.call .list (wants0 rfl) rfl (run_callF (vs := [_]) rfl Tryd.func76 rfl (by decide) rfl) (fun w hS => disk_whole.c hB hS (i0 := 0) rfl hg1) (fun x2 => ?_)
 refine T.assign .list rfl (wants0 rfl) rfl rfl ?_
 refine T.nil ?_
 refine T.then_normal ?_
 refine T.ret ?_
 obtain rfl := inv_some hr
 refine T.pick [0, 2, 3, 4] 5 rfl rfl nla rfl ?_
 refine T.ret1 rfl rfl (fun w hS => ⟨x2, rfl, hS⟩)

noncomputable def disk_Disk_Read.k2 (o0 : Int × Bool × Int × Int × Int × Int × Int) (q0b : List (Int × (List UInt8))) (q0c : List (Int × (List UInt8))) (a1 : Int) (s2 : Unit) : Option (List UInt8 × Int) :=
  (disk_Disk_good.impl o0 q0b q0c a1).bind fun r1 => some (r1, 0)
noncomputable def disk_Disk_Read.st1 (q0c : List (Int × (List UInt8))) (a1 : Int) (s3 : Int) : Option (Int ⊕ ((List UInt8 × Int) ⊕ Unit)) :=
  (if ((decide ((0 : Int) ≤ s3))) = true then chk (0 ≤ s3 ∧ s3 < (q0c.length : Int)) ((if ((decide (((((((q0c).getD (s3 : Int).toNat default)).1))) = a1))) = true then chk (0 ≤ s3 ∧ s3 < (q0c.length : Int)) ((disk_whole.impl (((((q0c).getD (s3 : Int).toNat default)).2))).bind fun r2 => some (.inr (.inl (r2, 0)))) else some (.inl (IntKind.i64.wrap (s3 - 1))))) else some (.inr (.inr ())))
noncomputable def disk_Disk_Read.k1 (q0c : List (Int × (List UInt8))) (a1 : Int) (o0 : Int × Bool × Int × Int × Int × Int × Int) (q0b : List (Int × (List UInt8))) (s1 : Bool) : Option (List UInt8 × Int) :=
  (if s1 = true then some (([] : List UInt8), 1) else (loop (disk_Disk_Read.st1 q0c a1) (IntKind.i64.wrap (((q0c.length : Int)) - 1))).bind (fun e1 => match e1 with | .inl v => some v | .inr v => disk_Disk_Read.k2 o0 q0b q0c a1 v))
noncomputable def disk_Disk_Read.impl (o0 : Int × Bool × Int × Int × Int × Int × Int) (q0b : List (Int × (List UInt8))) (q0c : List (Int × (List UInt8))) (a1 : Int) : Option (List UInt8 × Int) :=
  (if o0.2.1 = true then some (([] : List UInt8), 20) else (if ((decide (a1 < 0))) = true then disk_Disk_Read.k1 q0c a1 o0 q0b true else disk_Disk_Read.k1 q0c a1 o0 q0b (decide (o0.1 ≤ a1))))
set_option maxRecDepth 100000 in
set_option maxHeartbeats 4000000 in
theorem disk_Disk_Read.c {B : World} {hs : List MP} {w : World} {p0 : Nat} {o0 : Int × Bool × Int × Int × Int × Int × Int} {m0b : Nat} {q0b : List (Int × (List UInt8))} {c0c : Nat} {A0c : Option Addr} {q0c : List (Int × (List UInt8))} {a1 : Int} (hB : Base B) (hS : St B (ck0 p0 o0 m0b A0c q0c.length c0c :: Mp (Elt.slice E8) m0b q0b :: Bf (Elt.pair E64 (Elt.slice E8)) 174 A0c c0c q0c :: hs) w) {r : List UInt8 × Int} (hr : disk_Disk_Read.impl o0 q0b q0c a1 = some r) :
    Calls Tryd.prog 56 #[.pointer (some ⟨p0, 0, none⟩), .int .i64 a1] w fun e w' => ∃ x : (Option Addr × Nat), e = .returned (.tuple #[.slice x.1 r.1.length x.2, .int .i64 r.2]) ∧ St B (Bf E8 5 x.1 x.2 r.1 :: ck0 p0 o0 m0b A0c q0c.length c0c :: Mp (Elt.slice E8) m0b q0b :: Bf (Elt.pair E64 (Elt.slice E8)) 174 A0c c0c q0c :: hs) w' := by
 unfold disk_Disk_Read.impl at hr
 refine calls_T Tryd.func56 rfl rfl rfl hS ?_
 refine T.seq ?_
 refine T.region ?_
 refine T.assign .list rfl (wants0 rfl) rfl rfl ?_
 refine T.assign .list rfl (wants0 rfl) rfl rfl ?_
 refine T.nil ?_
 refine T.then_normal ?_
 refine T.seq ?_
 refine T.block ?_
 refine T.seq ?_
 refine T.region ?_
 refine T.move .list rfl (wants0 rfl) rfl rfl ?_
 refine T.nilCheck .list rfl (wants0 rfl) rfl rfl ?_
 refine T.field .list rfl (wants0 rfl) rfl rfl ?_
 refine T.load .list 0 rfl rfl (wants0 rfl) rfl rfl rfl ?_
 refine T.assign .list rfl (wants0 rfl) rfl rfl ?_
 refine T.nil ?_
 refine T.then_normal ?_
 refine T.cond rfl (fun hb1 => ?_) (fun hb1 => ?_)
 ·replace hr := inv_posB hb1 hr
  refine T.seq ?_
  refine T.region ?_
  refine T.assign .list rfl (wants0 rfl) rfl rfl ?_
  refine T.assign .list rfl (wants0 rfl) rfl rfl ?_
  refine T.nil ?_
  refine T.then_normal ?_
  refine T.ret ?_
  refine T.in_ret ?_
  refine T.then_ret ?_
  obtain rfl := inv_some hr
  refine T.nilBf E8 5 ?_
  refine T.pick [0, 1, 2, 3] 4 rfl rfl nla rfl ?_
  refine T.ret2 rfl rfl rfl (fun w hS => ⟨(none, 0), rfl, hS⟩)
 ·replace hr := inv_negB hb1 hr
  refine T.seqJ (fun (s1 : Bool) (x1 : Unit) => [(0, .pointer (some ⟨p0, 0, none⟩)), (1, .int .i64 a1), (12, .bool s1)]) (fun s1 x1 => ck0 p0 o0 m0b A0c q0c.length c0c :: Mp (Elt.slice E8) m0b q0b :: Bf (Elt.pair E64 (Elt.slice E8)) 174 A0c c0c q0c :: hs) (fun s1 => disk_Disk_Read.k1 q0c a1 o0 q0b s1 = some r) (fun s1 x1 hk1 => ?_) (fun J1 => ?_)
  ·unfold disk_Disk_Read.k1 at hk1
   refine T.cond rfl (fun hb2 => ?_) (fun hb2 => ?_)
   ·replace hk1 := inv_posB hb2 hk1
    refine T.seq ?_
    refine T.region ?_
    refine T.assign .list rfl (wants0 rfl) rfl rfl ?_
    refine T.assign .list rfl (wants0 rfl) rfl rfl ?_
    refine T.nil ?_
    refine T.then_normal ?_
    refine T.ret ?_
    refine T.in_ret ?_
    refine T.then_ret ?_
    obtain rfl := inv_some hk1
    refine T.nilBf E8 5 ?_
    refine T.pick [0, 1, 2, 3] 4 rfl rfl nla rfl ?_
    refine T.ret2 rfl rfl rfl (fun w hS => ⟨(none, 0), rfl, hS⟩)
   ·replace hk1 := inv_negB hb2 hk1
    refine T.skip ?_
    refine T.in_normal ?_
    refine T.then_normal ?_
    refine T.seqJ (fun (s2 : Unit) (x2 : Unit) => [(0, .pointer (some ⟨p0, 0, none⟩)), (1, .int .i64 a1)]) (fun s2 x2 => ck0 p0 o0 m0b A0c q0c.length c0c :: Mp (Elt.slice E8) m0b q0b :: Bf (Elt.pair E64 (Elt.slice E8)) 174 A0c c0c q0c :: hs) (fun s2 => disk_Disk_Read.k2 o0 q0b q0c a1 s2 = some r) (fun s2 x2 hk2 => ?_) (fun J2 => ?_)
    ·unfold disk_Disk_Read.k2 at hk2
     refine T.seq ?_
     refine T.region ?_
     refine T.move .list rfl (wants0 rfl) rfl rfl ?_
     refine T.move .list rfl (wants0 rfl) rfl rfl ?_
     refine T.pick [0, 1, 2] 3 rfl rfl nla (hs' := ck0 p0 o0 m0b A0c q0c.length c0c :: Mp (Elt.slice E8) m0b q0b :: Bf (Elt.pair E64 (Elt.slice E8)) 174 A0c c0c q0c :: hs) rfl ?_
     obtain ⟨r1, hg1, hk2⟩ := inv_bind hk2
     refine T.call .list (wants0 rfl) rfl (run_callF (vs := [_, _]) rfl Tryd.func77 rfl (by decide) rfl) (fun w hS => disk_Disk_good.c hB hS (o0 := o0) (q0b := q0b) (q0c := q0c)  hg1) (fun x3 => ?_)
     refine T.assign .list rfl (wants0 rfl) rfl rfl ?_
     refine T.assign .list rfl (wants0 rfl) rfl rfl ?_
     refine T.nil ?_
     refine T.then_normal ?_
     refine T.ret ?_
     obtain rfl := inv_some hk2
     refine T.pick [0, 1, 2, 3] 4 rfl rfl nla rfl ?_
     refine T.ret2 rfl rfl rfl (fun w hS => ⟨x3, rfl, hS⟩)
    ·refine T.seq ?_
     refine T.region ?_
     refine T.move .list rfl (wants0 rfl) rfl rfl ?_
     refine T.nilCheck .list rfl (wants0 rfl) rfl rfl ?_
     refine T.field .list rfl (wants0 rfl) rfl rfl ?_
     refine T.load .list 0 rfl rfl (wants0 rfl) rfl rfl rfl ?_
     refine T.lenSlice .list rfl (wants0 rfl) rfl rfl ?_
     refine T.bin .list rfl (wants0 rfl) rfl rfl rfl rfl ?_
     refine T.assign .list rfl (wants0 rfl) rfl rfl ?_
     refine T.nil ?_
     refine T.then_normal ?_
     refine T.block ?_
     obtain ⟨e1, hl1, hk1⟩ := inv_bind hk1
     refine T.le (EnvLe.cons rfl (EnvLe.cons rfl (EnvLe.cons rfl EnvLe.nil))) (T.pick [0, 1, 2] 3 rfl rfl nla rfl (T.loop (s0 := IntKind.i64.wrap (((q0c.length : Int)) - 1)) (env := fun s3 x4 => [(0, .pointer (some ⟨p0, 0, none⟩)), (1, .int .i64 a1), (6, .int .i64 s3)]) (hs := fun (s3 : Int) (x4 : Unit) => ck0 p0 o0 m0b A0c q0c.length c0c :: Mp (Elt.slice E8) m0b q0b :: Bf (Elt.pair E64 (Elt.slice E8)) 174 A0c c0c q0c :: hs) hl1 () (fun K1 s3 x4 o1 he1 hm1 hx1 => ?_)))
     unfold disk_Disk_Read.st1 at he1
     refine T.seq ?_
     refine T.seq ?_
     refine T.region ?_
     refine T.move .list rfl (wants0 rfl) rfl rfl ?_
     refine T.bin .list rfl (wants0 rfl) rfl rfl rfl rfl ?_
     refine T.nil ?_
     refine T.then_normal ?_
     refine T.cond rfl (fun hb3 => ?_) (fun hb3 => ?_)
     ·replace he1 := inv_posB hb3 he1
      refine T.skip ?_
      refine T.then_normal ?_
      refine T.seq ?_
      refine T.block ?_
      refine T.seq ?_
      refine T.region ?_
      refine T.move .list rfl (wants0 rfl) rfl rfl ?_
      refine T.nilCheck .list rfl (wants0 rfl) rfl rfl ?_
      refine T.field .list rfl (wants0 rfl) rfl rfl ?_
      refine T.load .list 0 rfl rfl (wants0 rfl) rfl rfl rfl ?_
      refine T.move .list rfl (wants0 rfl) rfl rfl ?_
      obtain ⟨hc1, he1⟩ := inv_chk he1
      refine T.idxBf .list 2 rfl rfl (wants0 rfl) rfl rfl rfl hc1.1 hc1.2 (Nat.le_refl _) ?_
      refine T.fieldBf .list 2 rfl hc1.1 hc1.2 rfl (wants0 rfl) rfl rfl ?_
      refine T.fldBf 2 .list (Fd.fst Fd.self) rfl rfl hc1.1 hc1.2 rfl (wants0 rfl) rfl rfl rfl ?_
      refine T.move .list rfl (wants0 rfl) rfl rfl ?_
      refine T.bin .list rfl (wants0 rfl) rfl rfl rfl rfl ?_
      refine T.nil ?_
      refine T.then_normal ?_
      refine T.cond rfl (fun hb4 => ?_) (fun hb4 => ?_)
      ·replace he1 := inv_posB hb4 he1
       refine T.seq ?_
       refine T.region ?_
       refine T.move .list rfl (wants0 rfl) rfl rfl ?_
       refine T.nilCheck .list rfl (wants0 rfl) rfl rfl ?_
       refine T.field .list rfl (wants0 rfl) rfl rfl ?_
       refine T.load .list 0 rfl rfl (wants0 rfl) rfl rfl rfl ?_
       refine T.move .list rfl (wants0 rfl) rfl rfl ?_
       obtain ⟨hc2, he1⟩ := inv_chk he1
       refine T.idxBf .list 2 rfl rfl (wants0 rfl) rfl rfl rfl hc2.1 hc2.2 (Nat.le_refl _) ?_
       refine T.fieldBf .list 2 rfl hc2.1 hc2.2 rfl (wants0 rfl) rfl rfl ?_
       refine T.ldFBf 2 .list (Fd.snd Fd.self) Sh.slice rfl (.inr rfl) rfl rfl hc2.1 hc2.2 rfl (wants0 rfl) rfl rfl rfl (v := fun x5 => .slice x5.1 ((((((q0c).getD (s3 : Int).toNat default)).2)).length) x5.2) (hs' := fun x5 => Ro E8 x5.1 x5.2 (((((q0c).getD (s3 : Int).toNat default)).2)) :: ck0 p0 o0 m0b A0c q0c.length c0c :: Mp (Elt.slice E8) m0b q0b :: Bf (Elt.pair E64 (Elt.slice E8)) 174 A0c c0c q0c :: hs) (fun _ => rfl) (fun _ => rfl) (fun x5 => ?_)
       obtain ⟨r2, hg2, he1⟩ := inv_bind he1
       refine T.call .list (wants0 rfl) rfl (run_callF (vs := [_]) rfl Tryd.func76 rfl (by decide) rfl) (fun w hS => disk_whole.c hB hS (i0 := 0) rfl hg2) (fun x6 => ?_)
       refine T.assign .list rfl (wants0 rfl) rfl rfl ?_
       refine T.assign .list rfl (wants0 rfl) rfl rfl ?_
       refine T.nil ?_
       refine T.then_normal ?_
       refine T.ret ?_
       refine T.in_ret ?_
       refine T.then_ret ?_
       refine T.then_ret ?_
       obtain rfl := inv_some he1
       obtain rfl := hx1 _ rfl
       refine T.in_ret ?_
       refine T.then_ret ?_
       obtain rfl := inv_some hk1
       refine T.pick [0, 2, 3, 4] 5 rfl rfl nla rfl ?_
       refine T.ret2 rfl rfl rfl (fun w hS => ⟨x6, rfl, hS⟩)
      ·replace he1 := inv_negB hb4 he1
       refine T.skip ?_
       refine T.in_normal ?_
       refine T.then_normal ?_
       refine T.region ?_
       refine T.move .list rfl (wants0 rfl) rfl rfl ?_
       refine T.bin .list rfl (wants0 rfl) rfl rfl rfl rfl ?_
       refine T.assign .list rfl (wants0 rfl) rfl rfl ?_
       refine T.nil ?_
       refine T.then_normal ?_
       obtain rfl := inv_some he1
       exact T.le (EnvLe.cons rfl (EnvLe.cons rfl (EnvLe.cons rfl EnvLe.nil))) (T.pick [0, 1, 2] 3 rfl rfl nla rfl (hm1 (IntKind.i64.wrap (s3 - 1)) rfl ()))
     ·replace he1 := inv_negB hb3 he1
      refine T.exit ?_
      refine T.then_exit ?_
      refine T.then_exit ?_
      obtain rfl := inv_some he1
      obtain rfl := hx1 _ rfl
      refine T.in_hit ?_
      refine T.then_normal ?_
      exact T.le (EnvLe.cons rfl (EnvLe.cons rfl EnvLe.nil)) (T.pick [0, 1, 2] 3 rfl rfl nla rfl (J2 () () hk1))
  ·refine T.region ?_
   refine T.move .list rfl (wants0 rfl) rfl rfl ?_
   refine T.bin .list rfl (wants0 rfl) rfl rfl rfl rfl ?_
   refine T.move .list rfl (wants0 rfl) rfl rfl ?_
   refine T.bool (b := (decide (a1 < 0))) (fun hb5 => ?_) (fun hb5 => ?_)
   ·replace hr := inv_posB hb5 hr
    refine T.leave .list (wantsNot rfl rfl rfl hb5) rfl ?_
    refine T.leave .list (wantsNot rfl rfl rfl hb5) rfl ?_
    refine T.leave .list (wantsNot rfl rfl rfl hb5) rfl ?_
    refine T.leave .list (wantsNot rfl rfl rfl hb5) rfl ?_
    refine T.leave .list (wantsNot rfl rfl rfl hb5) rfl ?_
    refine T.leave .list (wantsNot rfl rfl rfl hb5) rfl ?_
    refine T.pickT .list rfl (wants0 rfl) rfl rfl hb5 rfl ?_
    refine T.assign .list rfl (wants0 rfl) rfl rfl ?_
    refine T.nil ?_
    refine T.then_normal ?_
    exact T.le (EnvLe.cons rfl (EnvLe.cons rfl (EnvLe.cons rfl EnvLe.nil))) (T.pick [0, 1, 2] 3 rfl rfl nla rfl (J1 true () hr))
   ·replace hr := inv_negB hb5 hr
    refine T.move .list rfl (wants1 rfl rfl rfl hb5) rfl rfl ?_
    refine T.move .list rfl (wants1 rfl rfl rfl hb5) rfl rfl ?_
    refine T.nilCheck .list rfl (wants1 rfl rfl rfl hb5) rfl rfl ?_
    refine T.field .list rfl (wants1 rfl rfl rfl hb5) rfl rfl ?_
    refine T.load .list 0 rfl rfl (wants1 rfl rfl rfl hb5) rfl rfl rfl ?_
    refine T.bin .list rfl (wants1 rfl rfl rfl hb5) rfl rfl rfl rfl ?_
    refine T.pickF .list rfl (wants0 rfl) rfl rfl hb5 rfl ?_
    refine T.assign .list rfl (wants0 rfl) rfl rfl ?_
    refine T.nil ?_
    refine T.then_normal ?_
    exact T.le (EnvLe.cons rfl (EnvLe.cons rfl (EnvLe.cons rfl EnvLe.nil))) (T.pick [0, 1, 2] 3 rfl rfl nla rfl (J1 (decide (o0.1 ≤ a1)) () hr))

noncomputable def disk_Disk_Blocks.impl (o0 : Int × Bool × Int × Int × Int × Int × Int) (q0b : List (Int × (List UInt8))) (q0c : List (Int × (List UInt8))) : Option Int :=
  some o0.1
set_option maxRecDepth 100000 in
set_option maxHeartbeats 4000000 in
theorem disk_Disk_Blocks.c {B : World} {hs : List MP} {w : World} {p0 : Nat} {o0 : Int × Bool × Int × Int × Int × Int × Int} {m0b : Nat} {q0b : List (Int × (List UInt8))} {c0c : Nat} {A0c : Option Addr} {q0c : List (Int × (List UInt8))} (hB : Base B) (hS : St B (ck0 p0 o0 m0b A0c q0c.length c0c :: Mp (Elt.slice E8) m0b q0b :: Bf (Elt.pair E64 (Elt.slice E8)) 174 A0c c0c q0c :: hs) w) {r : Int} (hr : disk_Disk_Blocks.impl o0 q0b q0c = some r) :
    Calls Tryd.prog 53 #[.pointer (some ⟨p0, 0, none⟩)] w fun e w' => ∃ x : Unit, e = .returned (.int .i64 r) ∧ St B (ck0 p0 o0 m0b A0c q0c.length c0c :: Mp (Elt.slice E8) m0b q0b :: Bf (Elt.pair E64 (Elt.slice E8)) 174 A0c c0c q0c :: hs) w' := by
 unfold disk_Disk_Blocks.impl at hr
 refine calls_T Tryd.func53 rfl rfl rfl hS ?_
 refine T.seq ?_
 refine T.region ?_
 refine T.assign .list rfl (wants0 rfl) rfl rfl ?_
 refine T.nil ?_
 refine T.then_normal ?_
 refine T.seq ?_
 refine T.region ?_
 refine T.move .list rfl (wants0 rfl) rfl rfl ?_
 refine T.nilCheck .list rfl (wants0 rfl) rfl rfl ?_
 refine T.field .list rfl (wants0 rfl) rfl rfl ?_
 refine T.load .list 0 rfl rfl (wants0 rfl) rfl rfl rfl ?_
 refine T.assign .list rfl (wants0 rfl) rfl rfl ?_
 refine T.nil ?_
 refine T.then_normal ?_
 refine T.ret ?_
 obtain rfl := inv_some hr
 refine T.pick [0, 1, 2] 3 rfl rfl nla rfl ?_
 refine T.ret1 rfl rfl (fun w hS => ⟨(), rfl, hS⟩)

noncomputable def disk_Disk_Down.impl (o0 : Int × Bool × Int × Int × Int × Int × Int) (q0b : List (Int × (List UInt8))) (q0c : List (Int × (List UInt8))) : Option Bool :=
  some o0.2.1
set_option maxRecDepth 100000 in
set_option maxHeartbeats 4000000 in
theorem disk_Disk_Down.c {B : World} {hs : List MP} {w : World} {p0 : Nat} {o0 : Int × Bool × Int × Int × Int × Int × Int} {m0b : Nat} {q0b : List (Int × (List UInt8))} {c0c : Nat} {A0c : Option Addr} {q0c : List (Int × (List UInt8))} (hB : Base B) (hS : St B (ck0 p0 o0 m0b A0c q0c.length c0c :: Mp (Elt.slice E8) m0b q0b :: Bf (Elt.pair E64 (Elt.slice E8)) 174 A0c c0c q0c :: hs) w) {r : Bool} (hr : disk_Disk_Down.impl o0 q0b q0c = some r) :
    Calls Tryd.prog 54 #[.pointer (some ⟨p0, 0, none⟩)] w fun e w' => ∃ x : Unit, e = .returned (.bool r) ∧ St B (ck0 p0 o0 m0b A0c q0c.length c0c :: Mp (Elt.slice E8) m0b q0b :: Bf (Elt.pair E64 (Elt.slice E8)) 174 A0c c0c q0c :: hs) w' := by
 unfold disk_Disk_Down.impl at hr
 refine calls_T Tryd.func54 rfl rfl rfl hS ?_
 refine T.seq ?_
 refine T.region ?_
 refine T.assign .list rfl (wants0 rfl) rfl rfl ?_
 refine T.nil ?_
 refine T.then_normal ?_
 refine T.seq ?_
 refine T.region ?_
 refine T.move .list rfl (wants0 rfl) rfl rfl ?_
 refine T.nilCheck .list rfl (wants0 rfl) rfl rfl ?_
 refine T.field .list rfl (wants0 rfl) rfl rfl ?_
 refine T.load .list 0 rfl rfl (wants0 rfl) rfl rfl rfl ?_
 refine T.assign .list rfl (wants0 rfl) rfl rfl ?_
 refine T.nil ?_
 refine T.then_normal ?_
 refine T.ret ?_
 obtain rfl := inv_some hr
 refine T.pick [0, 1, 2] 3 rfl rfl nla rfl ?_
 refine T.ret1 rfl rfl (fun w hS => ⟨(), rfl, hS⟩)

noncomputable def disk_Disk_Life.impl (o0 : Int × Bool × Int × Int × Int × Int × Int) (q0b : List (Int × (List UInt8))) (q0c : List (Int × (List UInt8))) : Option Int :=
  some o0.2.2.1
set_option maxRecDepth 100000 in
set_option maxHeartbeats 4000000 in
theorem disk_Disk_Life.c {B : World} {hs : List MP} {w : World} {p0 : Nat} {o0 : Int × Bool × Int × Int × Int × Int × Int} {m0b : Nat} {q0b : List (Int × (List UInt8))} {c0c : Nat} {A0c : Option Addr} {q0c : List (Int × (List UInt8))} (hB : Base B) (hS : St B (ck0 p0 o0 m0b A0c q0c.length c0c :: Mp (Elt.slice E8) m0b q0b :: Bf (Elt.pair E64 (Elt.slice E8)) 174 A0c c0c q0c :: hs) w) {r : Int} (hr : disk_Disk_Life.impl o0 q0b q0c = some r) :
    Calls Tryd.prog 55 #[.pointer (some ⟨p0, 0, none⟩)] w fun e w' => ∃ x : Unit, e = .returned (.int .i64 r) ∧ St B (ck0 p0 o0 m0b A0c q0c.length c0c :: Mp (Elt.slice E8) m0b q0b :: Bf (Elt.pair E64 (Elt.slice E8)) 174 A0c c0c q0c :: hs) w' := by
 unfold disk_Disk_Life.impl at hr
 refine calls_T Tryd.func55 rfl rfl rfl hS ?_
 refine T.seq ?_
 refine T.region ?_
 refine T.assign .list rfl (wants0 rfl) rfl rfl ?_
 refine T.nil ?_
 refine T.then_normal ?_
 refine T.seq ?_
 refine T.region ?_
 refine T.move .list rfl (wants0 rfl) rfl rfl ?_
 refine T.nilCheck .list rfl (wants0 rfl) rfl rfl ?_
 refine T.field .list rfl (wants0 rfl) rfl rfl ?_
 refine T.load .list 0 rfl rfl (wants0 rfl) rfl rfl rfl ?_
 refine T.assign .list rfl (wants0 rfl) rfl rfl ?_
 refine T.nil ?_
 refine T.then_normal ?_
 refine T.ret ?_
 obtain rfl := inv_some hr
 refine T.pick [0, 1, 2] 3 rfl rfl nla rfl ?_
 refine T.ret1 rfl rfl (fun w hS => ⟨(), rfl, hS⟩)

noncomputable def page_zero.impl (l0 : List UInt8) : Option Bool :=
  chk (0 ≤ ((l0.length : Int)) ∧ ((l0.length : Int)) * 1 ≤ 140737488355328) ((bytes_Equal.impl l0 (List.replicate ((l0.length : Int) : Int).toNat (0 : UInt8))).bind fun r1 => some r1)
set_option maxRecDepth 100000 in
set_option maxHeartbeats 4000000 in
theorem page_zero.c {B : World} {hs : List MP} {w : World} {i0 c0 : Nat} {A0 : Option Addr} {l0 : List UInt8} (hB : Base B) (hS : St B hs w) (h0 : (hs)[i0]? = some (Ro E8 A0 c0 l0)) {r : Bool} (hr : page_zero.impl l0 = some r) :
    Calls Tryd.prog 78 #[.slice A0 l0.length c0] w fun e w' => ∃ x : Unit, e = .returned (.bool r) ∧ St B hs w' := by
 unfold page_zero.impl at hr
 refine calls_T Tryd.func78 rfl rfl rfl hS ?_
 refine T.front i0 h0 ?_
 refine T.seq ?_
 refine T.region ?_
 refine T.assign .list rfl (wants0 rfl) rfl rfl ?_
 refine T.nil ?_
 refine T.then_normal ?_
 refine T.seq ?_
 refine T.region ?_
 refine T.move .list rfl (wants0 rfl) rfl rfl ?_
 refine T.move .list rfl (wants0 rfl) rfl rfl ?_
 refine T.lenSlice .list rfl (wants0 rfl) rfl rfl ?_
 obtain ⟨hc1, hr⟩ := inv_chk hr
 refine T.make .list (enc := b8) (h1' := fun _ => rfl) (z0 := (0 : UInt8)) (by rfl) rfl (wants0 rfl) rfl rfl rfl rfl hc1 (fun b1 => ?_)
 obtain ⟨r1, hg1, hr⟩ := inv_bind hr
 refine T.call .list (wants0 rfl) rfl (run_callF (vs := [_, _]) rfl Tryd.func52 rfl (by decide) rfl) (fun w hS => (bytes_Equal.c (hB.up hS) (St.borrow (ros := [Ro E8 A0 c0 l0, Ro E8 (some ⟨b1, 0, none⟩) (((l0.length : Int) : Int).toNat) (List.replicate ((l0.length : Int) : Int).toNat (0 : UInt8))]) (Ros.cons (hS.roRo 1 rfl) (Ros.cons (hS.roBf 0 rfl rfl) Ros.nil))) (i0 := 0) (i1 := 1) rfl rfl hg1).mono fun e w' ⟨x, he, h1⟩ => ⟨x, he, hS.unborrow (post := []) h1 Frees.nil⟩) (fun x1 => ?_)
 refine T.assign .list rfl (wants0 rfl) rfl rfl ?_
 refine T.nil ?_
 refine T.then_normal ?_
 refine T.ret ?_
 obtain rfl := inv_some hr
 refine T.pick [] 2 rfl rfl nla rfl ?_
 refine T.ret1 rfl rfl (fun w hS => ⟨(), rfl, hS⟩)

noncomputable def page_readHead.impl (l0 : List UInt8) (a1 : Int) : Option ((Int × Int) × Bool) :=
  (page_zero.impl l0).bind fun r1 => (if r1 = true then some ((0, 0), true) else none)
set_option maxRecDepth 100000 in
set_option maxHeartbeats 4000000 in
theorem page_readHead.c {B : World} {hs : List MP} {w : World} {i0 c0 : Nat} {A0 : Option Addr} {l0 : List UInt8} {a1 : Int} (hB : Base B) (hS : St B hs w) (h0 : (hs)[i0]? = some (Ro E8 A0 c0 l0)) {r : (Int × Int) × Bool} (hr : page_readHead.impl l0 a1 = some r) :
    Calls Tryd.prog 57 #[.slice A0 l0.length c0, .int .i64 a1] w fun e w' => ∃ x : Unit, e = .returned (.tuple #[.agg #[.int .u64 r.1.1, .int .i64 r.1.2], .bool r.2]) ∧ St B hs w' := by
 unfold page_readHead.impl at hr
 refine calls_T Tryd.func57 rfl rfl rfl hS ?_
 refine T.front i0 h0 ?_
 refine T.seq ?_
 refine T.region ?_
 refine T.allocS .list rfl (wants0 rfl) rfl (cs := [.int .u64 0, .int .i64 0]) rfl (fun b1 => ?_)
 refine T.assign .list rfl (wants0 rfl) rfl rfl ?_
 refine T.nil ?_
 refine T.then_normal ?_
 refine T.seq ?_
 refine T.seq ?_
 refine T.region ?_
 refine T.move .list rfl (wants0 rfl) rfl rfl ?_
 obtain ⟨r1, hg1, hr⟩ := inv_bind hr
 refine T.call .list (wants0 rfl) rfl (run_callF (vs := [_]) rfl Tryd.func78 rfl (by decide) rfl) (fun w hS => page_zero.c hB hS (i0 := 1) rfl hg1) (fun x1 => ?_)
 refine T.nil ?_
 refine T.then_normal ?_
 refine T.cond rfl (fun hb1 => ?_) (fun hb1 => ?_)
 ·replace hr := inv_posB hb1 hr
  refine T.seq ?_
  refine T.region ?_
  refine T.build .list (vals := []) (cells := #[.int .u64 0, .int .i64 0]) rfl (wants0 rfl) rfl rfl (run_buildStruct (sizes := [1, 1]) (by kernel_rfl) (by kernel_rfl)) ?_
  refine T.store .list 0 rfl rfl (wants0 rfl) rfl rfl rfl rfl (Nat.le_of_ble_eq_true rfl) rfl (cs' := [.int .u64 0, .int .i64 0]) rfl rfl ?_
  refine T.assign .list rfl (wants0 rfl) rfl rfl ?_
  refine T.nil ?_
  refine T.then_normal ?_
  refine T.ret ?_
  refine T.then_ret ?_
  obtain rfl := inv_some hr
  refine T.out2 rfl (OutRun.cellN 0 rfl rfl (vs := [.int .u64 0, .int .i64 0]) rfl rfl) (OutRun.tmp rfl) (fun w hS => ⟨(), rfl, hS.pick [] 2 rfl rfl nla rfl⟩)
 ·replace hr := inv_negB hb1 hr
  cases hr

noncomputable def page_Open.k2 (r4 : Int) (r3 : Int) (s1 : Int × Int × Int) (s2 : Bool) : Option ((Option ((Int × Int × Int × Int) × (List (Int × Int)))) × Int) :=
  (if s2 = true then some (none, 22) else some ((some ((IntKind.i64.wrap (r4 - 2), r3, s1.1, s1.2.1), ([] : List (Int × Int)))), 0))
noncomputable def page_Open.k1 (r4 : Int) (r3 : Int) (s1 : Int × Int × Int) : Option ((Option ((Int × Int × Int × Int) × (List (Int × Int)))) × Int) :=
  (if ((decide (s1.2.2 < 0))) = true then page_Open.k2 r4 r3 s1 true else (if ((decide (s1.1 = 0))) = true then page_Open.k2 r4 r3 s1 false else page_Open.k2 r4 r3 s1 (!(decide (((IntKind.i64.wrap (Int.tmod s1.1 2))) = s1.2.2)))))
noncomputable def page_Open.k3 (r7 : (Int × Int) × Bool) (s3 : Int × Int × Int × Int) (s4 : Bool) : Option ((Int × Int × Int × Int) ⊕ (((Option ((Int × Int × Int × Int) × (List (Int × Int)))) × Int) ⊕ (Int × Int × Int))) :=
  (if s4 = true then some (.inl (r7.1.1, r7.1.2, s3.2.2.2, IntKind.i64.wrap (s3.2.2.2 + 1))) else some (.inl (s3.1, s3.2.1, s3.2.2.1, IntKind.i64.wrap (s3.2.2.2 + 1))))
noncomputable def page_Open.st1 (o0 : Int × Bool × Int × Int × Int × Int × Int) (q0b : List (Int × (List UInt8))) (q0c : List (Int × (List UInt8))) (s3 : Int × Int × Int × Int) : Option ((Int × Int × Int × Int) ⊕ (((Option ((Int × Int × Int × Int) × (List (Int × Int)))) × Int) ⊕ (Int × Int × Int))) :=
  (if ((decide (s3.2.2.2 < 2))) = true then (disk_Disk_Read.impl o0 q0b q0c s3.2.2.2).bind fun r5 => (if ((!(decide (r5.2 = 0)))) = true then some (.inr (.inl (none, r5.2))) else (disk_Disk_Blocks.impl o0 q0b q0c).bind fun r6 => (page_readHead.impl r5.1 r6).bind fun r7 => (if r7.2 = true then (if ((decide (s3.2.2.1 < 0))) = true then page_Open.k3 r7 s3 true else page_Open.k3 r7 s3 (decide (s3.1 < r7.1.1))) else page_Open.k3 r7 s3 false)) else some (.inr (.inr (s3.1, s3.2.1, s3.2.2.1))))
noncomputable def page_Open.impl (o0 : Int × Bool × Int × Int × Int × Int × Int) (q0b : List (Int × (List UInt8))) (q0c : List (Int × (List UInt8))) : Option ((Option ((Int × Int × Int × Int) × (List (Int × Int)))) × Int) :=
  (disk_Disk_Blocks.impl o0 q0b q0c).bind fun r1 => (if ((decide (r1 ≤ 2))) = true then some (none, 1) else (disk_Disk_Down.impl o0 q0b q0c).bind fun r2 => (if r2 = true then some (none, 20) else (disk_Disk_Life.impl o0 q0b q0c).bind fun r3 => (disk_Disk_Blocks.impl o0 q0b q0c).bind fun r4 => (loop (page_Open.st1 o0 q0b q0c) (0, 0, -1, 0)).bind (fun e1 => match e1 with | .inl v => some v | .inr v => page_Open.k1 r4 r3 v)))
set_option maxRecDepth 100000 in
set_option maxHeartbeats 4000000 in
theorem page_Open.c {B : World} {hs : List MP} {w : World} {p0 : Nat} {o0 : Int × Bool × Int × Int × Int × Int × Int} {m0b : Nat} {q0b : List (Int × (List UInt8))} {c0c : Nat} {A0c : Option Addr} {q0c : List (Int × (List UInt8))} (hB : Base B) (hS : St B (ck0 p0 o0 m0b A0c q0c.length c0c :: Mp (Elt.slice E8) m0b q0b :: Bf (Elt.pair E64 (Elt.slice E8)) 174 A0c c0c q0c :: hs) w) {r : (Option ((Int × Int × Int × Int) × (List (Int × Int)))) × Int} (hr : page_Open.impl o0 q0b q0c = some r) :
    Calls Tryd.prog 34 #[.pointer (some ⟨p0, 0, none⟩)] w fun e w' => ∃ x : Nat × (Nat), e = .returned (.tuple #[optp r.1 x.1, .int .i64 r.2]) ∧ St B (ck0 p0 o0 m0b A0c q0c.length c0c :: Mp (Elt.slice E8) m0b q0b :: Bf (Elt.pair E64 (Elt.slice E8)) 174 A0c c0c q0c :: ((optc r.1 (fun v => [ck1 x.1 v.1 x.2 p0, Mp E64 x.2 v.2])) ++ hs)) w' := by
 unfold page_Open.impl at hr
 refine calls_T Tryd.func34 rfl rfl rfl hS ?_
 refine T.seq ?_
 refine T.region ?_
 refine T.assign .list rfl (wants0 rfl) rfl rfl ?_
 refine T.assign .list rfl (wants0 rfl) rfl rfl ?_
 refine T.nil ?_
 refine T.then_normal ?_
 refine T.seq ?_
 refine T.block ?_
 refine T.seq ?_
 refine T.region ?_
 refine T.move .list rfl (wants0 rfl) rfl rfl ?_
 refine T.ptrEq (pt := 68) .list rfl (wants0 rfl) rfl rfl rfl (by kernel_rfl) (.inr rfl) rfl ?_
 refine T.move .list rfl (wants0 rfl) rfl rfl ?_
 refine T.move .list rfl (wants1 rfl rfl rfl rfl) rfl rfl ?_
 refine T.pick [0, 1, 2] 3 rfl rfl nla (hs' := ck0 p0 o0 m0b A0c q0c.length c0c :: Mp (Elt.slice E8) m0b q0b :: Bf (Elt.pair E64 (Elt.slice E8)) 174 A0c c0c q0c :: hs) rfl ?_
 obtain ⟨r1, hg1, hr⟩ := inv_bind hr
 refine T.call .list (wants1 rfl rfl rfl rfl) rfl (run_callF (vs := [_]) rfl Tryd.func53 rfl (by decide) rfl) (fun w hS => disk_Disk_Blocks.c hB hS (o0 := o0) (q0b := q0b) (q0c := q0c)  hg1) (fun x1 => ?_)
 refine T.bin .list rfl (wants1 rfl rfl rfl rfl) rfl rfl rfl rfl ?_
 refine T.pickF .list rfl (wants0 rfl) rfl rfl rfl rfl ?_
 refine T.assign .list rfl (wants0 rfl) rfl rfl ?_
 refine T.nil ?_
 refine T.then_normal ?_
 refine T.cond rfl (fun hb1 => ?_) (fun hb1 => ?_)
 ·replace hr := inv_posB hb1 hr
  refine T.seq ?_
  refine T.region ?_
  refine T.assign .list rfl (wants0 rfl) rfl rfl ?_
  refine T.assign .list rfl (wants0 rfl) rfl rfl ?_
  refine T.nil ?_
  refine T.then_normal ?_
  refine T.ret ?_
  refine T.in_ret ?_
  refine T.then_ret ?_
  obtain rfl := inv_some hr
  refine T.pick [0, 1, 2] 3 rfl rfl nla rfl ?_
  refine T.ret2 rfl rfl rfl (fun w hS => ⟨(0, 0), rfl, hS⟩)
 ·replace hr := inv_negB hb1 hr
  refine T.seq ?_
  refine T.region ?_
  refine T.move .list rfl (wants0 rfl) rfl rfl ?_
  refine T.pick [0, 1, 2] 3 rfl rfl nla (hs' := ck0 p0 o0 m0b A0c q0c.length c0c :: Mp (Elt.slice E8) m0b q0b :: Bf (Elt.pair E64 (Elt.slice E8)) 174 A0c c0c q0c :: hs) rfl ?_
  obtain ⟨r2, hg2, hr⟩ := inv_bind hr
  refine T.call .list (wants0 rfl) rfl (run_callF (vs := [_]) rfl Tryd.func54 rfl (by decide) rfl) (fun w hS => disk_Disk_Down.c hB hS (o0 := o0) (q0b := q0b) (q0c := q0c)  hg2) (fun x2 => ?_)
  refine T.assign .list rfl (wants0 rfl) rfl rfl ?_
  refine T.nil ?_
  refine T.then_normal ?_
  refine T.cond rfl (fun hb2 => ?_) (fun hb2 => ?_)
  ·replace hr := inv_posB hb2 hr
   refine T.seq ?_
   refine T.region ?_
   refine T.assign .list rfl (wants0 rfl) rfl rfl ?_
   refine T.assign .list rfl (wants0 rfl) rfl rfl ?_
   refine T.nil ?_
   refine T.then_normal ?_
   refine T.ret ?_
   refine T.in_ret ?_
   refine T.then_ret ?_
   obtain rfl := inv_some hr
   refine T.pick [0, 1, 2] 3 rfl rfl nla rfl ?_
   refine T.ret2 rfl rfl rfl (fun w hS => ⟨(0, 0), rfl, hS⟩)
  ·replace hr := inv_negB hb2 hr
   refine T.skip ?_
   refine T.in_normal ?_
   refine T.then_normal ?_
   refine T.seq ?_
   refine T.region ?_
   refine T.move .list rfl (wants0 rfl) rfl rfl ?_
   refine T.move .list rfl (wants0 rfl) rfl rfl ?_
   refine T.pick [0, 1, 2] 3 rfl rfl nla (hs' := ck0 p0 o0 m0b A0c q0c.length c0c :: Mp (Elt.slice E8) m0b q0b :: Bf (Elt.pair E64 (Elt.slice E8)) 174 A0c c0c q0c :: hs) rfl ?_
   obtain ⟨r3, hg3, hr⟩ := inv_bind hr
   refine T.call .list (wants0 rfl) rfl (run_callF (vs := [_]) rfl Tryd.func55 rfl (by decide) rfl) (fun w hS => disk_Disk_Life.c hB hS (o0 := o0) (q0b := q0b) (q0c := q0c)  hg3) (fun x3 => ?_)
   refine T.move .list rfl (wants0 rfl) rfl rfl ?_
   refine T.pick [0, 1, 2] 3 rfl rfl nla (hs' := ck0 p0 o0 m0b A0c q0c.length c0c :: Mp (Elt.slice E8) m0b q0b :: Bf (Elt.pair E64 (Elt.slice E8)) 174 A0c c0c q0c :: hs) rfl ?_
   obtain ⟨r4, hg4, hr⟩ := inv_bind hr
   refine T.call .list (wants0 rfl) rfl (run_callF (vs := [_]) rfl Tryd.func53 rfl (by decide) rfl) (fun w hS => disk_Disk_Blocks.c hB hS (o0 := o0) (q0b := q0b) (q0c := q0c)  hg4) (fun x4 => ?_)
   refine T.bin .list rfl (wants0 rfl) rfl rfl rfl rfl ?_
   refine T.makeMap E64 .list rfl (wants0 rfl) rfl (fun b1 => ?_)
   refine T.build .list (vals := [(0, .int .i64 (IntKind.i64.wrap (r4 - 2))), (1, .map (some b1))]) (cells := #[.int .i64 (IntKind.i64.wrap (r4 - 2)), .map (some b1)]) rfl (wants0 rfl) rfl rfl (run_buildStruct (sizes := [1, 1]) (by kernel_rfl) (by kernel_rfl)) ?_
   refine T.build .list (vals := [(1, .pointer (some ⟨p0, 0, none⟩)), (2, .int .i64 r3), (0, .agg #[.int .i64 (IntKind.i64.wrap (r4 - 2)), .map (some b1)])]) (cells := #[.int .i64 (IntKind.i64.wrap (r4 - 2)), .map (some b1), .pointer (some ⟨p0, 0, none⟩), .int .i64 r3, .int .u64 0, .int .i64 0]) rfl (wants0 rfl) rfl rfl (run_buildStruct (sizes := [2, 1, 1, 2]) (by kernel_rfl) (by kernel_rfl)) ?_
   refine T.boxS .list rfl (wants0 rfl) rfl rfl (cs := [.int .i64 (IntKind.i64.wrap (r4 - 2)), .map (some b1), .pointer (some ⟨p0, 0, none⟩), .int .i64 r3, .int .u64 0, .int .i64 0]) rfl (fun b2 => ?_)
   refine T.assign .list rfl (wants0 rfl) rfl rfl ?_
   refine T.nil ?_
   refine T.then_normal ?_
   refine T.seq ?_
   refine T.region ?_
   refine T.assign .list rfl (wants0 rfl) rfl rfl ?_
   refine T.nil ?_
   refine T.then_normal ?_
   refine T.seqJ (fun (s1 : Int × Int × Int) (x5 : Unit) => [(4, .pointer (some ⟨b2, 0, none⟩)), (5, .int .i64 s1.2.2)]) (fun s1 x5 => Cl b2 134 [.int .i64 (IntKind.i64.wrap (r4 - 2)), .map (some b1), .pointer (some ⟨p0, 0, none⟩), .int .i64 r3, .int .u64 s1.1, .int .i64 s1.2.1] :: Mp E64 b1 (([] : List (Int × Int))) :: ck0 p0 o0 m0b A0c q0c.length c0c :: Mp (Elt.slice E8) m0b q0b :: Bf (Elt.pair E64 (Elt.slice E8)) 174 A0c c0c q0c :: hs) (fun s1 => page_Open.k1 r4 r3 s1 = some r) (fun s1 x5 hk1 => ?_) (fun J1 => ?_)
   ·unfold page_Open.k1 at hk1
    refine T.seq ?_
    refine T.seqJ (fun (s2 : Bool) (x6 : Unit) => [(4, .pointer (some ⟨b2, 0, none⟩)), (92, .bool s2)]) (fun s2 x6 => Cl b2 134 [.int .i64 (IntKind.i64.wrap (r4 - 2)), .map (some b1), .pointer (some ⟨p0, 0, none⟩), .int .i64 r3, .int .u64 s1.1, .int .i64 s1.2.1] :: Mp E64 b1 (([] : List (Int × Int))) :: ck0 p0 o0 m0b A0c q0c.length c0c :: Mp (Elt.slice E8) m0b q0b :: Bf (Elt.pair E64 (Elt.slice E8)) 174 A0c c0c q0c :: hs) (fun s2 => page_Open.k2 r4 r3 s1 s2 = some r) (fun s2 x6 hk2 => ?_) (fun J2 => ?_)
    ·unfold page_Open.k2 at hk2
     refine T.cond rfl (fun hb3 => ?_) (fun hb3 => ?_)
     ·replace hk2 := inv_posB hb3 hk2
      refine T.seq ?_
      refine T.region ?_
      refine T.assign .list rfl (wants0 rfl) rfl rfl ?_
      refine T.assign .list rfl (wants0 rfl) rfl rfl ?_
      refine T.nil ?_
      refine T.then_normal ?_
      refine T.ret ?_
      refine T.then_ret ?_
      obtain rfl := inv_some hk2
      refine T.pick [2, 3, 4] 5 rfl rfl nla rfl ?_
      refine T.ret2 rfl rfl rfl (fun w hS => ⟨(0, 0), rfl, hS⟩)
     ·replace hk2 := inv_negB hb3 hk2
      refine T.skip ?_
      refine T.then_normal ?_
      refine T.seq ?_
      refine T.region ?_
      refine T.move .list rfl (wants0 rfl) rfl rfl ?_
      refine T.assign .list rfl (wants0 rfl) rfl rfl ?_
      refine T.assign .list rfl (wants0 rfl) rfl rfl ?_
      refine T.nil ?_
      refine T.then_normal ?_
      refine T.ret ?_
      obtain rfl := inv_some hk2
      refine T.pick [2, 3, 4, 0, 1] 5 rfl rfl nla rfl ?_
      refine T.ret2 rfl rfl rfl (fun w hS => ⟨(b2, b1), rfl, hS⟩)
    ·refine T.region ?_
     refine T.move .list rfl (wants0 rfl) rfl rfl ?_
     refine T.bin .list rfl (wants0 rfl) rfl rfl rfl rfl ?_
     refine T.move .list rfl (wants0 rfl) rfl rfl ?_
     refine T.bool (b := (decide (s1.2.2 < 0))) (fun hb4 => ?_) (fun hb4 => ?_)
     ·replace hk1 := inv_posB hb4 hk1
      refine T.leave .list (wantsNot rfl rfl rfl hb4) rfl ?_
      refine T.leave .list (wantsNot rfl rfl rfl hb4) rfl ?_
      refine T.leave .list (wantsNot rfl rfl rfl hb4) rfl ?_
      refine T.leave .list (wantsNot rfl rfl rfl hb4) rfl ?_
      refine T.leave .list (wantsNot rfl rfl rfl hb4) rfl ?_
      refine T.leave .list (wantsNot rfl rfl rfl hb4) rfl ?_
      refine T.leave .list (wantsNot rfl rfl rfl hb4) rfl ?_
      refine T.leave .list (wantsUndef rfl rfl rfl) rfl ?_
      refine T.leave .list (wantsUndef rfl rfl rfl) rfl ?_
      refine T.leave .list (wantsUndef rfl rfl rfl) rfl ?_
      refine T.leave .list (wantsUndef rfl rfl rfl) rfl ?_
      refine T.leave .list (wantsUndef rfl rfl rfl) rfl ?_
      refine T.leave .list (wantsUndef rfl rfl rfl) rfl ?_
      refine T.leave .list (wantsUndef rfl rfl rfl) rfl ?_
      refine T.leave .list (wantsUndef rfl rfl rfl) rfl ?_
      refine T.leave .list (wantsUndef rfl rfl rfl) rfl ?_
      refine T.leave .list (wantsNot rfl rfl rfl hb4) rfl ?_
      refine T.pickT .list rfl (wants0 rfl) rfl rfl hb4 rfl ?_
      refine T.nil ?_
      refine T.then_normal ?_
      exact T.le (EnvLe.cons rfl (EnvLe.cons rfl EnvLe.nil)) (T.pick [0, 1, 2, 3, 4] 5 rfl rfl nla rfl (J2 true () hk1))
     ·replace hk1 := inv_negB hb4 hk1
      refine T.move .list rfl (wants1 rfl rfl rfl hb4) rfl rfl ?_
      refine T.nilCheck .list rfl (wants1 rfl rfl rfl hb4) rfl rfl ?_
      refine T.field .list rfl (wants1 rfl rfl rfl hb4) rfl rfl ?_
      refine T.field .list rfl (wants1 rfl rfl rfl hb4) rfl rfl ?_
      refine T.load .list 0 rfl rfl (wants1 rfl rfl rfl hb4) rfl rfl rfl ?_
      refine T.bin .list rfl (wants1 rfl rfl rfl hb4) rfl rfl rfl rfl ?_
      refine T.move .list rfl (wants1 rfl rfl rfl hb4) rfl rfl ?_
      refine T.bool (b := (decide (s1.1 = 0))) (fun hb5 => ?_) (fun hb5 => ?_)
      ·replace hk1 := inv_posB hb5 hk1
       refine T.leave .list (wantsNot rfl rfl rfl (not_t hb5)) rfl ?_
       refine T.leave .list (wantsNot rfl rfl rfl (not_t hb5)) rfl ?_
       refine T.leave .list (wantsNot rfl rfl rfl (not_t hb5)) rfl ?_
       refine T.leave .list (wantsNot rfl rfl rfl (not_t hb5)) rfl ?_
       refine T.leave .list (wantsNot rfl rfl rfl (not_t hb5)) rfl ?_
       refine T.leave .list (wantsNot rfl rfl rfl (not_t hb5)) rfl ?_
       refine T.leave .list (wantsNot rfl rfl rfl (not_t hb5)) rfl ?_
       refine T.leave .list (wantsNot rfl rfl rfl (not_t hb5)) rfl ?_
       refine T.leave .list (wantsNot rfl rfl rfl (not_t hb5)) rfl ?_
       refine T.pickF .list rfl (wants1 rfl rfl rfl hb4) rfl rfl (not_t hb5) rfl ?_
       refine T.pickF .list rfl (wants0 rfl) rfl rfl hb4 rfl ?_
       refine T.nil ?_
       refine T.then_normal ?_
       exact T.le (EnvLe.cons rfl (EnvLe.cons rfl EnvLe.nil)) (T.pick [0, 1, 2, 3, 4] 5 rfl rfl nla rfl (J2 false () hk1))
      ·replace hk1 := inv_negB hb5 hk1
       refine T.move .list rfl (wants1 rfl rfl rfl (not_f hb5)) rfl rfl ?_
       refine T.nilCheck .list rfl (wants1 rfl rfl rfl (not_f hb5)) rfl rfl ?_
       refine T.field .list rfl (wants1 rfl rfl rfl (not_f hb5)) rfl rfl ?_
       refine T.field .list rfl (wants1 rfl rfl rfl (not_f hb5)) rfl rfl ?_
       refine T.load .list 0 rfl rfl (wants1 rfl rfl rfl (not_f hb5)) rfl rfl rfl ?_
       refine T.rem .list rfl (wants1 rfl rfl rfl (not_f hb5)) rfl rfl rfl (by decide) ?_
       refine T.conv .list rfl (wants1 rfl rfl rfl (not_f hb5)) rfl rfl rfl ?_
       refine T.move .list rfl (wants1 rfl rfl rfl (not_f hb5)) rfl rfl ?_
       refine T.bin .list rfl (wants1 rfl rfl rfl (not_f hb5)) rfl rfl rfl rfl ?_
       refine T.pickT .list rfl (wants1 rfl rfl rfl hb4) rfl rfl (not_f hb5) rfl ?_
       refine T.pickF .list rfl (wants0 rfl) rfl rfl hb4 rfl ?_
       refine T.nil ?_
       refine T.then_normal ?_
       exact T.le (EnvLe.cons rfl (EnvLe.cons rfl EnvLe.nil)) (T.pick [0, 1, 2, 3, 4] 5 rfl rfl nla rfl (J2 (!(decide (((IntKind.i64.wrap (Int.tmod s1.1 2))) = s1.2.2))) () hk1))
   ·refine T.seq ?_
    refine T.region ?_
    refine T.move .list rfl (wants0 rfl) rfl rfl ?_
    refine T.nil ?_
    refine T.then_normal ?_
    refine T.block ?_
    obtain ⟨e1, hl1, hr⟩ := inv_bind hr
    refine T.le (EnvLe.cons rfl (EnvLe.cons rfl (EnvLe.cons rfl (EnvLe.cons rfl EnvLe.nil)))) (T.pick [2, 3, 4, 0, 1] 5 rfl rfl nla rfl (T.loop (s0 := (0, 0, -1, 0)) (env := fun s3 x7 => [(0, .pointer (some ⟨p0, 0, none⟩)), (4, .pointer (some ⟨b2, 0, none⟩)), (5, .int .i64 s3.2.2.1), (32, .int .i64 s3.2.2.2)]) (hs := fun (s3 : Int × Int × Int × Int) (x7 : Unit) => ck0 p0 o0 m0b A0c q0c.length c0c :: Mp (Elt.slice E8) m0b q0b :: Bf (Elt.pair E64 (Elt.slice E8)) 174 A0c c0c q0c :: Cl b2 134 [.int .i64 (IntKind.i64.wrap (r4 - 2)), .map (some b1), .pointer (some ⟨p0, 0, none⟩), .int .i64 r3, .int .u64 s3.1, .int .i64 s3.2.1] :: Mp E64 b1 (([] : List (Int × Int))) :: hs) hl1 () (fun K1 s3 x7 o1 he1 hm1 hx1 => ?_)))
    unfold page_Open.st1 at he1
    refine T.seq ?_
    refine T.region ?_
    refine T.bin .list rfl (wants0 rfl) rfl rfl rfl rfl ?_
    refine T.nil ?_
    refine T.then_normal ?_
    refine T.seq ?_
    refine T.cond rfl (fun hb6 => ?_) (fun hb6 => ?_)
    ·replace he1 := inv_posB hb6 he1
     refine T.skip ?_
     refine T.then_normal ?_
     refine T.seq ?_
     refine T.block ?_
     refine T.seq ?_
     refine T.region ?_
     refine T.move .list rfl (wants0 rfl) rfl rfl ?_
     refine T.assign .list rfl (wants0 rfl) rfl rfl ?_
     refine T.nil ?_
     refine T.then_normal ?_
     refine T.seq ?_
     refine T.region ?_
     refine T.move .list rfl (wants0 rfl) rfl rfl ?_
     refine T.move .list rfl (wants0 rfl) rfl rfl ?_
     refine T.pick [0, 1, 2, 3, 4] 5 rfl rfl nla (hs' := ck0 p0 o0 m0b A0c q0c.length c0c :: Mp (Elt.slice E8) m0b q0b :: Bf (Elt.pair E64 (Elt.slice E8)) 174 A0c c0c q0c :: Cl b2 134 [.int .i64 (IntKind.i64.wrap (r4 - 2)), .map (some b1), .pointer (some ⟨p0, 0, none⟩), .int .i64 r3, .int .u64 s3.1, .int .i64 s3.2.1] :: Mp E64 b1 (([] : List (Int × Int))) :: hs) rfl ?_
     obtain ⟨r5, hg5, he1⟩ := inv_bind he1
     refine T.call .list (wants0 rfl) rfl (run_callF (vs := [_, _]) rfl Tryd.func56 rfl (by decide) rfl) (fun w hS => disk_Disk_Read.c hB hS (o0 := o0) (q0b := q0b) (q0c := q0c)  hg5) (fun x8 => ?_)
     refine T.move .list rfl (wants0 rfl) rfl rfl ?_
     refine T.extract .list rfl (wants0 rfl) rfl rfl rfl ?_
     refine T.extract .list rfl (wants0 rfl) rfl rfl rfl ?_
     refine T.assign .list rfl (wants0 rfl) rfl rfl ?_
     refine T.assign .list rfl (wants0 rfl) rfl rfl ?_
     refine T.nil ?_
     refine T.then_normal ?_
     refine T.seq ?_
     refine T.seq ?_
     refine T.region ?_
     refine T.move .list rfl (wants0 rfl) rfl rfl ?_
     refine T.bin .list rfl (wants0 rfl) rfl rfl rfl rfl ?_
     refine T.nil ?_
     refine T.then_normal ?_
     refine T.cond rfl (fun hb7 => ?_) (fun hb7 => ?_)
     ·replace he1 := inv_posB hb7 he1
      refine T.seq ?_
      refine T.region ?_
      refine T.move .list rfl (wants0 rfl) rfl rfl ?_
      refine T.assign .list rfl (wants0 rfl) rfl rfl ?_
      refine T.assign .list rfl (wants0 rfl) rfl rfl ?_
      refine T.nil ?_
      refine T.then_normal ?_
      refine T.ret ?_
      refine T.then_ret ?_
      refine T.in_ret ?_
      refine T.then_ret ?_
      refine T.then_ret ?_
      obtain rfl := inv_some he1
      obtain rfl := hx1 _ rfl
      refine T.in_ret ?_
      refine T.then_ret ?_
      obtain rfl := inv_some hr
      refine T.pick [1, 2, 3] 6 rfl rfl nla rfl ?_
      refine T.ret2 rfl rfl rfl (fun w hS => ⟨(0, 0), rfl, hS⟩)
     ·replace he1 := inv_negB hb7 he1
      refine T.skip ?_
      refine T.then_normal ?_
      refine T.seq ?_
      refine T.region ?_
      refine T.move .list rfl (wants0 rfl) rfl rfl ?_
      refine T.move .list rfl (wants0 rfl) rfl rfl ?_
      refine T.pick [1, 2, 3, 0, 4, 5] 6 rfl rfl nla (hs' := ck0 p0 o0 m0b A0c q0c.length c0c :: Mp (Elt.slice E8) m0b q0b :: Bf (Elt.pair E64 (Elt.slice E8)) 174 A0c c0c q0c :: Bf E8 5 x8.1 x8.2 r5.1 :: Cl b2 134 [.int .i64 (IntKind.i64.wrap (r4 - 2)), .map (some b1), .pointer (some ⟨p0, 0, none⟩), .int .i64 r3, .int .u64 s3.1, .int .i64 s3.2.1] :: Mp E64 b1 (([] : List (Int × Int))) :: hs) rfl ?_
      obtain ⟨r6, hg6, he1⟩ := inv_bind he1
      refine T.call .list (wants0 rfl) rfl (run_callF (vs := [_]) rfl Tryd.func53 rfl (by decide) rfl) (fun w hS => disk_Disk_Blocks.c hB hS (o0 := o0) (q0b := q0b) (q0c := q0c)  hg6) (fun x9 => ?_)
      obtain ⟨r7, hg7, he1⟩ := inv_bind he1
      refine T.call .list (wants0 rfl) rfl (run_callF (vs := [_, _]) rfl Tryd.func57 rfl (by decide) rfl) (fun w hS => (page_readHead.c (hB.up hS) (St.borrow (ros := [Ro E8 x8.1 x8.2 r5.1]) (Ros.cons (hS.roBf 3 rfl rfl) Ros.nil)) (i0 := 0) rfl hg7).mono fun e w' ⟨x, he, h1⟩ => ⟨x, he, hS.unborrow (post := []) h1 Frees.nil⟩) (fun x10 => ?_)
      refine T.move .list rfl (wants0 rfl) rfl rfl ?_
      refine T.extract .list rfl (wants0 rfl) rfl rfl rfl ?_
      refine T.extract .list rfl (wants0 rfl) rfl rfl rfl ?_
      refine T.allocS .list rfl (wants0 rfl) rfl (cs := [.int .u64 0, .int .i64 0]) rfl (fun b3 => ?_)
      refine T.store .list 0 rfl rfl (wants0 rfl) rfl rfl rfl rfl (Nat.le_of_ble_eq_true rfl) rfl (cs' := [.int .u64 r7.1.1, .int .i64 r7.1.2]) rfl rfl ?_
      refine T.assign .list rfl (wants0 rfl) rfl rfl ?_
      refine T.nil ?_
      refine T.then_normal ?_
      refine T.seqJ (fun (s4 : Bool) (x11 : Unit) => [(0, .pointer (some ⟨p0, 0, none⟩)), (4, .pointer (some ⟨b2, 0, none⟩)), (5, .int .i64 s3.2.2.1), (6, .int .i64 s3.2.2.2), (9, .pointer (some ⟨b3, 0, none⟩)), (32, .int .i64 s3.2.2.2), (65, .bool s4)]) (fun s4 x11 => ck0 p0 o0 m0b A0c q0c.length c0c :: Mp (Elt.slice E8) m0b q0b :: Bf (Elt.pair E64 (Elt.slice E8)) 174 A0c c0c q0c :: Cl b2 134 [.int .i64 (IntKind.i64.wrap (r4 - 2)), .map (some b1), .pointer (some ⟨p0, 0, none⟩), .int .i64 r3, .int .u64 s3.1, .int .i64 s3.2.1] :: Mp E64 b1 (([] : List (Int × Int))) :: Cl b3 132 [.int .u64 r7.1.1, .int .i64 r7.1.2] :: hs) (fun s4 => page_Open.k3 r7 s3 s4 = some o1) (fun s4 x11 hk3 => ?_) (fun J3 => ?_)
      ·unfold page_Open.k3 at hk3
       refine T.cond rfl (fun hb8 => ?_) (fun hb8 => ?_)
       ·replace hk3 := inv_posB hb8 hk3
        refine T.region ?_
        refine T.move .list rfl (wants0 rfl) rfl rfl ?_
        refine T.loadN .list 5 rfl rfl (wants0 rfl) rfl rfl (vs := [.int .u64 r7.1.1, .int .i64 r7.1.2]) rfl rfl ?_
        refine T.move .list rfl (wants0 rfl) rfl rfl ?_
        refine T.nilCheck .list rfl (wants0 rfl) rfl rfl ?_
        refine T.field .list rfl (wants0 rfl) rfl rfl ?_
        refine T.store .list 3 rfl rfl (wants0 rfl) rfl rfl rfl rfl (Nat.le_of_ble_eq_true rfl) rfl (cs' := [.int .i64 (IntKind.i64.wrap (r4 - 2)), .map (some b1), .pointer (some ⟨p0, 0, none⟩), .int .i64 r3, .int .u64 r7.1.1, .int .i64 r7.1.2]) rfl rfl ?_
        refine T.assign .list rfl (wants0 rfl) rfl rfl ?_
        refine T.nil ?_
        refine T.in_normal ?_
        refine T.then_normal ?_
        refine T.region ?_
        refine T.bin .list rfl (wants0 rfl) rfl rfl rfl rfl ?_
        refine T.move .list rfl (wants0 rfl) rfl rfl ?_
        refine T.nil ?_
        refine T.then_normal ?_
        obtain rfl := inv_some hk3
        exact T.le (EnvLe.cons rfl (EnvLe.cons rfl (EnvLe.cons rfl (EnvLe.cons rfl EnvLe.nil)))) (T.pick [0, 1, 2, 3, 4] 6 rfl rfl nla rfl (hm1 (r7.1.1, r7.1.2, s3.2.2.2, IntKind.i64.wrap (s3.2.2.2 + 1)) rfl ()))
       ·replace hk3 := inv_negB hb8 hk3
        refine T.skip ?_
        refine T.in_normal ?_
        refine T.then_normal ?_
        refine T.region ?_
        refine T.bin .list rfl (wants0 rfl) rfl rfl rfl rfl ?_
        refine T.move .list rfl (wants0 rfl) rfl rfl ?_
        refine T.nil ?_
        refine T.then_normal ?_
        obtain rfl := inv_some hk3
        exact T.le (EnvLe.cons rfl (EnvLe.cons rfl (EnvLe.cons rfl (EnvLe.cons rfl EnvLe.nil)))) (T.pick [0, 1, 2, 3, 4] 6 rfl rfl nla rfl (hm1 (s3.1, s3.2.1, s3.2.2.1, IntKind.i64.wrap (s3.2.2.2 + 1)) rfl ()))
      ·refine T.plan [(0, 0), (1, 0), (2, 0), (3, 0), (4, 0), (5, 0), (7, 0), (8, 0), (9, 0), (10, 0), (6, 1), (11, 1), (12, 0), (13, 0), (14, 0)] mixed (by kernel_rfl) (by kernel_rfl) rfl (fun d _ _ _ _ h => by cases d <;> exact h) ?_
       refine T.move (.plan rfl) rfl (wants0 rfl) rfl rfl ?_
       refine T.move (.plan rfl) rfl (wants0 rfl) rfl rfl ?_
       refine T.bool (b := r7.2) (fun hb9 => ?_) (fun hb9 => ?_)
       ·replace he1 := inv_posB hb9 he1
        refine T.move (.plan rfl) rfl (wants1 rfl rfl rfl hb9) rfl rfl ?_
        refine T.bin (.plan rfl) rfl (wants1 rfl rfl rfl hb9) rfl rfl rfl rfl ?_
        refine T.move (.plan rfl) rfl (wants1 rfl rfl rfl hb9) rfl rfl ?_
        refine T.bool (b := (decide (s3.2.2.1 < 0))) (fun hb10 => ?_) (fun hb10 => ?_)
        ·replace he1 := inv_posB hb10 he1
         refine T.leave (.plan rfl) (wantsNot rfl rfl rfl hb10) rfl ?_
         refine T.leave (.plan rfl) (wantsNot rfl rfl rfl hb10) rfl ?_
         refine T.leave (.plan rfl) (wantsNot rfl rfl rfl hb10) rfl ?_
         refine T.leave (.plan rfl) (wantsNot rfl rfl rfl hb10) rfl ?_
         refine T.leave (.plan rfl) (wantsNot rfl rfl rfl hb10) rfl ?_
         refine T.leave (.plan rfl) (wantsNot rfl rfl rfl hb10) rfl ?_
         refine T.leave (.plan rfl) (wantsNot rfl rfl rfl hb10) rfl ?_
         refine T.leave (.plan rfl) (wantsNot rfl rfl rfl hb10) rfl ?_
         refine T.pickT (.plan rfl) rfl (wants1 rfl rfl rfl hb9) rfl rfl hb10 rfl ?_
         refine T.pickT (.plan rfl) rfl (wants0 rfl) rfl rfl hb9 rfl ?_
         refine T.planEnd ?_
         refine T.then_normal ?_
         exact T.le (EnvLe.cons rfl (EnvLe.cons rfl (EnvLe.cons rfl (EnvLe.cons rfl (EnvLe.cons rfl (EnvLe.cons rfl (EnvLe.cons rfl EnvLe.nil))))))) (T.pick [1, 2, 3, 5, 6, 0] 7 rfl rfl nla rfl (J3 true () he1))
        ·replace he1 := inv_negB hb10 he1
         refine T.field (.plan rfl) rfl (wants1 rfl rfl rfl hb10) rfl rfl ?_
         refine T.move (.plan rfl) rfl (wants1 rfl rfl rfl hb10) rfl rfl ?_
         refine T.nilCheck (.plan rfl) rfl (wants1 rfl rfl rfl hb10) rfl rfl ?_
         refine T.field (.plan rfl) rfl (wants1 rfl rfl rfl hb10) rfl rfl ?_
         refine T.field (.plan rfl) rfl (wants1 rfl rfl rfl hb10) rfl rfl ?_
         refine T.load (.plan rfl) 0 rfl rfl (wants1 rfl rfl rfl hb10) rfl rfl rfl ?_
         refine T.load (.plan rfl) 5 rfl rfl (wants1 rfl rfl rfl hb10) rfl rfl rfl ?_
         refine T.bin (.plan rfl) rfl (wants1 rfl rfl rfl hb10) rfl rfl rfl rfl ?_
         refine T.pickF (.plan rfl) rfl (wants1 rfl rfl rfl hb9) rfl rfl hb10 rfl ?_
         refine T.pickT (.plan rfl) rfl (wants0 rfl) rfl rfl hb9 rfl ?_
         refine T.planEnd ?_
         refine T.then_normal ?_
         exact T.le (EnvLe.cons rfl (EnvLe.cons rfl (EnvLe.cons rfl (EnvLe.cons rfl (EnvLe.cons rfl (EnvLe.cons rfl (EnvLe.cons rfl EnvLe.nil))))))) (T.pick [1, 2, 3, 5, 6, 0] 7 rfl rfl nla rfl (J3 (decide (s3.1 < r7.1.1)) () he1))
       ·replace he1 := inv_negB hb9 he1
        refine T.leave (.plan rfl) (wantsNot rfl rfl rfl hb9) rfl ?_
        refine T.leave (.plan rfl) (wantsNot rfl rfl rfl hb9) rfl ?_
        refine T.leave (.plan rfl) (wantsNot rfl rfl rfl hb9) rfl ?_
        refine T.leave (.plan rfl) (wantsUndef rfl rfl rfl) rfl ?_
        refine T.leave (.plan rfl) (wantsUndef rfl rfl rfl) rfl ?_
        refine T.leave (.plan rfl) (wantsUndef rfl rfl rfl) rfl ?_
        refine T.leave (.plan rfl) (wantsUndef rfl rfl rfl) rfl ?_
        refine T.leave (.plan rfl) (wantsUndef rfl rfl rfl) rfl ?_
        refine T.leave (.plan rfl) (wantsUndef rfl rfl rfl) rfl ?_
        refine T.leave (.plan rfl) (wantsUndef rfl rfl rfl) rfl ?_
        refine T.leave (.plan rfl) (wantsUndef rfl rfl rfl) rfl ?_
        refine T.leave (.plan rfl) (wantsNot rfl rfl rfl hb9) rfl ?_
        refine T.pickF (.plan rfl) rfl (wants0 rfl) rfl rfl hb9 rfl ?_
        refine T.planEnd ?_
        refine T.then_normal ?_
        exact T.le (EnvLe.cons rfl (EnvLe.cons rfl (EnvLe.cons rfl (EnvLe.cons rfl (EnvLe.cons rfl (EnvLe.cons rfl (EnvLe.cons rfl EnvLe.nil))))))) (T.pick [1, 2, 3, 5, 6, 0] 7 rfl rfl nla rfl (J3 false () he1))
    ·replace he1 := inv_negB hb6 he1
     refine T.exit ?_
     refine T.then_exit ?_
     refine T.then_exit ?_
     obtain rfl := inv_some he1
     obtain rfl := hx1 _ rfl
     refine T.in_hit ?_
     refine T.then_normal ?_
     exact T.le (EnvLe.cons rfl (EnvLe.cons rfl EnvLe.nil)) (T.pick [3, 4, 0, 1, 2] 5 rfl rfl nla rfl (J1 (s3.1, s3.2.1, s3.2.2.1) () hr))

noncomputable def page_Store_Root.impl (o0 : Int × Int × Int × Int) (q0b : List (Int × Int)) (o0c : Int × Bool × Int × Int × Int × Int × Int) (q0cb : List (Int × (List UInt8))) (q0cc : List (Int × (List UInt8))) : Option Int :=
  some o0.2.2.2
set_option maxRecDepth 100000 in
set_option maxHeartbeats 4000000 in
theorem page_Store_Root.c {B : World} {hs : List MP} {w : World} {p0 : Nat} {o0 : Int × Int × Int × Int} {m0b : Nat} {q0b : List (Int × Int)} {p0c : Nat} {o0c : Int × Bool × Int × Int × Int × Int × Int} {m0cb : Nat} {q0cb : List (Int × (List UInt8))} {c0cc : Nat} {A0cc : Option Addr} {q0cc : List (Int × (List UInt8))} (hB : Base B) (hS : St B (ck1 p0 o0 m0b p0c :: Mp E64 m0b q0b :: ck0 p0c o0c m0cb A0cc q0cc.length c0cc :: Mp (Elt.slice E8) m0cb q0cb :: Bf (Elt.pair E64 (Elt.slice E8)) 174 A0cc c0cc q0cc :: hs) w) {r : Int} (hr : page_Store_Root.impl o0 q0b o0c q0cb q0cc = some r) :
    Calls Tryd.prog 35 #[.pointer (some ⟨p0, 0, none⟩)] w fun e w' => ∃ x : Unit, e = .returned (.int .i64 r) ∧ St B (ck1 p0 o0 m0b p0c :: Mp E64 m0b q0b :: ck0 p0c o0c m0cb A0cc q0cc.length c0cc :: Mp (Elt.slice E8) m0cb q0cb :: Bf (Elt.pair E64 (Elt.slice E8)) 174 A0cc c0cc q0cc :: hs) w' := by
 unfold page_Store_Root.impl at hr
 refine calls_T Tryd.func35 rfl rfl rfl hS ?_
 refine T.seq ?_
 refine T.region ?_
 refine T.assign .list rfl (wants0 rfl) rfl rfl ?_
 refine T.nil ?_
 refine T.then_normal ?_
 refine T.seq ?_
 refine T.region ?_
 refine T.move .list rfl (wants0 rfl) rfl rfl ?_
 refine T.nilCheck .list rfl (wants0 rfl) rfl rfl ?_
 refine T.field .list rfl (wants0 rfl) rfl rfl ?_
 refine T.field .list rfl (wants0 rfl) rfl rfl ?_
 refine T.load .list 0 rfl rfl (wants0 rfl) rfl rfl rfl ?_
 refine T.assign .list rfl (wants0 rfl) rfl rfl ?_
 refine T.nil ?_
 refine T.then_normal ?_
 refine T.ret ?_
 obtain rfl := inv_some hr
 refine T.pick [0, 1, 2, 3, 4] 5 rfl rfl nla rfl ?_
 refine T.ret1 rfl rfl (fun w hS => ⟨(), rfl, hS⟩)

noncomputable def page_Store_Dead.impl (o0 : Int × Int × Int × Int) (q0b : List (Int × Int)) (o0c : Int × Bool × Int × Int × Int × Int × Int) (q0cb : List (Int × (List UInt8))) (q0cc : List (Int × (List UInt8))) : Option Bool :=
  (disk_Disk_Down.impl o0c q0cb q0cc).bind fun r1 => (if r1 = true then some true else (disk_Disk_Life.impl o0c q0cb q0cc).bind fun r2 => some (!(decide (r2 = o0.2.1))))
set_option maxRecDepth 100000 in
set_option maxHeartbeats 4000000 in
theorem page_Store_Dead.c {B : World} {hs : List MP} {w : World} {p0 : Nat} {o0 : Int × Int × Int × Int} {m0b : Nat} {q0b : List (Int × Int)} {p0c : Nat} {o0c : Int × Bool × Int × Int × Int × Int × Int} {m0cb : Nat} {q0cb : List (Int × (List UInt8))} {c0cc : Nat} {A0cc : Option Addr} {q0cc : List (Int × (List UInt8))} (hB : Base B) (hS : St B (ck1 p0 o0 m0b p0c :: Mp E64 m0b q0b :: ck0 p0c o0c m0cb A0cc q0cc.length c0cc :: Mp (Elt.slice E8) m0cb q0cb :: Bf (Elt.pair E64 (Elt.slice E8)) 174 A0cc c0cc q0cc :: hs) w) {r : Bool} (hr : page_Store_Dead.impl o0 q0b o0c q0cb q0cc = some r) :
    Calls Tryd.prog 42 #[.pointer (some ⟨p0, 0, none⟩)] w fun e w' => ∃ x : Unit, e = .returned (.bool r) ∧ St B (ck1 p0 o0 m0b p0c :: Mp E64 m0b q0b :: ck0 p0c o0c m0cb A0cc q0cc.length c0cc :: Mp (Elt.slice E8) m0cb q0cb :: Bf (Elt.pair E64 (Elt.slice E8)) 174 A0cc c0cc q0cc :: hs) w' := by
 unfold page_Store_Dead.impl at hr
 refine calls_T Tryd.func42 rfl rfl rfl hS ?_
 refine T.seq ?_
 refine T.region ?_
 refine T.assign .list rfl (wants0 rfl) rfl rfl ?_
 refine T.nil ?_
 refine T.then_normal ?_
 refine T.seq ?_
 refine T.dStart mixed ?_
 refine T.move (.dPure (i := 0) rfl (by kernel_rfl) (fun d _ _ _ _ h => by cases d <;> exact h)) rfl (wants0 rfl) rfl rfl ?_
 refine T.nilCheck (.dPure (i := 1) rfl (by kernel_rfl) (fun d _ _ _ _ h => by cases d <;> exact h)) rfl (wants0 rfl) rfl rfl ?_
 refine T.field (.dPure (i := 2) rfl (by kernel_rfl) (fun d _ _ _ _ h => by cases d <;> exact h)) rfl (wants0 rfl) rfl rfl ?_
 refine T.dAdd 18 (fun w => w.heap[p0]? = some (.cells [.int .i64 o0.1, .map (some m0b), .pointer (some ⟨p0c, 0, none⟩), .int .i64 o0.2.1, .int .u64 o0.2.2.1, .int .i64 o0.2.2.2].toArray 134 (0, 0))) (Cl.stays 0 rfl) ?_
 refine T.valS 0 (i := 3) (.pointer (some ⟨p0c, 0, none⟩)) rfl rfl (by kernel_rfl) (by kernel_rfl) (fun d _ _ _ _ h => by cases d <;> exact h) (wants0 rfl) rfl (run_ldCl rfl rfl rfl) ?_
 obtain ⟨r1, hg1, hr⟩ := inv_bind hr
 refine T.pick [2, 3, 4, 0, 1] 5 rfl rfl nla (hs' := ck0 p0c o0c m0cb A0cc q0cc.length c0cc :: Mp (Elt.slice E8) m0cb q0cb :: Bf (Elt.pair E64 (Elt.slice E8)) 174 A0cc c0cc q0cc :: ck1 p0 o0 m0b p0c :: Mp E64 m0b q0b :: hs) rfl ?_
 refine T.dOnly (i := 4) (by kernel_rfl) ?_
 refine T.call (.dOne rfl (by kernel_rfl)) (wants0 rfl) rfl (run_callF (vs := [_]) rfl Tryd.func54 rfl (by decide) rfl) (fun w hS => disk_Disk_Down.c hB hS (o0 := o0c) (q0b := q0cb) (q0c := q0cc)  hg1) (fun x1 => ?_)
 refine T.dNext (phi_cons (.inr (Cl.stays 3 rfl)) phi_nil) ?_
 refine T.move (.dPure (i := 5) rfl (by kernel_rfl) (fun d _ _ _ _ h => by cases d <;> exact h)) rfl (wants0 rfl) rfl rfl ?_
 refine T.bool (b := r1) (fun hb1 => ?_) (fun hb1 => ?_)
 ·replace hr := inv_posB hb1 hr
  refine T.leave (.dPure (i := 6) rfl (by kernel_rfl) (fun d _ _ _ _ h => by cases d <;> exact h)) (wantsNot rfl rfl rfl hb1) rfl ?_
  refine T.leave (.dPure (i := 7) rfl (by kernel_rfl) (fun d _ _ _ _ h => by cases d <;> exact h)) (wantsNot rfl rfl rfl hb1) rfl ?_
  refine T.leave (.dPure (i := 8) rfl (by kernel_rfl) (fun d _ _ _ _ h => by cases d <;> exact h)) (wantsNot rfl rfl rfl hb1) rfl ?_
  refine T.leave (.dPure (i := 9) rfl (by kernel_rfl) (fun d _ _ _ _ h => by cases d <;> exact h)) (wantsNot rfl rfl rfl hb1) rfl ?_
  refine T.leave (.dPure (i := 10) rfl (by kernel_rfl) (fun d _ _ _ _ h => by cases d <;> exact h)) (wantsNot rfl rfl rfl hb1) rfl ?_
  refine T.leave (.dPure (i := 11) rfl (by kernel_rfl) (fun d _ _ _ _ h => by cases d <;> exact h)) (wantsNot rfl rfl rfl hb1) rfl ?_
  refine T.leave (.dPure (i := 12) rfl (by kernel_rfl) (fun d _ _ _ _ h => by cases d <;> exact h)) (wantsNot rfl rfl rfl hb1) rfl ?_
  refine T.leave (.dPure (i := 13) rfl (by kernel_rfl) (fun d _ _ _ _ h => by cases d <;> exact h)) (wantsNot rfl rfl rfl hb1) rfl ?_
  refine T.leave (.dPure (i := 14) rfl (by kernel_rfl) (fun d _ _ _ _ h => by cases d <;> exact h)) (wantsNot rfl rfl rfl hb1) rfl ?_
  refine T.leave (.dPure (i := 15) rfl (by kernel_rfl) (fun d _ _ _ _ h => by cases d <;> exact h)) (wantsNot rfl rfl rfl hb1) rfl ?_
  refine T.pickT (.dPure (i := 16) rfl (by kernel_rfl) (fun d _ _ _ _ h => by cases d <;> exact h)) rfl (wants0 rfl) rfl rfl hb1 rfl ?_
  refine T.assign (.dPure (i := 17) rfl (by kernel_rfl) (fun d _ _ _ _ h => by cases d <;> exact h)) rfl (wants0 rfl) rfl rfl ?_
  refine T.dDone (by kernel_rfl) ?_
  refine T.then_normal ?_
  refine T.ret ?_
  obtain rfl := inv_some hr
  refine T.pick [3, 4, 0, 1, 2] 5 rfl rfl nla rfl ?_
  refine T.ret1 rfl rfl (fun w hS => ⟨(), rfl, hS⟩)
 ·replace hr := inv_negB hb1 hr
  refine T.move (.dPure (i := 6) rfl (by kernel_rfl) (fun d _ _ _ _ h => by cases d <;> exact h)) rfl (wants1 rfl rfl rfl hb1) rfl rfl ?_
  refine T.nilCheck (.dPure (i := 7) rfl (by kernel_rfl) (fun d _ _ _ _ h => by cases d <;> exact h)) rfl (wants1 rfl rfl rfl hb1) rfl rfl ?_
  refine T.field (.dPure (i := 8) rfl (by kernel_rfl) (fun d _ _ _ _ h => by cases d <;> exact h)) rfl (wants1 rfl rfl rfl hb1) rfl rfl ?_
  refine T.move (.dPure (i := 11) rfl (by kernel_rfl) (fun d _ _ _ _ h => by cases d <;> exact h)) rfl (wants1 rfl rfl rfl hb1) rfl rfl ?_
  refine T.nilCheck (.dPure (i := 12) rfl (by kernel_rfl) (fun d _ _ _ _ h => by cases d <;> exact h)) rfl (wants1 rfl rfl rfl hb1) rfl rfl ?_
  refine T.field (.dPure (i := 13) rfl (by kernel_rfl) (fun d _ _ _ _ h => by cases d <;> exact h)) rfl (wants1 rfl rfl rfl hb1) rfl rfl ?_
  refine T.valS 0 (i := 9) (.pointer (some ⟨p0c, 0, none⟩)) rfl rfl (by kernel_rfl) (by kernel_rfl) (fun d _ _ _ _ h => by cases d <;> exact h) (wants1 rfl rfl rfl hb1) rfl (run_ldCl rfl rfl rfl) ?_
  refine T.valS 0 (i := 14) (.int .i64 o0.2.1) rfl rfl (by kernel_rfl) (by kernel_rfl) (fun d _ _ _ _ h => by cases d <;> exact h) (wants1 rfl rfl rfl hb1) rfl (run_ldCl rfl rfl rfl) ?_
  obtain ⟨r2, hg2, hr⟩ := inv_bind hr
  refine T.pick [0, 1, 2, 3, 4] 5 rfl rfl nla (hs' := ck0 p0c o0c m0cb A0cc q0cc.length c0cc :: Mp (Elt.slice E8) m0cb q0cb :: Bf (Elt.pair E64 (Elt.slice E8)) 174 A0cc c0cc q0cc :: ck1 p0 o0 m0b p0c :: Mp E64 m0b q0b :: hs) rfl ?_
  refine T.dOnly (i := 10) (by kernel_rfl) ?_
  refine T.call (.dOne rfl (by kernel_rfl)) (wants1 rfl rfl rfl hb1) rfl (run_callF (vs := [_]) rfl Tryd.func55 rfl (by decide) rfl) (fun w hS => disk_Disk_Life.c hB hS (o0 := o0c) (q0b := q0cb) (q0c := q0cc)  hg2) (fun x2 => ?_)
  refine T.dNext (phi_cons (.inr (Cl.stays 3 rfl)) phi_nil) ?_
  refine T.bin (.dPure (i := 15) rfl (by kernel_rfl) (fun d _ _ _ _ h => by cases d <;> exact h)) rfl (wants1 rfl rfl rfl hb1) rfl rfl rfl rfl ?_
  refine T.pickF (.dPure (i := 16) rfl (by kernel_rfl) (fun d _ _ _ _ h => by cases d <;> exact h)) rfl (wants0 rfl) rfl rfl hb1 rfl ?_
  refine T.assign (.dPure (i := 17) rfl (by kernel_rfl) (fun d _ _ _ _ h => by cases d <;> exact h)) rfl (wants0 rfl) rfl rfl ?_
  refine T.dDone (by kernel_rfl) ?_
  refine T.then_normal ?_
  refine T.ret ?_
  obtain rfl := inv_some hr
  refine T.pick [3, 4, 0, 1, 2] 5 rfl rfl nla rfl ?_
  refine T.ret1 rfl rfl (fun w hS => ⟨(), rfl, hS⟩)
end Go.Proofs.YtdojooblfemmnaaDoor
