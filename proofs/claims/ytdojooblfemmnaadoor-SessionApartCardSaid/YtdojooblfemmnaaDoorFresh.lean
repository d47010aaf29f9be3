/- Fresh: what the functions compute, and that the program computes it; printed by a program of ours. -/
import Derived.Test.YtdojooblfemmnaaDoorPages
import Derived.Test.YtdojooblfemmnaaDoorCks
import Derived.Test.YtdojooblfemmnaaDoorWire
set_option linter.unusedVariables false
set_option linter.unusedSimpArgs false
namespace Go.Proofs.YtdojooblfemmnaaDoor
open Go.RowKit
noncomputable def tree_Tree_Dead.impl (o0 : Int × Int × Int × Int) (o0a : Int × Int × Int × Int) (q0ab : List (Int × Int)) (o0ac : Int × Bool × Int × Int × Int × Int × Int) (q0acb : List (Int × (List UInt8))) (q0acc : List (Int × (List UInt8))) (q0h : List (Int × Int)) (q0k : List (Int × Int)) : Option Bool :=
  (page_Store_Dead.impl o0a q0ab o0ac q0acb q0acc).bind fun r1 => some r1
set_option maxRecDepth 100000 in
set_option maxHeartbeats 4000000 in
theorem tree_Tree_Dead.c {B : World} {hs : List MP} {w : World} {p0 : Nat} {o0 : Int × Int × Int × Int} {p0a : Nat} {o0a : Int × Int × Int × Int} {m0ab : Nat} {q0ab : List (Int × Int)} {p0ac : Nat} {o0ac : Int × Bool × Int × Int × Int × Int × Int} {m0acb : Nat} {q0acb : List (Int × (List UInt8))} {c0acc : Nat} {A0acc : Option Addr} {q0acc : List (Int × (List UInt8))} {m0h : Nat} {q0h : List (Int × Int)} {m0k : Nat} {q0k : List (Int × Int)} (hB : Base B) (hS : St B (ck2 p0 o0 p0a m0h m0k :: ck1 p0a o0a m0ab p0ac :: Mp E64 m0ab q0ab :: ck0 p0ac o0ac m0acb A0acc q0acc.length c0acc :: Mp (Elt.slice E8) m0acb q0acb :: Bf (Elt.pair E64 (Elt.slice E8)) 174 A0acc c0acc q0acc :: Mp E64 m0h q0h :: Mp E64 m0k q0k :: hs) w) {r : Bool} (hr : tree_Tree_Dead.impl o0 o0a q0ab o0ac q0acb q0acc q0h q0k = some r) :
    Calls Tryd.prog 25 #[.pointer (some ⟨p0, 0, none⟩)] w fun e w' => ∃ x : Unit, e = .returned (.bool r) ∧ St B (ck2 p0 o0 p0a m0h m0k :: ck1 p0a o0a m0ab p0ac :: Mp E64 m0ab q0ab :: ck0 p0ac o0ac m0acb A0acc q0acc.length c0acc :: Mp (Elt.slice E8) m0acb q0acb :: Bf (Elt.pair E64 (Elt.slice E8)) 174 A0acc c0acc q0acc :: Mp E64 m0h q0h :: Mp E64 m0k q0k :: hs) w' := by
 unfold tree_Tree_Dead.impl at hr
 refine calls_T Tryd.func25 rfl rfl rfl hS ?_
 refine T.seq ?_
 refine T.region ?_
 refine T.assign .list rfl (wants0 rfl) rfl rfl ?_
 refine T.nil ?_
 refine T.then_normal ?_
 refine T.seq ?_
 refine T.region ?_
 refine T.move .list rfl (wants0 rfl) rfl rfl ?_
 refine T.nilCheck .list rfl (wants0 rfl) rfl rfl ?_
 refine T.field .list rfl (wants0 rfl) rfl rfl ?_
 refine T.load .list 0 rfl rfl (wants0 rfl) rfl rfl rfl ?_
 refine T.pick [1, 2, 3, 4, 5, 0, 6, 7] 8 rfl rfl nla (hs' := ck1 p0a o0a m0ab p0ac :: Mp E64 m0ab q0ab :: ck0 p0ac o0ac m0acb A0acc q0acc.length c0acc :: Mp (Elt.slice E8) m0acb q0acb :: Bf (Elt.pair E64 (Elt.slice E8)) 174 A0acc c0acc q0acc :: ck2 p0 o0 p0a m0h m0k :: Mp E64 m0h q0h :: Mp E64 m0k q0k :: hs) rfl ?_
 obtain ⟨r1, hg1, hr⟩ := inv_bind hr
 refine T.call .list (wants0 rfl) rfl (run_callF (vs := [_]) rfl Tryd.func42 rfl (by decide) rfl) (fun w hS => page_Store_Dead.c hB hS (o0 := o0a) (q0b := q0ab) (o0c := o0ac) (q0cb := q0acb) (q0cc := q0acc)  hg1) (fun x1 => ?_)
 refine T.assign .list rfl (wants0 rfl) rfl rfl ?_
 refine T.nil ?_
 refine T.then_normal ?_
 refine T.ret ?_
 obtain rfl := inv_some hr
 refine T.pick [5, 0, 1, 2, 3, 4, 6, 7] 8 rfl rfl nla rfl ?_
 refine T.ret1 rfl rfl (fun w hS => ⟨(), rfl, hS⟩)

noncomputable def tree_Open.impl (o0 : Int × Bool × Int × Int × Int × Int × Int) (q0b : List (Int × (List UInt8))) (q0c : List (Int × (List UInt8))) : Option ((Option ((Int × Int × Int × Int) × (Int × Int × Int × Int) × (List (Int × Int)) × (List (Int × Int)) × (List (Int × Int)))) × Int) :=
  (page_Open.impl o0 q0b q0c).bind fun r1 => (match r1 with | (none, r1p1) => ((if ((!(decide (r1p1 = 0)))) = true then some (none, r1p1) else none)) | (some r1p0, r1p1) => ((if ((!(decide (r1p1 = 0)))) = true then some (none, r1p1) else (page_Store_Root.impl r1p0.1 r1p0.2 o0 q0b q0c).bind fun r2 => (if ((decide (r2 = 0))) = true then some ((some ((0, 0, 0, 0), r1p0.1, r1p0.2, ([] : List (Int × Int)), ([] : List (Int × Int)))), 0) else none))))
set_option maxRecDepth 100000 in
set_option maxHeartbeats 4000000 in
theorem tree_Open.c {B : World} {hs : List MP} {w : World} {p0 : Nat} {o0 : Int × Bool × Int × Int × Int × Int × Int} {m0b : Nat} {q0b : List (Int × (List UInt8))} {c0c : Nat} {A0c : Option Addr} {q0c : List (Int × (List UInt8))} (hB : Base B) (hS : St B (ck0 p0 o0 m0b A0c q0c.length c0c :: Mp (Elt.slice E8) m0b q0b :: Bf (Elt.pair E64 (Elt.slice E8)) 174 A0c c0c q0c :: hs) w) {r : (Option ((Int × Int × Int × Int) × (Int × Int × Int × Int) × (List (Int × Int)) × (List (Int × Int)) × (List (Int × Int)))) × Int} (hr : tree_Open.impl o0 q0b q0c = some r) :
    Calls Tryd.prog 22 #[.pointer (some ⟨p0, 0, none⟩)] w fun e w' => ∃ x : Nat × Nat × Nat × Nat × (Nat), e = .returned (.tuple #[optp r.1 x.1, .int .i64 r.2]) ∧ St B (ck0 p0 o0 m0b A0c q0c.length c0c :: Mp (Elt.slice E8) m0b q0b :: Bf (Elt.pair E64 (Elt.slice E8)) 174 A0c c0c q0c :: ((optc r.1 (fun v => [ck2 x.1 v.1 x.2.1 x.2.2.2.1 x.2.2.2.2, ck1 x.2.1 v.2.1 x.2.2.1 p0, Mp E64 x.2.2.1 v.2.2.1, Mp E64 x.2.2.2.1 v.2.2.2.1, Mp E64 x.2.2.2.2 v.2.2.2.2])) ++ hs)) w' := by
 unfold tree_Open.impl at hr
 refine calls_TD Tryd.func22 rfl rfl rfl hS ?_
 refine T.seq ?_
 refine T.region ?_
 refine T.allocS .list rfl (wants0 rfl) rfl (cs := [.pointer none]) rfl (fun b1 => ?_)
 refine T.allocS .list rfl (wants0 rfl) rfl (cs := [.int .i64 0]) rfl (fun b2 => ?_)
 refine T.nil ?_
 refine T.then_normal ?_
 refine T.seq ?_
 refine T.region ?_
 refine T.move .list rfl (wants0 rfl) rfl rfl ?_
 obtain ⟨r1, hg1, hr⟩ := inv_bind hr
 rcases r1 with ⟨_ | r1p0, r1p1⟩
 ·dsimp only at hr
  refine T.pick [2, 3, 4, 0, 1] 5 rfl rfl nla (hs' := ck0 p0 o0 m0b A0c q0c.length c0c :: Mp (Elt.slice E8) m0b q0b :: Bf (Elt.pair E64 (Elt.slice E8)) 174 A0c c0c q0c :: Cl b2 28 [.int .i64 0] :: Cl b1 69 [.pointer none] :: hs) rfl ?_
  refine T.call (v := fun (x1 : Nat × Nat) => .tuple #[.pointer none, .int .i64 r1p1]) (hs' := fun x1 => ck0 p0 o0 m0b A0c q0c.length c0c :: Mp (Elt.slice E8) m0b q0b :: Bf (Elt.pair E64 (Elt.slice E8)) 174 A0c c0c q0c :: Cl b2 28 [.int .i64 0] :: Cl b1 69 [.pointer none] :: hs) .list (wants0 rfl) rfl (run_callF (vs := [_]) rfl Tryd.func34 rfl (by decide) rfl) (fun w hS => page_Open.c hB hS (o0 := o0) (q0b := q0b) (q0c := q0c)  hg1) (fun x1 => ?_)
  refine T.move .list rfl (wants0 rfl) rfl rfl ?_
  refine T.extract .list rfl (wants0 rfl) rfl rfl rfl ?_
  refine T.extract .list rfl (wants0 rfl) rfl rfl rfl ?_
  refine T.assign .list rfl (wants0 rfl) rfl rfl ?_
  refine T.store .list 3 rfl rfl (wants0 rfl) rfl rfl rfl rfl (Nat.le_of_ble_eq_true rfl) rfl (cs' := [.int .i64 r1p1]) rfl rfl ?_
  refine T.nil ?_
  refine T.then_normal ?_
  refine T.seq ?_
  refine T.seq ?_
  refine T.region ?_
  refine T.load .list 3 rfl rfl (wants0 rfl) rfl rfl rfl ?_
  refine T.bin .list rfl (wants0 rfl) rfl rfl rfl rfl ?_
  refine T.nil ?_
  refine T.then_normal ?_
  refine T.cond rfl (fun hb1 => ?_) (fun hb1 => ?_)
  ·replace hr := inv_posB hb1 hr
   refine T.seq ?_
   refine T.dStart mixed ?_
   refine T.dAdd 3 (fun w => w.heap[b2]? = some (.cells [.int .i64 r1p1].toArray 28 (0, 0))) (Cl.stays 3 rfl) ?_
   refine T.valS 0 (i := 0) (.int .i64 r1p1) rfl rfl (by kernel_rfl) (by kernel_rfl) (fun d _ _ _ _ h => by cases d <;> exact h) (wants0 rfl) rfl (run_ldCl rfl rfl rfl) ?_
   refine T.dOnly (i := 1) (by kernel_rfl) ?_
   refine T.store (.dOne rfl (by kernel_rfl)) 4 rfl rfl (wants0 rfl) rfl rfl rfl rfl (Nat.le_of_ble_eq_true rfl) rfl (cs' := [.pointer none]) rfl rfl ?_
   refine T.dNext (phi_cons (.inr (Cl.stays 3 rfl)) phi_nil) ?_
   refine T.dOnly (i := 2) (by kernel_rfl) ?_
   refine T.store (.dOne rfl (by kernel_rfl)) 3 rfl rfl (wants0 rfl) rfl rfl rfl rfl (Nat.le_of_ble_eq_true rfl) rfl (cs' := [.int .i64 r1p1]) rfl rfl ?_
   refine T.dNext (phi_cons (.inr (Cl.stays 3 rfl)) phi_nil) ?_
   refine T.dDone (by kernel_rfl) ?_
   refine T.then_normal ?_
   refine T.ret ?_
   refine T.then_ret ?_
   refine T.retD ?_
   obtain rfl := inv_some hr
   refine T.lvOut2 rfl (OutRun.cell1 4 rfl rfl rfl) (OutRun.cell1 3 rfl rfl rfl) (fun w hS => ⟨(0, 0, 0, 0, 0), rfl, hS.pick [0, 1, 2] 5 rfl rfl nla rfl⟩)
  ·replace hr := inv_negB hb1 hr
   cases hr
 ·dsimp only at hr
  refine T.pick [2, 3, 4, 0, 1] 5 rfl rfl nla (hs' := ck0 p0 o0 m0b A0c q0c.length c0c :: Mp (Elt.slice E8) m0b q0b :: Bf (Elt.pair E64 (Elt.slice E8)) 174 A0c c0c q0c :: Cl b2 28 [.int .i64 0] :: Cl b1 69 [.pointer none] :: hs) rfl ?_
  refine T.call (v := fun (x2 : Nat × Nat) => .tuple #[.pointer (some ⟨x2.1, 0, none⟩), .int .i64 r1p1]) (hs' := fun x2 => ck0 p0 o0 m0b A0c q0c.length c0c :: Mp (Elt.slice E8) m0b q0b :: Bf (Elt.pair E64 (Elt.slice E8)) 174 A0c c0c q0c :: ck1 x2.1 r1p0.1 x2.2 p0 :: Mp E64 x2.2 r1p0.2 :: Cl b2 28 [.int .i64 0] :: Cl b1 69 [.pointer none] :: hs) .list (wants0 rfl) rfl (run_callF (vs := [_]) rfl Tryd.func34 rfl (by decide) rfl) (fun w hS => page_Open.c hB hS (o0 := o0) (q0b := q0b) (q0c := q0c)  hg1) (fun x2 => ?_)
  refine T.move .list rfl (wants0 rfl) rfl rfl ?_
  refine T.extract .list rfl (wants0 rfl) rfl rfl rfl ?_
  refine T.extract .list rfl (wants0 rfl) rfl rfl rfl ?_
  refine T.assign .list rfl (wants0 rfl) rfl rfl ?_
  refine T.store .list 5 rfl rfl (wants0 rfl) rfl rfl rfl rfl (Nat.le_of_ble_eq_true rfl) rfl (cs' := [.int .i64 r1p1]) rfl rfl ?_
  refine T.nil ?_
  refine T.then_normal ?_
  refine T.seq ?_
  refine T.seq ?_
  refine T.region ?_
  refine T.load .list 5 rfl rfl (wants0 rfl) rfl rfl rfl ?_
  refine T.bin .list rfl (wants0 rfl) rfl rfl rfl rfl ?_
  refine T.nil ?_
  refine T.then_normal ?_
  refine T.cond rfl (fun hb2 => ?_) (fun hb2 => ?_)
  ·replace hr := inv_posB hb2 hr
   refine T.seq ?_
   refine T.dStart mixed ?_
   refine T.dAdd 3 (fun w => w.heap[b2]? = some (.cells [.int .i64 r1p1].toArray 28 (0, 0))) (Cl.stays 5 rfl) ?_
   refine T.valS 0 (i := 0) (.int .i64 r1p1) rfl rfl (by kernel_rfl) (by kernel_rfl) (fun d _ _ _ _ h => by cases d <;> exact h) (wants0 rfl) rfl (run_ldCl rfl rfl rfl) ?_
   refine T.dOnly (i := 1) (by kernel_rfl) ?_
   refine T.store (.dOne rfl (by kernel_rfl)) 6 rfl rfl (wants0 rfl) rfl rfl rfl rfl (Nat.le_of_ble_eq_true rfl) rfl (cs' := [.pointer none]) rfl rfl ?_
   refine T.dNext (phi_cons (.inr (Cl.stays 5 rfl)) phi_nil) ?_
   refine T.dOnly (i := 2) (by kernel_rfl) ?_
   refine T.store (.dOne rfl (by kernel_rfl)) 5 rfl rfl (wants0 rfl) rfl rfl rfl rfl (Nat.le_of_ble_eq_true rfl) rfl (cs' := [.int .i64 r1p1]) rfl rfl ?_
   refine T.dNext (phi_cons (.inr (Cl.stays 5 rfl)) phi_nil) ?_
   refine T.dDone (by kernel_rfl) ?_
   refine T.then_normal ?_
   refine T.ret ?_
   refine T.then_ret ?_
   refine T.retD ?_
   obtain rfl := inv_some hr
   refine T.lvOut2 rfl (OutRun.cell1 6 rfl rfl rfl) (OutRun.cell1 5 rfl rfl rfl) (fun w hS => ⟨(0, 0, 0, 0, 0), rfl, hS.pick [0, 1, 2] 7 rfl rfl nla rfl⟩)
  ·replace hr := inv_negB hb2 hr
   refine T.skip ?_
   refine T.then_normal ?_
   refine T.seq ?_
   refine T.region ?_
   refine T.move .list rfl (wants0 rfl) rfl rfl ?_
   refine T.makeMap E64 .list rfl (wants0 rfl) rfl (fun b3 => ?_)
   refine T.makeMap E64 .list rfl (wants0 rfl) rfl (fun b4 => ?_)
   refine T.build .list (vals := [(0, .pointer (some ⟨x2.1, 0, none⟩)), (3, .map (some b3)), (6, .map (some b4))]) (cells := #[.pointer (some ⟨x2.1, 0, none⟩), .nilIface, .int .i64 0, .int .i64 0, .nilIface, .int .i64 0, .int .i64 0, .map (some b3), .slice none 0 0, .slice none 0 0, .map (some b4)]) rfl (wants0 rfl) rfl rfl (run_buildStruct (sizes := [1, 3, 3, 1, 1, 1, 1]) (by kernel_rfl) (by kernel_rfl)) ?_
   refine T.boxS .list rfl (wants0 rfl) rfl rfl (cs := [.pointer (some ⟨x2.1, 0, none⟩), .nilIface, .int .i64 0, .int .i64 0, .nilIface, .int .i64 0, .int .i64 0, .map (some b3), .slice none 0 0, .slice none 0 0, .map (some b4)]) rfl (fun b5 => ?_)
   refine T.store .list 9 rfl rfl (wants0 rfl) rfl rfl rfl rfl (Nat.le_of_ble_eq_true rfl) rfl (cs' := [.pointer (some ⟨b5, 0, none⟩)]) rfl rfl ?_
   refine T.nil ?_
   refine T.then_normal ?_
   refine T.seq ?_
   refine T.seq ?_
   refine T.region ?_
   refine T.move .list rfl (wants0 rfl) rfl rfl ?_
   refine T.pick [6, 7, 3, 4, 5, 0, 1, 2, 8, 9] 10 rfl rfl nla (hs' := ck1 x2.1 r1p0.1 x2.2 p0 :: Mp E64 x2.2 r1p0.2 :: ck0 p0 o0 m0b A0c q0c.length c0c :: Mp (Elt.slice E8) m0b q0b :: Bf (Elt.pair E64 (Elt.slice E8)) 174 A0c c0c q0c :: ck3 b5 x2.1 b3 b4 :: Mp E64 b4 (([] : List (Int × Int))) :: Mp E64 b3 (([] : List (Int × Int))) :: Cl b2 28 [.int .i64 r1p1] :: Cl b1 69 [.pointer (some ⟨b5, 0, none⟩)] :: hs) rfl ?_
   obtain ⟨r2, hg2, hr⟩ := inv_bind hr
   refine T.call .list (wants0 rfl) rfl (run_callF (vs := [_]) rfl Tryd.func35 rfl (by decide) rfl) (fun w hS => page_Store_Root.c hB hS (o0 := r1p0.1) (q0b := r1p0.2) (o0c := o0) (q0cb := q0b) (q0cc := q0c)  hg2) (fun x3 => ?_)
   refine T.bin .list rfl (wants0 rfl) rfl rfl rfl rfl ?_
   refine T.nil ?_
   refine T.then_normal ?_
   refine T.cond rfl (fun hb3 => ?_) (fun hb3 => ?_)
   ·replace hr := inv_posB hb3 hr
    refine T.seq ?_
    refine T.region ?_
    refine T.load .list 9 rfl rfl (wants0 rfl) rfl rfl rfl ?_
    refine T.store .list 9 rfl rfl (wants0 rfl) rfl rfl rfl rfl (Nat.le_of_ble_eq_true rfl) rfl (cs' := [.pointer (some ⟨b5, 0, none⟩)]) rfl rfl ?_
    refine T.store .list 8 rfl rfl (wants0 rfl) rfl rfl rfl rfl (Nat.le_of_ble_eq_true rfl) rfl (cs' := [.int .i64 0]) rfl rfl ?_
    refine T.nil ?_
    refine T.then_normal ?_
    refine T.ret ?_
    refine T.then_ret ?_
    refine T.retD ?_
    obtain rfl := inv_some hr
    refine T.lvOut2 rfl (OutRun.cell1 9 rfl rfl rfl) (OutRun.cell1 8 rfl rfl rfl) (fun w hS => ⟨(b5, x2.1, x2.2, b3, b4), rfl, hS.pick [2, 3, 4, 5, 0, 1, 7, 6] 10 rfl rfl nla rfl⟩)
   ·replace hr := inv_negB hb3 hr
    cases hr

noncomputable def tree_Tree_rng_1.impl (ok0 : Int) (ok1 : (List (Int × (List UInt8) × (List UInt8)))) : Option (((List (Int × (List UInt8) × (List UInt8))))) :=
  (if ((!(decide (ok0 = 0)))) = true then none else some ok1)
set_option maxRecDepth 100000 in
set_option maxHeartbeats 4000000 in
theorem tree_Tree_rng_1.c {B : World} {hs : List MP} {w : World} {pk0 : Nat} {ok0 : Int} {pk1 : Nat} {ok1 : (List (Int × (List UInt8) × (List UInt8)))} {ik1a ck1a : Nat} {Ak1a : Option Addr} (hB : Base B) (hS : St B (Cl pk0 28 [.int .i64 ok0] :: Cl pk1 75 [.slice Ak1a ok1.length ck1a] :: hs) w) (hk1a : (Cl pk0 28 [.int .i64 ok0] :: Cl pk1 75 [.slice Ak1a ok1.length ck1a] :: hs)[ik1a]? = some (Ro (Elt.pair E64 (Elt.pair (Elt.slice E8) (Elt.slice E8))) Ak1a ck1a ok1)) {r : ((List (Int × (List UInt8) × (List UInt8))))} (hr : tree_Tree_rng_1.impl ok0 ok1 = some r) :
    Calls Tryd.prog 63 #[.pointer (some ⟨pk0, 0, none⟩), .pointer (some ⟨pk1, 0, none⟩)] w fun e w' => ∃ x : Unit, e = .returned (.tuple #[]) ∧ St B (Cl pk0 28 [.int .i64 ok0] :: Cl pk1 75 [.slice Ak1a ok1.length ck1a] :: hs) w' := by
 unfold tree_Tree_rng_1.impl at hr
 refine calls_T Tryd.func63 rfl rfl rfl hS ?_
 refine T.front ik1a hk1a ?_
 refine T.seq ?_
 refine T.region ?_
 refine T.load .list 1 rfl rfl (wants0 rfl) rfl rfl rfl ?_
 refine T.bin .list rfl (wants0 rfl) rfl rfl rfl rfl ?_
 refine T.nil ?_
 refine T.then_normal ?_
 refine T.cond rfl (fun hb1 => ?_) (fun hb1 => ?_)
 ·replace hr := inv_posB hb1 hr
  cases hr
 ·replace hr := inv_negB hb1 hr
  refine T.skip ?_
  obtain rfl := inv_some hr
  refine T.pick [1, 2] 3 rfl rfl nla rfl ?_
  refine T.end0 rfl (fun w hS => ⟨(), rfl, hS⟩)
set_option maxRecDepth 100000 in
set_option maxHeartbeats 4000000 in
theorem tree_Tree_rng_1.d {B : World} {hs : List MP} {w : World} {pk0 : Nat} {ok0 : Int} {pk1 : Nat} {ok1 : (List (Int × (List UInt8) × (List UInt8)))} {ik1a ck1a : Nat} {Ak1a : Option Addr} (hB : Base B) (hS : St B (Cl pk0 28 [.int .i64 ok0] :: Cl pk1 75 [.slice Ak1a ok1.length ck1a] :: hs) w) (hk1a : (Cl pk0 28 [.int .i64 ok0] :: Cl pk1 75 [.slice Ak1a ok1.length ck1a] :: hs)[ik1a]? = some (Ro (Elt.pair E64 (Elt.pair (Elt.slice E8) (Elt.slice E8))) Ak1a ck1a ok1)) {r : ((List (Int × (List UInt8) × (List UInt8))))} (hr : tree_Tree_rng_1.impl ok0 ok1 = some r) :
    CallsD Tryd.prog 63 #[.pointer (some ⟨pk0, 0, none⟩), .pointer (some ⟨pk1, 0, none⟩)] .returning w fun e u w' => u = .returning ∧ ∃ x : Unit, e = .returned (.tuple #[]) ∧ St B (Cl pk0 28 [.int .i64 ok0] :: Cl pk1 75 [.slice Ak1a ok1.length ck1a] :: hs) w' := by
 unfold tree_Tree_rng_1.impl at hr
 refine callsD_T Tryd.func63 rfl rfl rfl hS ?_
 refine T.front ik1a hk1a ?_
 refine T.seq ?_
 refine T.region ?_
 refine T.load .list 1 rfl rfl (wants0 rfl) rfl rfl rfl ?_
 refine T.bin .list rfl (wants0 rfl) rfl rfl rfl rfl ?_
 refine T.nil ?_
 refine T.then_normal ?_
 refine T.cond rfl (fun hb1 => ?_) (fun hb1 => ?_)
 ·replace hr := inv_posB hb1 hr
  cases hr
 ·replace hr := inv_negB hb1 hr
  refine T.skip ?_
  obtain rfl := inv_some hr
  refine T.pick [1, 2] 3 rfl rfl nla rfl ?_
  refine T.end0 rfl (fun w hS => ⟨(), rfl, hS⟩)

noncomputable def local_in.impl (a0 : Int) (l1 : List UInt8) : Option (List UInt8) :=
  chk (((([(u8 (IntKind.u8.wrap a0))] : List UInt8)).length + l1.length) * 1 ≤ 140737488355328) (some ((([(u8 (IntKind.u8.wrap a0))] : List UInt8)) ++ l1))
set_option maxRecDepth 100000 in
set_option maxHeartbeats 4000000 in
theorem local_in.c {B : World} {hs : List MP} {w : World} {a0 : Int} {i1 c1 : Nat} {A1 : Option Addr} {l1 : List UInt8} (hB : Base B) (hS : St B hs w) (h1 : (hs)[i1]? = some (Ro E8 A1 c1 l1)) {r : List UInt8} (hr : local_in.impl a0 l1 = some r) :
    Calls Tryd.prog 73 #[.int .i64 a0, .slice A1 l1.length c1] w fun e w' => ∃ x : (Option Addr × Nat), e = .returned (.slice x.1 r.length x.2) ∧ St B (Bf E8 5 x.1 x.2 r :: hs) w' := by
 unfold local_in.impl at hr
 refine calls_T Tryd.func73 rfl rfl rfl hS ?_
 refine T.front i1 h1 ?_
 refine T.seq ?_
 refine T.region ?_
 refine T.assign .list rfl (wants0 rfl) rfl rfl ?_
 refine T.nil ?_
 refine T.then_normal ?_
 refine T.seq ?_
 refine T.region ?_
 refine T.move .list rfl (wants0 rfl) rfl rfl ?_
 refine T.conv .list rfl (wants0 rfl) rfl rfl rfl ?_
 refine T.lit (E := E8) .list (vals := [(0, .int .u8 (IntKind.u8.wrap a0))]) (cells := #[.int .u8 (IntKind.u8.wrap a0)]) rfl (wants0 rfl) rfl rfl rfl rfl rfl (by kernel_rfl) ([(u8 (IntKind.u8.wrap a0))] : List UInt8) rfl (fun _ _ _ _ _ => (Encs.c1 (enc := b8) (h1 := fun _ => rfl) (b8_wrap _) rfl)) (fun b1 => ?_)
 refine T.move .list rfl (wants0 rfl) rfl rfl ?_
 obtain ⟨hc1, hr⟩ := inv_chk hr
 refine T.appRo .list 0 1 rfl rfl rfl rfl rfl (wants0 rfl) rfl rfl rfl rfl rfl rfl hc1 (fun _ _ => rfl) (fun A3 c3 => ?_)
 refine T.assign .list rfl (wants0 rfl) rfl rfl ?_
 refine T.nil ?_
 refine T.then_normal ?_
 refine T.ret ?_
 obtain rfl := inv_some hr
 refine T.pick [0] 2 rfl rfl nla rfl ?_
 refine T.ret1 rfl rfl (fun w hS => ⟨(A3, c3), rfl, hS⟩)

noncomputable def tree_Tree_may_nil2.k1 (s1 : Bool) : Option Int :=
  (if s1 = true then some 3 else some 0)
noncomputable def tree_Tree_may_nil2.impl (o0 : Int × Int × Int × Int) (o0a : Int × Int × Int × Int) (q0ab : List (Int × Int)) (o0ac : Int × Bool × Int × Int × Int × Int × Int) (q0acb : List (Int × (List UInt8))) (q0acc : List (Int × (List UInt8))) (q0h : List (Int × Int)) (q0k : List (Int × Int)) (l1 : List UInt8) : Option Int :=
  (tree_Tree_Dead.impl o0 o0a q0ab o0ac q0acb q0acc q0h q0k).bind fun r1 => (if r1 = true then some 20 else (if ((decide ((((l1.length : Int))) = 0))) = true then some 1 else (if ((decide ((64 : Int) < ((l1.length : Int))))) = true then tree_Tree_may_nil2.k1 true else tree_Tree_may_nil2.k1 false)))
set_option maxRecDepth 100000 in
set_option maxHeartbeats 4000000 in
theorem tree_Tree_may_nil2.c {B : World} {hs : List MP} {w : World} {p0 : Nat} {o0 : Int × Int × Int × Int} {p0a : Nat} {o0a : Int × Int × Int × Int} {m0ab : Nat} {q0ab : List (Int × Int)} {p0ac : Nat} {o0ac : Int × Bool × Int × Int × Int × Int × Int} {m0acb : Nat} {q0acb : List (Int × (List UInt8))} {c0acc : Nat} {A0acc : Option Addr} {q0acc : List (Int × (List UInt8))} {m0h : Nat} {q0h : List (Int × Int)} {m0k : Nat} {q0k : List (Int × Int)} {i1 c1 : Nat} {A1 : Option Addr} {l1 : List UInt8} (hB : Base B) (hS : St B (ck2 p0 o0 p0a m0h m0k :: ck1 p0a o0a m0ab p0ac :: Mp E64 m0ab q0ab :: ck0 p0ac o0ac m0acb A0acc q0acc.length c0acc :: Mp (Elt.slice E8) m0acb q0acb :: Bf (Elt.pair E64 (Elt.slice E8)) 174 A0acc c0acc q0acc :: Mp E64 m0h q0h :: Mp E64 m0k q0k :: hs) w) (h1 : (ck2 p0 o0 p0a m0h m0k :: ck1 p0a o0a m0ab p0ac :: Mp E64 m0ab q0ab :: ck0 p0ac o0ac m0acb A0acc q0acc.length c0acc :: Mp (Elt.slice E8) m0acb q0acb :: Bf (Elt.pair E64 (Elt.slice E8)) 174 A0acc c0acc q0acc :: Mp E64 m0h q0h :: Mp E64 m0k q0k :: hs)[i1]? = some (Ro E8 A1 c1 l1)) {r : Int} (hr : tree_Tree_may_nil2.impl o0 o0a q0ab o0ac q0acb q0acc q0h q0k l1 = some r) :
    Calls Tryd.prog 86 #[.pointer (some ⟨p0, 0, none⟩), .slice A1 l1.length c1, .slice none 0 0] w fun e w' => ∃ x : Unit, e = .returned (.int .i64 r) ∧ St B (ck2 p0 o0 p0a m0h m0k :: ck1 p0a o0a m0ab p0ac :: Mp E64 m0ab q0ab :: ck0 p0ac o0ac m0acb A0acc q0acc.length c0acc :: Mp (Elt.slice E8) m0acb q0acb :: Bf (Elt.pair E64 (Elt.slice E8)) 174 A0acc c0acc q0acc :: Mp E64 m0h q0h :: Mp E64 m0k q0k :: hs) w' := by
 unfold tree_Tree_may_nil2.impl at hr
 refine calls_T Tryd.func86 rfl rfl rfl hS ?_
 refine T.front i1 h1 ?_
 refine T.seq ?_
 refine T.region ?_
 refine T.assign .list rfl (wants0 rfl) rfl rfl ?_
 refine T.nil ?_
 refine T.then_normal ?_
 refine T.seq ?_
 refine T.block ?_
 refine T.seq ?_
 refine T.region ?_
 refine T.move .list rfl (wants0 rfl) rfl rfl ?_
 refine T.pick [1, 2, 3, 4, 5, 6, 7, 8, 0] 9 rfl rfl nla (hs' := ck2 p0 o0 p0a m0h m0k :: ck1 p0a o0a m0ab p0ac :: Mp E64 m0ab q0ab :: ck0 p0ac o0ac m0acb A0acc q0acc.length c0acc :: Mp (Elt.slice E8) m0acb q0acb :: Bf (Elt.pair E64 (Elt.slice E8)) 174 A0acc c0acc q0acc :: Mp E64 m0h q0h :: Mp E64 m0k q0k :: Ro E8 A1 c1 l1 :: hs) rfl ?_
 obtain ⟨r1, hg1, hr⟩ := inv_bind hr
 refine T.call .list (wants0 rfl) rfl (run_callF (vs := [_]) rfl Tryd.func25 rfl (by decide) rfl) (fun w hS => tree_Tree_Dead.c hB hS (o0 := o0) (o0a := o0a) (q0ab := q0ab) (o0ac := o0ac) (q0acb := q0acb) (q0acc := q0acc) (q0h := q0h) (q0k := q0k)  hg1) (fun x1 => ?_)
 refine T.assign .list rfl (wants0 rfl) rfl rfl ?_
 refine T.nil ?_
 refine T.then_normal ?_
 refine T.cond rfl (fun hb1 => ?_) (fun hb1 => ?_)
 ·replace hr := inv_posB hb1 hr
  refine T.seq ?_
  refine T.region ?_
  refine T.assign .list rfl (wants0 rfl) rfl rfl ?_
  refine T.nil ?_
  refine T.then_normal ?_
  refine T.ret ?_
  refine T.in_ret ?_
  refine T.then_ret ?_
  obtain rfl := inv_some hr
  refine T.pick [0, 1, 2, 3, 4, 5, 6, 7] 9 rfl rfl nla rfl ?_
  refine T.ret1 rfl rfl (fun w hS => ⟨(), rfl, hS⟩)
 ·replace hr := inv_negB hb1 hr
  refine T.seq ?_
  refine T.region ?_
  refine T.move .list rfl (wants0 rfl) rfl rfl ?_
  refine T.lenSlice .list rfl (wants0 rfl) rfl rfl ?_
  refine T.bin .list rfl (wants0 rfl) rfl rfl rfl rfl ?_
  refine T.assign .list rfl (wants0 rfl) rfl rfl ?_
  refine T.nil ?_
  refine T.then_normal ?_
  refine T.cond rfl (fun hb2 => ?_) (fun hb2 => ?_)
  ·replace hr := inv_posB hb2 hr
   refine T.seq ?_
   refine T.region ?_
   refine T.assign .list rfl (wants0 rfl) rfl rfl ?_
   refine T.nil ?_
   refine T.then_normal ?_
   refine T.ret ?_
   refine T.in_ret ?_
   refine T.then_ret ?_
   obtain rfl := inv_some hr
   refine T.pick [0, 1, 2, 3, 4, 5, 6, 7] 9 rfl rfl nla rfl ?_
   refine T.ret1 rfl rfl (fun w hS => ⟨(), rfl, hS⟩)
  ·replace hr := inv_negB hb2 hr
   refine T.seqJ (fun (s1 : Bool) (x2 : Unit) => [(14, .bool s1)]) (fun s1 x2 => ck2 p0 o0 p0a m0h m0k :: ck1 p0a o0a m0ab p0ac :: Mp E64 m0ab q0ab :: ck0 p0ac o0ac m0acb A0acc q0acc.length c0acc :: Mp (Elt.slice E8) m0acb q0acb :: Bf (Elt.pair E64 (Elt.slice E8)) 174 A0acc c0acc q0acc :: Mp E64 m0h q0h :: Mp E64 m0k q0k :: hs) (fun s1 => tree_Tree_may_nil2.k1 s1 = some r) (fun s1 x2 hk1 => ?_) (fun J1 => ?_)
   ·unfold tree_Tree_may_nil2.k1 at hk1
    refine T.cond rfl (fun hb3 => ?_) (fun hb3 => ?_)
    ·replace hk1 := inv_posB hb3 hk1
     refine T.seq ?_
     refine T.region ?_
     refine T.assign .list rfl (wants0 rfl) rfl rfl ?_
     refine T.nil ?_
     refine T.then_normal ?_
     refine T.ret ?_
     refine T.in_ret ?_
     refine T.then_ret ?_
     obtain rfl := inv_some hk1
     refine T.pick [0, 1, 2, 3, 4, 5, 6, 7] 8 rfl rfl nla rfl ?_
     refine T.ret1 rfl rfl (fun w hS => ⟨(), rfl, hS⟩)
    ·replace hk1 := inv_negB hb3 hk1
     refine T.skip ?_
     refine T.in_normal ?_
     refine T.then_normal ?_
     refine T.seq ?_
     refine T.region ?_
     refine T.assign .list rfl (wants0 rfl) rfl rfl ?_
     refine T.nil ?_
     refine T.then_normal ?_
     refine T.ret ?_
     obtain rfl := inv_some hk1
     refine T.pick [0, 1, 2, 3, 4, 5, 6, 7] 8 rfl rfl nla rfl ?_
     refine T.ret1 rfl rfl (fun w hS => ⟨(), rfl, hS⟩)
   ·refine T.region ?_
    refine T.move .list rfl (wants0 rfl) rfl rfl ?_
    refine T.lenSlice .list rfl (wants0 rfl) rfl rfl ?_
    refine T.bin .list rfl (wants0 rfl) rfl rfl rfl rfl ?_
    refine T.move .list rfl (wants0 rfl) rfl rfl ?_
    refine T.bool (b := (decide ((64 : Int) < ((l1.length : Int))))) (fun hb4 => ?_) (fun hb4 => ?_)
    ·replace hr := inv_posB hb4 hr
     refine T.leave .list (wantsNot rfl rfl rfl hb4) rfl ?_
     refine T.leave .list (wantsNot rfl rfl rfl hb4) rfl ?_
     refine T.leave .list (wantsNot rfl rfl rfl hb4) rfl ?_
     refine T.pickT .list rfl (wants0 rfl) rfl rfl hb4 rfl ?_
     refine T.assign .list rfl (wants0 rfl) rfl rfl ?_
     refine T.nil ?_
     refine T.then_normal ?_
     exact T.le (EnvLe.cons rfl EnvLe.nil) (T.pick [0, 1, 2, 3, 4, 5, 6, 7] 9 rfl rfl nla rfl (J1 true () hr))
    ·replace hr := inv_negB hb4 hr
     refine T.move .list rfl (wants1 rfl rfl rfl hb4) rfl rfl ?_
     refine T.lenSlice .list rfl (wants1 rfl rfl rfl hb4) rfl rfl ?_
     refine T.bin .list rfl (wants1 rfl rfl rfl hb4) rfl rfl rfl rfl ?_
     refine T.env1 21 rfl (congrArg Value.bool (by decide : (decide ((1800 : Int) < 0)) = false)) ?_
     refine T.pickF .list rfl (wants0 rfl) rfl rfl hb4 rfl ?_
     refine T.assign .list rfl (wants0 rfl) rfl rfl ?_
     refine T.nil ?_
     refine T.then_normal ?_
     exact T.le (EnvLe.cons rfl EnvLe.nil) (T.pick [0, 1, 2, 3, 4, 5, 6, 7] 9 rfl rfl nla rfl (J1 false () hr))

noncomputable def tree_Tree_get_nil1.k1 (s1 : Unit) : Option (Unit × Bool) :=
  some ((), false)
noncomputable def tree_Tree_get_nil1.st1 (s2 : Unit) : Option (Unit ⊕ Unit) :=
  some (.inr ())
noncomputable def tree_Tree_get_nil1.impl (o0 : Int × Int × Int × Int) (o0a : Int × Int × Int × Int) (q0ab : List (Int × Int)) (o0ac : Int × Bool × Int × Int × Int × Int × Int) (q0acb : List (Int × (List UInt8))) (q0acc : List (Int × (List UInt8))) (q0h : List (Int × Int)) (q0k : List (Int × Int)) (l2 : List UInt8) : Option (Unit × Bool) :=
  (loop (tree_Tree_get_nil1.st1) ()).bind (fun e1 => tree_Tree_get_nil1.k1 e1)
set_option maxRecDepth 100000 in
set_option maxHeartbeats 4000000 in
theorem tree_Tree_get_nil1.c {B : World} {hs : List MP} {w : World} {p0 : Nat} {o0 : Int × Int × Int × Int} {p0a : Nat} {o0a : Int × Int × Int × Int} {m0ab : Nat} {q0ab : List (Int × Int)} {p0ac : Nat} {o0ac : Int × Bool × Int × Int × Int × Int × Int} {m0acb : Nat} {q0acb : List (Int × (List UInt8))} {c0acc : Nat} {A0acc : Option Addr} {q0acc : List (Int × (List UInt8))} {m0h : Nat} {q0h : List (Int × Int)} {m0k : Nat} {q0k : List (Int × Int)} {i2 c2 : Nat} {A2 : Option Addr} {l2 : List UInt8} (hB : Base B) (hS : St B (ck2 p0 o0 p0a m0h m0k :: ck1 p0a o0a m0ab p0ac :: Mp E64 m0ab q0ab :: ck0 p0ac o0ac m0acb A0acc q0acc.length c0acc :: Mp (Elt.slice E8) m0acb q0acb :: Bf (Elt.pair E64 (Elt.slice E8)) 174 A0acc c0acc q0acc :: Mp E64 m0h q0h :: Mp E64 m0k q0k :: hs) w) (h2 : (ck2 p0 o0 p0a m0h m0k :: ck1 p0a o0a m0ab p0ac :: Mp E64 m0ab q0ab :: ck0 p0ac o0ac m0acb A0acc q0acc.length c0acc :: Mp (Elt.slice E8) m0acb q0acb :: Bf (Elt.pair E64 (Elt.slice E8)) 174 A0acc c0acc q0acc :: Mp E64 m0h q0h :: Mp E64 m0k q0k :: hs)[i2]? = some (Ro E8 A2 c2 l2)) {r : Unit × Bool} (hr : tree_Tree_get_nil1.impl o0 o0a q0ab o0ac q0acb q0acc q0h q0k l2 = some r) :
    Calls Tryd.prog 87 #[.pointer (some ⟨p0, 0, none⟩), .nilIface, .slice A2 l2.length c2] w fun e w' => ∃ x : Unit, e = .returned (.tuple #[.slice none 0 0, .bool r.2]) ∧ St B (ck2 p0 o0 p0a m0h m0k :: ck1 p0a o0a m0ab p0ac :: Mp E64 m0ab q0ab :: ck0 p0ac o0ac m0acb A0acc q0acc.length c0acc :: Mp (Elt.slice E8) m0acb q0acb :: Bf (Elt.pair E64 (Elt.slice E8)) 174 A0acc c0acc q0acc :: Mp E64 m0h q0h :: Mp E64 m0k q0k :: hs) w' := by
 unfold tree_Tree_get_nil1.impl at hr
 refine calls_T Tryd.func87 rfl rfl rfl hS ?_
 refine T.front i2 h2 ?_
 refine T.seq ?_
 refine T.region ?_
 refine T.assign .list rfl (wants0 rfl) rfl rfl ?_
 refine T.assign .list rfl (wants0 rfl) rfl rfl ?_
 refine T.nil ?_
 refine T.then_normal ?_
 refine T.seqJ (fun (s1 : Unit) (x1 : Unit) => []) (fun s1 x1 => ck2 p0 o0 p0a m0h m0k :: ck1 p0a o0a m0ab p0ac :: Mp E64 m0ab q0ab :: ck0 p0ac o0ac m0acb A0acc q0acc.length c0acc :: Mp (Elt.slice E8) m0acb q0acb :: Bf (Elt.pair E64 (Elt.slice E8)) 174 A0acc c0acc q0acc :: Mp E64 m0h q0h :: Mp E64 m0k q0k :: hs) (fun s1 => tree_Tree_get_nil1.k1 s1 = some r) (fun s1 x1 hk1 => ?_) (fun J1 => ?_)
 ·unfold tree_Tree_get_nil1.k1 at hk1
  refine T.seq ?_
  refine T.region ?_
  refine T.assign .list rfl (wants0 rfl) rfl rfl ?_
  refine T.assign .list rfl (wants0 rfl) rfl rfl ?_
  refine T.nil ?_
  refine T.then_normal ?_
  refine T.ret ?_
  obtain rfl := inv_some hk1
  refine T.pick [0, 1, 2, 3, 4, 5, 6, 7] 8 rfl rfl nla rfl ?_
  refine T.ret2 rfl rfl rfl (fun w hS => ⟨(), rfl, hS⟩)
 ·refine T.block ?_
  obtain ⟨e1, hl1, hr⟩ := inv_bind hr
  refine T.le (EnvLe.cons rfl (EnvLe.cons rfl (EnvLe.cons rfl EnvLe.nil))) (T.pick [1, 2, 3, 4, 5, 6, 7, 8, 0] 9 rfl rfl nla rfl (T.loop (s0 := ()) (env := fun s2 x2 => [(0, .pointer (some ⟨p0, 0, none⟩)), (1, .nilIface), (2, .slice A2 l2.length c2)]) (hs := fun (s2 : Unit) (x2 : Unit) => ck2 p0 o0 p0a m0h m0k :: ck1 p0a o0a m0ab p0ac :: Mp E64 m0ab q0ab :: ck0 p0ac o0ac m0acb A0acc q0acc.length c0acc :: Mp (Elt.slice E8) m0acb q0acb :: Bf (Elt.pair E64 (Elt.slice E8)) 174 A0acc c0acc q0acc :: Mp E64 m0h q0h :: Mp E64 m0k q0k :: Ro E8 A2 c2 l2 :: hs) hl1 () (fun K1 s2 x2 o1 he1 hm1 hx1 => ?_)))
  unfold tree_Tree_get_nil1.st1 at he1
  refine T.seq ?_
  refine T.seq ?_
  refine T.region ?_
  refine T.move .list rfl (wants0 rfl) rfl rfl ?_
  refine T.nilIfNe .list rfl (wants0 rfl) rfl rfl (by kernel_rfl) ?_
  refine T.nil ?_
  refine T.then_normal ?_
  refine T.condF rfl rfl ?_
  refine T.exit ?_
  refine T.then_exit ?_
  refine T.then_exit ?_
  obtain rfl := inv_some he1
  obtain rfl := hx1 _ rfl
  refine T.in_hit ?_
  refine T.then_normal ?_
  exact T.le EnvLe.nil (T.pick [0, 1, 2, 3, 4, 5, 6, 7] 9 rfl rfl nla rfl (J1 () () hr))

noncomputable def tree_Tree_Get.impl (o0 : Int × Int × Int × Int) (o0a : Int × Int × Int × Int) (q0ab : List (Int × Int)) (o0ac : Int × Bool × Int × Int × Int × Int × Int) (q0acb : List (Int × (List UInt8))) (q0acc : List (Int × (List UInt8))) (q0h : List (Int × Int)) (q0k : List (Int × Int)) (l1 : List UInt8) : Option (Unit × Bool × Int) :=
  (tree_Tree_may_nil2.impl o0 o0a q0ab o0ac q0acb q0acc q0h q0k l1).bind fun r1 => (if ((!(decide (r1 = 0)))) = true then some ((), false, r1) else (tree_Tree_get_nil1.impl o0 o0a q0ab o0ac q0acb q0acc q0h q0k l1).bind fun r2 => (tree_caught.impl 0).bind fun r3 => some ((), r2.2, 0))
set_option maxRecDepth 100000 in
set_option maxHeartbeats 4000000 in
theorem tree_Tree_Get.c {B : World} {hs : List MP} {w : World} {p0 : Nat} {o0 : Int × Int × Int × Int} {p0a : Nat} {o0a : Int × Int × Int × Int} {m0ab : Nat} {q0ab : List (Int × Int)} {p0ac : Nat} {o0ac : Int × Bool × Int × Int × Int × Int × Int} {m0acb : Nat} {q0acb : List (Int × (List UInt8))} {c0acc : Nat} {A0acc : Option Addr} {q0acc : List (Int × (List UInt8))} {m0h : Nat} {q0h : List (Int × Int)} {m0k : Nat} {q0k : List (Int × Int)} {i1 c1 : Nat} {A1 : Option Addr} {l1 : List UInt8} (hB : Base B) (hS : St B (ck2 p0 o0 p0a m0h m0k :: ck1 p0a o0a m0ab p0ac :: Mp E64 m0ab q0ab :: ck0 p0ac o0ac m0acb A0acc q0acc.length c0acc :: Mp (Elt.slice E8) m0acb q0acb :: Bf (Elt.pair E64 (Elt.slice E8)) 174 A0acc c0acc q0acc :: Mp E64 m0h q0h :: Mp E64 m0k q0k :: hs) w) (h1 : (ck2 p0 o0 p0a m0h m0k :: ck1 p0a o0a m0ab p0ac :: Mp E64 m0ab q0ab :: ck0 p0ac o0ac m0acb A0acc q0acc.length c0acc :: Mp (Elt.slice E8) m0acb q0acb :: Bf (Elt.pair E64 (Elt.slice E8)) 174 A0acc c0acc q0acc :: Mp E64 m0h q0h :: Mp E64 m0k q0k :: hs)[i1]? = some (Ro E8 A1 c1 l1)) {r : Unit × Bool × Int} (hr : tree_Tree_Get.impl o0 o0a q0ab o0ac q0acb q0acc q0h q0k l1 = some r) :
    Calls Tryd.prog 72 #[.pointer (some ⟨p0, 0, none⟩), .slice A1 l1.length c1] w fun e w' => ∃ x : Unit, e = .returned (.tuple #[.slice none 0 0, .bool r.2.1, .int .i64 r.2.2]) ∧ St B (ck2 p0 o0 p0a m0h m0k :: ck1 p0a o0a m0ab p0ac :: Mp E64 m0ab q0ab :: ck0 p0ac o0ac m0acb A0acc q0acc.length c0acc :: Mp (Elt.slice E8) m0acb q0acb :: Bf (Elt.pair E64 (Elt.slice E8)) 174 A0acc c0acc q0acc :: Mp E64 m0h q0h :: Mp E64 m0k q0k :: hs) w' := by
 unfold tree_Tree_Get.impl at hr
 refine calls_TD Tryd.func72 rfl rfl rfl hS ?_
 refine T.front i1 h1 ?_
 refine T.seq ?_
 refine T.region ?_
 refine T.assign .list rfl (wants0 rfl) rfl rfl ?_
 refine T.assign .list rfl (wants0 rfl) rfl rfl ?_
 refine T.allocS .list rfl (wants0 rfl) rfl (cs := [.int .i64 0]) rfl (fun b1 => ?_)
 refine T.nil ?_
 refine T.then_normal ?_
 refine T.seq ?_
 refine T.seq ?_
 refine T.region ?_
 refine T.move .list rfl (wants0 rfl) rfl rfl ?_
 refine T.move .list rfl (wants0 rfl) rfl rfl ?_
 refine T.pick [2, 3, 4, 5, 6, 7, 8, 9, 0, 1] 10 rfl rfl nla (hs' := ck2 p0 o0 p0a m0h m0k :: ck1 p0a o0a m0ab p0ac :: Mp E64 m0ab q0ab :: ck0 p0ac o0ac m0acb A0acc q0acc.length c0acc :: Mp (Elt.slice E8) m0acb q0acb :: Bf (Elt.pair E64 (Elt.slice E8)) 174 A0acc c0acc q0acc :: Mp E64 m0h q0h :: Mp E64 m0k q0k :: Cl b1 28 [.int .i64 0] :: Ro E8 A1 c1 l1 :: hs) rfl ?_
 obtain ⟨r1, hg1, hr⟩ := inv_bind hr
 refine T.call .list (wants0 rfl) rfl (run_callF (vs := [_, _, _]) rfl Tryd.func86 rfl (by decide) rfl) (fun w hS => tree_Tree_may_nil2.c hB hS (i1 := 9) (o0 := o0) (o0a := o0a) (q0ab := q0ab) (o0ac := o0ac) (q0acb := q0acb) (q0acc := q0acc) (q0h := q0h) (q0k := q0k) rfl hg1) (fun x1 => ?_)
 refine T.assign .list rfl (wants0 rfl) rfl rfl ?_
 refine T.nil ?_
 refine T.then_normal ?_
 refine T.seq ?_
 refine T.region ?_
 refine T.move .list rfl (wants0 rfl) rfl rfl ?_
 refine T.bin .list rfl (wants0 rfl) rfl rfl rfl rfl ?_
 refine T.nil ?_
 refine T.then_normal ?_
 refine T.cond rfl (fun hb1 => ?_) (fun hb1 => ?_)
 ·replace hr := inv_posB hb1 hr
  refine T.seq ?_
  refine T.region ?_
  refine T.move .list rfl (wants0 rfl) rfl rfl ?_
  refine T.assign .list rfl (wants0 rfl) rfl rfl ?_
  refine T.assign .list rfl (wants0 rfl) rfl rfl ?_
  refine T.store .list 8 rfl rfl (wants0 rfl) rfl rfl rfl rfl (Nat.le_of_ble_eq_true rfl) rfl (cs' := [.int .i64 r1]) rfl rfl ?_
  refine T.nil ?_
  refine T.then_normal ?_
  refine T.ret ?_
  refine T.then_ret ?_
  refine T.retD ?_
  obtain rfl := inv_some hr
  refine T.lvOut3 rfl (OutRun.tmp rfl) (OutRun.tmp rfl) (OutRun.cell1 8 rfl rfl rfl) (fun w hS => ⟨(), rfl, hS.pick [0, 1, 2, 3, 4, 5, 6, 7] 10 rfl rfl nla rfl⟩)
 ·replace hr := inv_negB hb1 hr
  refine T.skip ?_
  refine T.then_normal ?_
  refine T.seq ?_
  refine T.region ?_
  refine T.defer .list (run_deferF (vs := [_]) rfl rfl) (wants0 rfl) rfl ?_
  refine T.nil ?_
  refine T.then_normal ?_
  refine T.seq ?_
  refine T.region ?_
  refine T.move .list rfl (wants0 rfl) rfl rfl ?_
  refine T.move .list rfl (wants0 rfl) rfl rfl ?_
  refine T.nilCheck .list rfl (wants0 rfl) rfl rfl ?_
  refine T.field .list rfl (wants0 rfl) rfl rfl ?_
  refine T.field .list rfl (wants0 rfl) rfl rfl ?_
  refine T.load .list 0 rfl rfl (wants0 rfl) rfl rfl rfl ?_
  refine T.move .list rfl (wants0 rfl) rfl rfl ?_
  refine T.pick [0, 1, 2, 3, 4, 5, 6, 7, 8, 9] 10 rfl rfl nla (hs' := ck2 p0 o0 p0a m0h m0k :: ck1 p0a o0a m0ab p0ac :: Mp E64 m0ab q0ab :: ck0 p0ac o0ac m0acb A0acc q0acc.length c0acc :: Mp (Elt.slice E8) m0acb q0acb :: Bf (Elt.pair E64 (Elt.slice E8)) 174 A0acc c0acc q0acc :: Mp E64 m0h q0h :: Mp E64 m0k q0k :: Cl b1 28 [.int .i64 0] :: Ro E8 A1 c1 l1 :: hs) rfl ?_
  obtain ⟨r2, hg2, hr⟩ := inv_bind hr
  refine T.call .list (wants0 rfl) rfl (run_callF (vs := [_, _, _]) rfl Tryd.func87 rfl (by decide) rfl) (fun w hS => tree_Tree_get_nil1.c hB hS (i2 := 9) (o0 := o0) (o0a := o0a) (q0ab := q0ab) (o0ac := o0ac) (q0acb := q0acb) (q0acc := q0acc) (q0h := q0h) (q0k := q0k) rfl hg2) (fun x2 => ?_)
  refine T.move .list rfl (wants0 rfl) rfl rfl ?_
  refine T.extract .list rfl (wants0 rfl) rfl rfl rfl ?_
  refine T.extract .list rfl (wants0 rfl) rfl rfl rfl ?_
  refine T.assign .list rfl (wants0 rfl) rfl rfl ?_
  refine T.assign .list rfl (wants0 rfl) rfl rfl ?_
  refine T.nil ?_
  refine T.then_normal ?_
  refine T.seq ?_
  refine T.region ?_
  refine T.move .list rfl (wants0 rfl) rfl rfl ?_
  refine T.move .list rfl (wants0 rfl) rfl rfl ?_
  refine T.assign .list rfl (wants0 rfl) rfl rfl ?_
  refine T.assign .list rfl (wants0 rfl) rfl rfl ?_
  refine T.store .list 8 rfl rfl (wants0 rfl) rfl rfl rfl rfl (Nat.le_of_ble_eq_true rfl) rfl (cs' := [.int .i64 0]) rfl rfl ?_
  refine T.nil ?_
  refine T.then_normal ?_
  refine T.ret ?_
  refine T.retD ?_
  refine T.pick [8, 0, 1, 2, 3, 4, 5, 6, 7, 9] 10 rfl rfl nla (hs' := Cl b1 28 [.int .i64 0] :: ck2 p0 o0 p0a m0h m0k :: ck1 p0a o0a m0ab p0ac :: Mp E64 m0ab q0ab :: ck0 p0ac o0ac m0acb A0acc q0acc.length c0acc :: Mp (Elt.slice E8) m0acb q0acb :: Bf (Elt.pair E64 (Elt.slice E8)) 174 A0acc c0acc q0acc :: Mp E64 m0h q0h :: Mp E64 m0k q0k :: Ro E8 A1 c1 l1 :: hs) rfl ?_
  obtain ⟨r3, hg3, hr⟩ := inv_bind hr
  refine T.lvCons (args := [.pointer (some ⟨b1, 0, none⟩)]) (caps := []) (vs := [.pointer (some ⟨b1, 0, none⟩)]) (v := .tuple #[]) Tryd.func37 rfl (by decide) rfl (fun w hS => tree_caught.d hB hS (o0 := 0)  hg3) (fun x3 => ?_)
  obtain rfl := inv_some hr
  refine T.lvOut3 rfl (OutRun.tmp rfl) (OutRun.tmp rfl) (OutRun.cell1 0 rfl rfl rfl) (fun w hS => ⟨(), rfl, hS.pick [1, 2, 3, 4, 5, 6, 7, 8] 10 rfl rfl nla rfl⟩)

noncomputable def local_right_nil2.k2 (s2 : Bool) : Option Int :=
  (if s2 = true then some 3 else some 0)
noncomputable def local_right_nil2.k1 (l1 : List UInt8) (s1 : Bool) : Option Int :=
  (if s1 = true then some 1 else (if ((decide ((60 : Int) < ((l1.length : Int))))) = true then local_right_nil2.k2 true else local_right_nil2.k2 false))
noncomputable def local_right_nil2.impl (a0 : Int) (l1 : List UInt8) (a3 : Bool) : Option Int :=
  (if ((decide (a0 < 0))) = true then local_right_nil2.k1 l1 true else (if ((decide ((16 : Int) ≤ a0))) = true then local_right_nil2.k1 l1 true else (if ((decide ((((l1.length : Int))) = 0))) = true then local_right_nil2.k1 l1 (!a3) else local_right_nil2.k1 l1 false)))
set_option maxRecDepth 100000 in
set_option maxHeartbeats 4000000 in
theorem local_right_nil2.c {B : World} {hs : List MP} {w : World} {a0 : Int} {i1 c1 : Nat} {A1 : Option Addr} {l1 : List UInt8} {a3 : Bool} (hB : Base B) (hS : St B hs w) (h1 : (hs)[i1]? = some (Ro E8 A1 c1 l1)) {r : Int} (hr : local_right_nil2.impl a0 l1 a3 = some r) :
    Calls Tryd.prog 71 #[.int .i64 a0, .slice A1 l1.length c1, .slice none 0 0, .bool a3] w fun e w' => ∃ x : Unit, e = .returned (.int .i64 r) ∧ St B hs w' := by
 unfold local_right_nil2.impl at hr
 refine calls_T Tryd.func71 rfl rfl rfl hS ?_
 refine T.front i1 h1 ?_
 refine T.seq ?_
 refine T.region ?_
 refine T.assign .list rfl (wants0 rfl) rfl rfl ?_
 refine T.nil ?_
 refine T.then_normal ?_
 refine T.seq ?_
 refine T.block ?_
 refine T.seqJ (fun (s1 : Bool) (x1 : Unit) => [(1, .slice A1 l1.length c1), (2, .slice none 0 0), (9, .bool s1)]) (fun s1 x1 => Ro E8 A1 c1 l1 :: hs) (fun s1 => local_right_nil2.k1 l1 s1 = some r) (fun s1 x1 hk1 => ?_) (fun J1 => ?_)
 ·unfold local_right_nil2.k1 at hk1
  refine T.cond rfl (fun hb1 => ?_) (fun hb1 => ?_)
  ·replace hk1 := inv_posB hb1 hk1
   refine T.seq ?_
   refine T.region ?_
   refine T.assign .list rfl (wants0 rfl) rfl rfl ?_
   refine T.nil ?_
   refine T.then_normal ?_
   refine T.ret ?_
   refine T.in_ret ?_
   refine T.then_ret ?_
   obtain rfl := inv_some hk1
   refine T.pick [] 1 rfl rfl nla rfl ?_
   refine T.ret1 rfl rfl (fun w hS => ⟨(), rfl, hS⟩)
  ·replace hk1 := inv_negB hb1 hk1
   refine T.seqJ (fun (s2 : Bool) (x2 : Unit) => [(25, .bool s2)]) (fun s2 x2 => hs) (fun s2 => local_right_nil2.k2 s2 = some r) (fun s2 x2 hk2 => ?_) (fun J2 => ?_)
   ·unfold local_right_nil2.k2 at hk2
    refine T.cond rfl (fun hb2 => ?_) (fun hb2 => ?_)
    ·replace hk2 := inv_posB hb2 hk2
     refine T.seq ?_
     refine T.region ?_
     refine T.assign .list rfl (wants0 rfl) rfl rfl ?_
     refine T.nil ?_
     refine T.then_normal ?_
     refine T.ret ?_
     refine T.in_ret ?_
     refine T.then_ret ?_
     obtain rfl := inv_some hk2
     refine T.pick [] 0 rfl rfl nla rfl ?_
     refine T.ret1 rfl rfl (fun w hS => ⟨(), rfl, hS⟩)
    ·replace hk2 := inv_negB hb2 hk2
     refine T.skip ?_
     refine T.in_normal ?_
     refine T.then_normal ?_
     refine T.seq ?_
     refine T.region ?_
     refine T.assign .list rfl (wants0 rfl) rfl rfl ?_
     refine T.nil ?_
     refine T.then_normal ?_
     refine T.ret ?_
     obtain rfl := inv_some hk2
     refine T.pick [] 0 rfl rfl nla rfl ?_
     refine T.ret1 rfl rfl (fun w hS => ⟨(), rfl, hS⟩)
   ·refine T.region ?_
    refine T.move .list rfl (wants0 rfl) rfl rfl ?_
    refine T.lenSlice .list rfl (wants0 rfl) rfl rfl ?_
    refine T.bin .list rfl (wants0 rfl) rfl rfl rfl rfl ?_
    refine T.move .list rfl (wants0 rfl) rfl rfl ?_
    refine T.bool (b := (decide ((60 : Int) < ((l1.length : Int))))) (fun hb3 => ?_) (fun hb3 => ?_)
    ·replace hk1 := inv_posB hb3 hk1
     refine T.leave .list (wantsNot rfl rfl rfl hb3) rfl ?_
     refine T.leave .list (wantsNot rfl rfl rfl hb3) rfl ?_
     refine T.leave .list (wantsNot rfl rfl rfl hb3) rfl ?_
     refine T.pickT .list rfl (wants0 rfl) rfl rfl hb3 rfl ?_
     refine T.assign .list rfl (wants0 rfl) rfl rfl ?_
     refine T.nil ?_
     refine T.then_normal ?_
     exact T.le (EnvLe.cons rfl EnvLe.nil) (T.pick [] 1 rfl rfl nla rfl (J2 true () hk1))
    ·replace hk1 := inv_negB hb3 hk1
     refine T.move .list rfl (wants1 rfl rfl rfl hb3) rfl rfl ?_
     refine T.lenSlice .list rfl (wants1 rfl rfl rfl hb3) rfl rfl ?_
     refine T.bin .list rfl (wants1 rfl rfl rfl hb3) rfl rfl rfl rfl ?_
     refine T.env1 32 rfl (congrArg Value.bool (by decide : (decide ((1800 : Int) < 0)) = false)) ?_
     refine T.pickF .list rfl (wants0 rfl) rfl rfl hb3 rfl ?_
     refine T.assign .list rfl (wants0 rfl) rfl rfl ?_
     refine T.nil ?_
     refine T.then_normal ?_
     exact T.le (EnvLe.cons rfl EnvLe.nil) (T.pick [] 1 rfl rfl nla rfl (J2 false () hk1))
 ·refine T.region ?_
  refine T.move .list rfl (wants0 rfl) rfl rfl ?_
  refine T.bin .list rfl (wants0 rfl) rfl rfl rfl rfl ?_
  refine T.move .list rfl (wants0 rfl) rfl rfl ?_
  refine T.bool (b := (decide (a0 < 0))) (fun hb4 => ?_) (fun hb4 => ?_)
  ·replace hr := inv_posB hb4 hr
   refine T.leave .list (wantsNot rfl rfl rfl hb4) rfl ?_
   refine T.leave .list (wantsNot rfl rfl rfl hb4) rfl ?_
   refine T.pickT .list rfl (wants0 rfl) rfl rfl hb4 rfl ?_
   refine T.move .list rfl (wants0 rfl) rfl rfl ?_
   refine T.leave .list (wantsNot rfl rfl rfl rfl) rfl ?_
   refine T.leave .list (wantsNot rfl rfl rfl rfl) rfl ?_
   refine T.leave .list (wantsNot rfl rfl rfl rfl) rfl ?_
   refine T.leave .list (wantsNot rfl rfl rfl rfl) rfl ?_
   refine T.leave .list (wantsUndef rfl rfl rfl) rfl ?_
   refine T.leave .list (wantsUndef rfl rfl rfl) rfl ?_
   refine T.leave .list (wantsNot rfl rfl rfl rfl) rfl ?_
   refine T.pickT .list rfl (wants0 rfl) rfl rfl rfl rfl ?_
   refine T.assign .list rfl (wants0 rfl) rfl rfl ?_
   refine T.nil ?_
   refine T.then_normal ?_
   exact T.le (EnvLe.cons rfl (EnvLe.cons rfl (EnvLe.cons rfl EnvLe.nil))) (T.pick [0] 1 rfl rfl nla rfl (J1 true () hr))
  ·replace hr := inv_negB hb4 hr
   refine T.move .list rfl (wants1 rfl rfl rfl hb4) rfl rfl ?_
   refine T.bin .list rfl (wants1 rfl rfl rfl hb4) rfl rfl rfl rfl ?_
   refine T.pickF .list rfl (wants0 rfl) rfl rfl hb4 rfl ?_
   refine T.move .list rfl (wants0 rfl) rfl rfl ?_
   refine T.bool (b := (decide ((16 : Int) ≤ a0))) (fun hb5 => ?_) (fun hb5 => ?_)
   ·replace hr := inv_posB hb5 hr
    refine T.leave .list (wantsNot rfl rfl rfl hb5) rfl ?_
    refine T.leave .list (wantsNot rfl rfl rfl hb5) rfl ?_
    refine T.leave .list (wantsNot rfl rfl rfl hb5) rfl ?_
    refine T.leave .list (wantsNot rfl rfl rfl hb5) rfl ?_
    refine T.leave .list (wantsUndef rfl rfl rfl) rfl ?_
    refine T.leave .list (wantsUndef rfl rfl rfl) rfl ?_
    refine T.leave .list (wantsNot rfl rfl rfl hb5) rfl ?_
    refine T.pickT .list rfl (wants0 rfl) rfl rfl hb5 rfl ?_
    refine T.assign .list rfl (wants0 rfl) rfl rfl ?_
    refine T.nil ?_
    refine T.then_normal ?_
    exact T.le (EnvLe.cons rfl (EnvLe.cons rfl (EnvLe.cons rfl EnvLe.nil))) (T.pick [0] 1 rfl rfl nla rfl (J1 true () hr))
   ·replace hr := inv_negB hb5 hr
    refine T.move .list rfl (wants1 rfl rfl rfl hb5) rfl rfl ?_
    refine T.lenSlice .list rfl (wants1 rfl rfl rfl hb5) rfl rfl ?_
    refine T.bin .list rfl (wants1 rfl rfl rfl hb5) rfl rfl rfl rfl ?_
    refine T.move .list rfl (wants1 rfl rfl rfl hb5) rfl rfl ?_
    refine T.bool (b := (decide ((((l1.length : Int))) = 0))) (fun hb6 => ?_) (fun hb6 => ?_)
    ·replace hr := inv_posB hb6 hr
     refine T.move .list rfl (wants1 rfl rfl rfl hb6) rfl rfl ?_
     refine T.not .list rfl (wants1 rfl rfl rfl hb6) rfl rfl ?_
     refine T.pickT .list rfl (wants1 rfl rfl rfl hb5) rfl rfl hb6 rfl ?_
     refine T.pickF .list rfl (wants0 rfl) rfl rfl hb5 rfl ?_
     refine T.assign .list rfl (wants0 rfl) rfl rfl ?_
     refine T.nil ?_
     refine T.then_normal ?_
     exact T.le (EnvLe.cons rfl (EnvLe.cons rfl (EnvLe.cons rfl EnvLe.nil))) (T.pick [0] 1 rfl rfl nla rfl (J1 (!a3) () hr))
    ·replace hr := inv_negB hb6 hr
     refine T.leave .list (wantsNot rfl rfl rfl hb6) rfl ?_
     refine T.leave .list (wantsNot rfl rfl rfl hb6) rfl ?_
     refine T.pickF .list rfl (wants1 rfl rfl rfl hb5) rfl rfl hb6 rfl ?_
     refine T.pickF .list rfl (wants0 rfl) rfl rfl hb5 rfl ?_
     refine T.assign .list rfl (wants0 rfl) rfl rfl ?_
     refine T.nil ?_
     refine T.then_normal ?_
     exact T.le (EnvLe.cons rfl (EnvLe.cons rfl (EnvLe.cons rfl EnvLe.nil))) (T.pick [0] 1 rfl rfl nla rfl (J1 false () hr))

noncomputable def local_Store_Get.impl (o0 : Int × Int × Int × Int × Int × Int × Int × Int × Int × Int × Int × Int × Int × Int × Int × Int × Int) (o0a : Int × Int × Int × Int) (o0aa : Int × Int × Int × Int) (q0aab : List (Int × Int)) (o0aac : Int × Bool × Int × Int × Int × Int × Int) (q0aacb : List (Int × (List UInt8))) (q0aacc : List (Int × (List UInt8))) (q0ah : List (Int × Int)) (q0ak : List (Int × Int)) (a1 : Int) (l2 : List UInt8) : Option (Unit × Bool × Int) :=
  (tree_Tree_Dead.impl o0a o0aa q0aab o0aac q0aacb q0aacc q0ah q0ak).bind fun r1 => (if r1 = true then some ((), false, 20) else (local_right_nil2.impl a1 l2 false).bind fun r2 => (if ((!(decide (r2 = 0)))) = true then some ((), false, r2) else (local_in.impl a1 l2).bind fun r3 => (tree_Tree_Get.impl o0a o0aa q0aab o0aac q0aacb q0aacc q0ah q0ak r3).bind fun r4 => some ((), r4.2.1, r4.2.2)))
set_option maxRecDepth 100000 in
set_option maxHeartbeats 4000000 in
theorem local_Store_Get.c {B : World} {hs : List MP} {w : World} {p0 : Nat} {o0 : Int × Int × Int × Int × Int × Int × Int × Int × Int × Int × Int × Int × Int × Int × Int × Int × Int} {p0a : Nat} {o0a : Int × Int × Int × Int} {p0aa : Nat} {o0aa : Int × Int × Int × Int} {m0aab : Nat} {q0aab : List (Int × Int)} {p0aac : Nat} {o0aac : Int × Bool × Int × Int × Int × Int × Int} {m0aacb : Nat} {q0aacb : List (Int × (List UInt8))} {c0aacc : Nat} {A0aacc : Option Addr} {q0aacc : List (Int × (List UInt8))} {m0ah : Nat} {q0ah : List (Int × Int)} {m0ak : Nat} {q0ak : List (Int × Int)} {a1 : Int} {i2 c2 : Nat} {A2 : Option Addr} {l2 : List UInt8} (hB : Base B) (hS : St B (ck4 p0 o0 p0a :: ck2 p0a o0a p0aa m0ah m0ak :: ck1 p0aa o0aa m0aab p0aac :: Mp E64 m0aab q0aab :: ck0 p0aac o0aac m0aacb A0aacc q0aacc.length c0aacc :: Mp (Elt.slice E8) m0aacb q0aacb :: Bf (Elt.pair E64 (Elt.slice E8)) 174 A0aacc c0aacc q0aacc :: Mp E64 m0ah q0ah :: Mp E64 m0ak q0ak :: hs) w) (h2 : (ck4 p0 o0 p0a :: ck2 p0a o0a p0aa m0ah m0ak :: ck1 p0aa o0aa m0aab p0aac :: Mp E64 m0aab q0aab :: ck0 p0aac o0aac m0aacb A0aacc q0aacc.length c0aacc :: Mp (Elt.slice E8) m0aacb q0aacb :: Bf (Elt.pair E64 (Elt.slice E8)) 174 A0aacc c0aacc q0aacc :: Mp E64 m0ah q0ah :: Mp E64 m0ak q0ak :: hs)[i2]? = some (Ro E8 A2 c2 l2)) {r : Unit × Bool × Int} (hr : local_Store_Get.impl o0 o0a o0aa q0aab o0aac q0aacb q0aacc q0ah q0ak a1 l2 = some r) :
    Calls Tryd.prog 47 #[.pointer (some ⟨p0, 0, none⟩), .int .i64 a1, .slice A2 l2.length c2] w fun e w' => ∃ x : Unit, e = .returned (.tuple #[.slice none 0 0, .bool r.2.1, .int .i64 r.2.2]) ∧ St B (ck4 p0 o0 p0a :: ck2 p0a o0a p0aa m0ah m0ak :: ck1 p0aa o0aa m0aab p0aac :: Mp E64 m0aab q0aab :: ck0 p0aac o0aac m0aacb A0aacc q0aacc.length c0aacc :: Mp (Elt.slice E8) m0aacb q0aacb :: Bf (Elt.pair E64 (Elt.slice E8)) 174 A0aacc c0aacc q0aacc :: Mp E64 m0ah q0ah :: Mp E64 m0ak q0ak :: hs) w' := by
 unfold local_Store_Get.impl at hr
 refine calls_T Tryd.func47 rfl rfl rfl hS ?_
 refine T.front i2 h2 ?_
 refine T.seq ?_
 refine T.region ?_
 refine T.assign .list rfl (wants0 rfl) rfl rfl ?_
 refine T.assign .list rfl (wants0 rfl) rfl rfl ?_
 refine T.assign .list rfl (wants0 rfl) rfl rfl ?_
 refine T.nil ?_
 refine T.then_normal ?_
 refine T.seq ?_
 refine T.seq ?_
 refine T.region ?_
 refine T.move .list rfl (wants0 rfl) rfl rfl ?_
 refine T.nilCheck .list rfl (wants0 rfl) rfl rfl ?_
 refine T.field .list rfl (wants0 rfl) rfl rfl ?_
 refine T.load .list 1 rfl rfl (wants0 rfl) rfl rfl rfl ?_
 refine T.pick [2, 3, 4, 5, 6, 7, 8, 9, 0, 1] 10 rfl rfl nla (hs' := ck2 p0a o0a p0aa m0ah m0ak :: ck1 p0aa o0aa m0aab p0aac :: Mp E64 m0aab q0aab :: ck0 p0aac o0aac m0aacb A0aacc q0aacc.length c0aacc :: Mp (Elt.slice E8) m0aacb q0aacb :: Bf (Elt.pair E64 (Elt.slice E8)) 174 A0aacc c0aacc q0aacc :: Mp E64 m0ah q0ah :: Mp E64 m0ak q0ak :: Ro E8 A2 c2 l2 :: ck4 p0 o0 p0a :: hs) rfl ?_
 obtain ⟨r1, hg1, hr⟩ := inv_bind hr
 refine T.call .list (wants0 rfl) rfl (run_callF (vs := [_]) rfl Tryd.func25 rfl (by decide) rfl) (fun w hS => tree_Tree_Dead.c hB hS (o0 := o0a) (o0a := o0aa) (q0ab := q0aab) (o0ac := o0aac) (q0acb := q0aacb) (q0acc := q0aacc) (q0h := q0ah) (q0k := q0ak)  hg1) (fun x1 => ?_)
 refine T.nil ?_
 refine T.then_normal ?_
 refine T.cond rfl (fun hb1 => ?_) (fun hb1 => ?_)
 ·replace hr := inv_posB hb1 hr
  refine T.seq ?_
  refine T.region ?_
  refine T.assign .list rfl (wants0 rfl) rfl rfl ?_
  refine T.assign .list rfl (wants0 rfl) rfl rfl ?_
  refine T.assign .list rfl (wants0 rfl) rfl rfl ?_
  refine T.nil ?_
  refine T.then_normal ?_
  refine T.ret ?_
  refine T.then_ret ?_
  obtain rfl := inv_some hr
  refine T.pick [9, 0, 1, 2, 3, 4, 5, 6, 7] 10 rfl rfl nla rfl ?_
  refine T.ret3 rfl rfl rfl rfl (fun w hS => ⟨(), rfl, hS⟩)
 ·replace hr := inv_negB hb1 hr
  refine T.skip ?_
  refine T.then_normal ?_
  refine T.seq ?_
  refine T.seq ?_
  refine T.region ?_
  refine T.move .list rfl (wants0 rfl) rfl rfl ?_
  refine T.move .list rfl (wants0 rfl) rfl rfl ?_
  obtain ⟨r2, hg2, hr⟩ := inv_bind hr
  refine T.call .list (wants0 rfl) rfl (run_callF (vs := [_, _, _, _]) rfl Tryd.func71 rfl (by decide) rfl) (fun w hS => local_right_nil2.c hB hS (i1 := 8) rfl hg2) (fun x2 => ?_)
  refine T.assign .list rfl (wants0 rfl) rfl rfl ?_
  refine T.nil ?_
  refine T.then_normal ?_
  refine T.seq ?_
  refine T.region ?_
  refine T.move .list rfl (wants0 rfl) rfl rfl ?_
  refine T.bin .list rfl (wants0 rfl) rfl rfl rfl rfl ?_
  refine T.nil ?_
  refine T.then_normal ?_
  refine T.cond rfl (fun hb2 => ?_) (fun hb2 => ?_)
  ·replace hr := inv_posB hb2 hr
   refine T.seq ?_
   refine T.region ?_
   refine T.move .list rfl (wants0 rfl) rfl rfl ?_
   refine T.assign .list rfl (wants0 rfl) rfl rfl ?_
   refine T.assign .list rfl (wants0 rfl) rfl rfl ?_
   refine T.assign .list rfl (wants0 rfl) rfl rfl ?_
   refine T.nil ?_
   refine T.then_normal ?_
   refine T.ret ?_
   refine T.then_ret ?_
   obtain rfl := inv_some hr
   refine T.pick [9, 0, 1, 2, 3, 4, 5, 6, 7] 10 rfl rfl nla rfl ?_
   refine T.ret3 rfl rfl rfl rfl (fun w hS => ⟨(), rfl, hS⟩)
  ·replace hr := inv_negB hb2 hr
   refine T.skip ?_
   refine T.then_normal ?_
   refine T.seq ?_
   refine T.dStart mixed ?_
   refine T.move (.dPure (i := 0) rfl (by kernel_rfl) (fun d _ _ _ _ h => by cases d <;> exact h)) rfl (wants0 rfl) rfl rfl ?_
   refine T.nilCheck (.dPure (i := 1) rfl (by kernel_rfl) (fun d _ _ _ _ h => by cases d <;> exact h)) rfl (wants0 rfl) rfl rfl ?_
   refine T.field (.dPure (i := 2) rfl (by kernel_rfl) (fun d _ _ _ _ h => by cases d <;> exact h)) rfl (wants0 rfl) rfl rfl ?_
   refine T.move (.dPure (i := 4) rfl (by kernel_rfl) (fun d _ _ _ _ h => by cases d <;> exact h)) rfl (wants0 rfl) rfl rfl ?_
   refine T.move (.dPure (i := 5) rfl (by kernel_rfl) (fun d _ _ _ _ h => by cases d <;> exact h)) rfl (wants0 rfl) rfl rfl ?_
   refine T.dAdd 14 (fun w => w.heap[p0]? = some (.cells [.pointer (some ⟨p0a, 0, none⟩), .int .i64 o0.1, .int .i64 o0.2.1, .int .i64 o0.2.2.1, .int .i64 o0.2.2.2.1, .int .i64 o0.2.2.2.2.1, .int .i64 o0.2.2.2.2.2.1, .int .i64 o0.2.2.2.2.2.2.1, .int .i64 o0.2.2.2.2.2.2.2.1, .int .i64 o0.2.2.2.2.2.2.2.2.1, .int .i64 o0.2.2.2.2.2.2.2.2.2.1, .int .i64 o0.2.2.2.2.2.2.2.2.2.2.1, .int .i64 o0.2.2.2.2.2.2.2.2.2.2.2.1, .int .i64 o0.2.2.2.2.2.2.2.2.2.2.2.2.1, .int .i64 o0.2.2.2.2.2.2.2.2.2.2.2.2.2.1, .int .i64 o0.2.2.2.2.2.2.2.2.2.2.2.2.2.2.1, .int .i64 o0.2.2.2.2.2.2.2.2.2.2.2.2.2.2.2.1, .int .i64 o0.2.2.2.2.2.2.2.2.2.2.2.2.2.2.2.2].toArray 74 (0, 0))) (Cl.stays 9 rfl) ?_
   refine T.valS 0 (i := 3) (.pointer (some ⟨p0a, 0, none⟩)) rfl rfl (by kernel_rfl) (by kernel_rfl) (fun d _ _ _ _ h => by cases d <;> exact h) (wants0 rfl) rfl (run_ldCl rfl rfl rfl) ?_
   obtain ⟨r3, hg3, hr⟩ := inv_bind hr
   refine T.dOnly (i := 6) (by kernel_rfl) ?_
   refine T.call (.dOne rfl (by kernel_rfl)) (wants0 rfl) rfl (run_callF (vs := [_, _]) rfl Tryd.func73 rfl (by decide) rfl) (fun w hS => local_in.c hB hS (i1 := 8) rfl hg3) (fun x3 => ?_)
   refine T.dNext (phi_cons (.inr (Cl.stays 10 rfl)) phi_nil) ?_
   obtain ⟨r4, hg4, hr⟩ := inv_bind hr
   refine T.freeze 0 rfl rfl rfl ?_
   refine T.pick [1, 2, 3, 4, 5, 6, 7, 8, 0, 9, 10] 11 rfl rfl nla (hs' := ck2 p0a o0a p0aa m0ah m0ak :: ck1 p0aa o0aa m0aab p0aac :: Mp E64 m0aab q0aab :: ck0 p0aac o0aac m0aacb A0aacc q0aacc.length c0aacc :: Mp (Elt.slice E8) m0aacb q0aacb :: Bf (Elt.pair E64 (Elt.slice E8)) 174 A0aacc c0aacc q0aacc :: Mp E64 m0ah q0ah :: Mp E64 m0ak q0ak :: Ro E8 x3.1 x3.2 r3 :: Ro E8 A2 c2 l2 :: ck4 p0 o0 p0a :: hs) rfl ?_
   refine T.dOnly (i := 7) (by kernel_rfl) ?_
   refine T.call (.dOne rfl (by kernel_rfl)) (wants0 rfl) rfl (run_callF (vs := [_, _]) rfl Tryd.func72 rfl (by decide) rfl) (fun w hS => tree_Tree_Get.c hB hS (i1 := 8) (o0 := o0a) (o0a := o0aa) (q0ab := q0aab) (o0ac := o0aac) (q0acb := q0aacb) (q0acc := q0aacc) (q0h := q0ah) (q0k := q0ak) rfl hg4) (fun x4 => ?_)
   refine T.dNext (phi_cons (.inr (Cl.stays 10 rfl)) phi_nil) ?_
   refine T.extract (.dPure (i := 8) rfl (by kernel_rfl) (fun d _ _ _ _ h => by cases d <;> exact h)) rfl (wants0 rfl) rfl rfl rfl ?_
   refine T.extract (.dPure (i := 9) rfl (by kernel_rfl) (fun d _ _ _ _ h => by cases d <;> exact h)) rfl (wants0 rfl) rfl rfl rfl ?_
   refine T.extract (.dPure (i := 10) rfl (by kernel_rfl) (fun d _ _ _ _ h => by cases d <;> exact h)) rfl (wants0 rfl) rfl rfl rfl ?_
   refine T.assign (.dPure (i := 11) rfl (by kernel_rfl) (fun d _ _ _ _ h => by cases d <;> exact h)) rfl (wants0 rfl) rfl rfl ?_
   refine T.assign (.dPure (i := 12) rfl (by kernel_rfl) (fun d _ _ _ _ h => by cases d <;> exact h)) rfl (wants0 rfl) rfl rfl ?_
   refine T.assign (.dPure (i := 13) rfl (by kernel_rfl) (fun d _ _ _ _ h => by cases d <;> exact h)) rfl (wants0 rfl) rfl rfl ?_
   refine T.dDone (by kernel_rfl) ?_
   refine T.then_normal ?_
   refine T.ret ?_
   obtain rfl := inv_some hr
   refine T.pick [10, 0, 1, 2, 3, 4, 5, 6, 7] 11 rfl rfl nla rfl ?_
   refine T.ret3 rfl rfl rfl rfl (fun w hS => ⟨(), rfl, hS⟩)

noncomputable def tree_Tree_through_nil1_nil2_nil3_nil5.impl (o0 : Int × Int × Int × Int) (o0a : Int × Int × Int × Int) (q0ab : List (Int × Int)) (o0ac : Int × Bool × Int × Int × Int × Int × Int) (q0acb : List (Int × (List UInt8))) (q0acc : List (Int × (List UInt8))) (q0h : List (Int × Int)) (q0k : List (Int × Int)) (a4 : Int) : Option Unit :=
  some ()
set_option maxRecDepth 100000 in
set_option maxHeartbeats 4000000 in
theorem tree_Tree_through_nil1_nil2_nil3_nil5.c {B : World} {hs : List MP} {w : World} {p0 : Nat} {o0 : Int × Int × Int × Int} {p0a : Nat} {o0a : Int × Int × Int × Int} {m0ab : Nat} {q0ab : List (Int × Int)} {p0ac : Nat} {o0ac : Int × Bool × Int × Int × Int × Int × Int} {m0acb : Nat} {q0acb : List (Int × (List UInt8))} {c0acc : Nat} {A0acc : Option Addr} {q0acc : List (Int × (List UInt8))} {m0h : Nat} {q0h : List (Int × Int)} {m0k : Nat} {q0k : List (Int × Int)} {a4 : Int} (hB : Base B) (hS : St B (ck2 p0 o0 p0a m0h m0k :: ck1 p0a o0a m0ab p0ac :: Mp E64 m0ab q0ab :: ck0 p0ac o0ac m0acb A0acc q0acc.length c0acc :: Mp (Elt.slice E8) m0acb q0acb :: Bf (Elt.pair E64 (Elt.slice E8)) 174 A0acc c0acc q0acc :: Mp E64 m0h q0h :: Mp E64 m0k q0k :: hs) w) {r : Unit} (hr : tree_Tree_through_nil1_nil2_nil3_nil5.impl o0 o0a q0ab o0ac q0acb q0acc q0h q0k a4 = some r) :
    Calls Tryd.prog 64 #[.pointer (some ⟨p0, 0, none⟩), .nilIface, .slice none 0 0, .slice none 0 0, .int .i64 a4, .slice none 0 0] w fun e w' => ∃ x : Unit, e = .returned (.slice none 0 0) ∧ St B (ck2 p0 o0 p0a m0h m0k :: ck1 p0a o0a m0ab p0ac :: Mp E64 m0ab q0ab :: ck0 p0ac o0ac m0acb A0acc q0acc.length c0acc :: Mp (Elt.slice E8) m0acb q0acb :: Bf (Elt.pair E64 (Elt.slice E8)) 174 A0acc c0acc q0acc :: Mp E64 m0h q0h :: Mp E64 m0k q0k :: hs) w' := by
 unfold tree_Tree_through_nil1_nil2_nil3_nil5.impl at hr
 refine calls_T Tryd.func64 rfl rfl rfl hS ?_
 refine T.seq ?_
 refine T.region ?_
 refine T.assign .list rfl (wants0 rfl) rfl rfl ?_
 refine T.nil ?_
 refine T.then_normal ?_
 refine T.seq ?_
 refine T.seq ?_
 refine T.region ?_
 refine T.move .list rfl (wants0 rfl) rfl rfl ?_
 refine T.nilIfEq .list rfl (wants0 rfl) rfl rfl (by kernel_rfl) ?_
 refine T.move .list rfl (wants0 rfl) rfl rfl ?_
 refine T.leave .list (wantsNot rfl rfl rfl rfl) rfl ?_
 refine T.leave .list (wantsNot rfl rfl rfl rfl) rfl ?_
 refine T.leave .list (wantsNot rfl rfl rfl rfl) rfl ?_
 refine T.leave .list (wantsNot rfl rfl rfl rfl) rfl ?_
 refine T.pickT .list rfl (wants0 rfl) rfl rfl rfl rfl ?_
 refine T.nil ?_
 refine T.then_normal ?_
 refine T.condT rfl rfl ?_
 refine T.seq ?_
 refine T.region ?_
 refine T.move .list rfl (wants0 rfl) rfl rfl ?_
 refine T.assign .list rfl (wants0 rfl) rfl rfl ?_
 refine T.nil ?_
 refine T.then_normal ?_
 refine T.ret ?_
 refine T.then_ret ?_
 obtain rfl := inv_some hr
 refine T.pick [0, 1, 2, 3, 4, 5, 6, 7] 8 rfl rfl nla rfl ?_
 refine T.ret1 rfl rfl (fun w hS => ⟨(), rfl, hS⟩)

noncomputable def tree_Tree_rng_nil1_nil2_nil3.impl (o0 : Int × Int × Int × Int) (o0a : Int × Int × Int × Int) (q0ab : List (Int × Int)) (o0ac : Int × Bool × Int × Int × Int × Int × Int) (q0acb : List (Int × (List UInt8))) (q0acc : List (Int × (List UInt8))) (q0h : List (Int × Int)) (q0k : List (Int × Int)) (a4 : Int) : Option ((List (Int × (List UInt8) × (List UInt8))) × Int) :=
  (tree_Tree_Dead.impl o0 o0a q0ab o0ac q0acb q0acc q0h q0k).bind fun r1 => (if r1 = true then some (([] : List (Int × (List UInt8) × (List UInt8))), 20) else (if ((decide (a4 < 0))) = true then some (([] : List (Int × (List UInt8) × (List UInt8))), 1) else (tree_Tree_through_nil1_nil2_nil3_nil5.impl o0 o0a q0ab o0ac q0acb q0acc q0h q0k a4).bind fun r2 => (tree_caught.impl 0).bind fun r3 => (tree_Tree_rng_1.impl 0 (([] : List (Int × (List UInt8) × (List UInt8))))).bind fun r4 => some (([] : List (Int × (List UInt8) × (List UInt8))), 0)))
set_option maxRecDepth 100000 in
set_option maxHeartbeats 4000000 in
theorem tree_Tree_rng_nil1_nil2_nil3.c {B : World} {hs : List MP} {w : World} {p0 : Nat} {o0 : Int × Int × Int × Int} {p0a : Nat} {o0a : Int × Int × Int × Int} {m0ab : Nat} {q0ab : List (Int × Int)} {p0ac : Nat} {o0ac : Int × Bool × Int × Int × Int × Int × Int} {m0acb : Nat} {q0acb : List (Int × (List UInt8))} {c0acc : Nat} {A0acc : Option Addr} {q0acc : List (Int × (List UInt8))} {m0h : Nat} {q0h : List (Int × Int)} {m0k : Nat} {q0k : List (Int × Int)} {a4 : Int} (hB : Base B) (hS : St B (ck2 p0 o0 p0a m0h m0k :: ck1 p0a o0a m0ab p0ac :: Mp E64 m0ab q0ab :: ck0 p0ac o0ac m0acb A0acc q0acc.length c0acc :: Mp (Elt.slice E8) m0acb q0acb :: Bf (Elt.pair E64 (Elt.slice E8)) 174 A0acc c0acc q0acc :: Mp E64 m0h q0h :: Mp E64 m0k q0k :: hs) w) {r : (List (Int × (List UInt8) × (List UInt8))) × Int} (hr : tree_Tree_rng_nil1_nil2_nil3.impl o0 o0a q0ab o0ac q0acb q0acc q0h q0k a4 = some r) :
    Calls Tryd.prog 41 #[.pointer (some ⟨p0, 0, none⟩), .nilIface, .slice none 0 0, .slice none 0 0, .int .i64 a4] w fun e w' => ∃ x : (Option Addr × Nat), e = .returned (.tuple #[.slice x.1 r.1.length x.2, .int .i64 r.2]) ∧ St B (Ro (Elt.pair E64 (Elt.pair (Elt.slice E8) (Elt.slice E8))) x.1 x.2 r.1 :: ck2 p0 o0 p0a m0h m0k :: ck1 p0a o0a m0ab p0ac :: Mp E64 m0ab q0ab :: ck0 p0ac o0ac m0acb A0acc q0acc.length c0acc :: Mp (Elt.slice E8) m0acb q0acb :: Bf (Elt.pair E64 (Elt.slice E8)) 174 A0acc c0acc q0acc :: Mp E64 m0h q0h :: Mp E64 m0k q0k :: hs) w' := by
 unfold tree_Tree_rng_nil1_nil2_nil3.impl at hr
 refine calls_TD Tryd.func41 rfl rfl rfl hS ?_
 refine T.seq ?_
 refine T.region ?_
 refine T.allocS .list rfl (wants0 rfl) rfl (cs := [.slice none 0 0]) rfl (fun b1 => ?_)
 refine T.allocS .list rfl (wants0 rfl) rfl (cs := [.int .i64 0]) rfl (fun b2 => ?_)
 refine T.nil ?_
 refine T.then_normal ?_
 refine T.seq ?_
 refine T.block ?_
 refine T.seq ?_
 refine T.region ?_
 refine T.move .list rfl (wants0 rfl) rfl rfl ?_
 refine T.pick [2, 3, 4, 5, 6, 7, 8, 9, 0, 1] 10 rfl rfl nla (hs' := ck2 p0 o0 p0a m0h m0k :: ck1 p0a o0a m0ab p0ac :: Mp E64 m0ab q0ab :: ck0 p0ac o0ac m0acb A0acc q0acc.length c0acc :: Mp (Elt.slice E8) m0acb q0acb :: Bf (Elt.pair E64 (Elt.slice E8)) 174 A0acc c0acc q0acc :: Mp E64 m0h q0h :: Mp E64 m0k q0k :: Cl b2 28 [.int .i64 0] :: Cl b1 75 [.slice none 0 0] :: hs) rfl ?_
 obtain ⟨r1, hg1, hr⟩ := inv_bind hr
 refine T.call .list (wants0 rfl) rfl (run_callF (vs := [_]) rfl Tryd.func25 rfl (by decide) rfl) (fun w hS => tree_Tree_Dead.c hB hS (o0 := o0) (o0a := o0a) (q0ab := q0ab) (o0ac := o0ac) (q0acb := q0acb) (q0acc := q0acc) (q0h := q0h) (q0k := q0k)  hg1) (fun x1 => ?_)
 refine T.assign .list rfl (wants0 rfl) rfl rfl ?_
 refine T.nil ?_
 refine T.then_normal ?_
 refine T.cond rfl (fun hb1 => ?_) (fun hb1 => ?_)
 ·replace hr := inv_posB hb1 hr
  refine T.seq ?_
  refine T.region ?_
  refine T.store .list 9 rfl rfl (wants0 rfl) rfl rfl rfl rfl (Nat.le_of_ble_eq_true rfl) rfl (cs' := [.slice none 0 0]) rfl rfl ?_
  refine T.store .list 8 rfl rfl (wants0 rfl) rfl rfl rfl rfl (Nat.le_of_ble_eq_true rfl) rfl (cs' := [.int .i64 20]) rfl rfl ?_
  refine T.nil ?_
  refine T.then_normal ?_
  refine T.ret ?_
  refine T.in_ret ?_
  refine T.then_ret ?_
  refine T.retD ?_
  obtain rfl := inv_some hr
  refine T.nilRo (Elt.pair E64 (Elt.pair (Elt.slice E8) (Elt.slice E8))) none 0 ?_
  refine T.lvOut2 rfl (OutRun.cell1 10 rfl rfl rfl) (OutRun.cell1 9 rfl rfl rfl) (fun w hS => ⟨(none, 0), rfl, hS.pick [0, 1, 2, 3, 4, 5, 6, 7, 8] 11 rfl rfl nla rfl⟩)
 ·replace hr := inv_negB hb1 hr
  refine T.seq ?_
  refine T.region ?_
  refine T.move .list rfl (wants0 rfl) rfl rfl ?_
  refine T.bin .list rfl (wants0 rfl) rfl rfl rfl rfl ?_
  refine T.assign .list rfl (wants0 rfl) rfl rfl ?_
  refine T.nil ?_
  refine T.then_normal ?_
  refine T.cond rfl (fun hb2 => ?_) (fun hb2 => ?_)
  ·replace hr := inv_posB hb2 hr
   refine T.seq ?_
   refine T.region ?_
   refine T.store .list 9 rfl rfl (wants0 rfl) rfl rfl rfl rfl (Nat.le_of_ble_eq_true rfl) rfl (cs' := [.slice none 0 0]) rfl rfl ?_
   refine T.store .list 8 rfl rfl (wants0 rfl) rfl rfl rfl rfl (Nat.le_of_ble_eq_true rfl) rfl (cs' := [.int .i64 1]) rfl rfl ?_
   refine T.nil ?_
   refine T.then_normal ?_
   refine T.ret ?_
   refine T.in_ret ?_
   refine T.then_ret ?_
   refine T.retD ?_
   obtain rfl := inv_some hr
   refine T.nilRo (Elt.pair E64 (Elt.pair (Elt.slice E8) (Elt.slice E8))) none 0 ?_
   refine T.lvOut2 rfl (OutRun.cell1 10 rfl rfl rfl) (OutRun.cell1 9 rfl rfl rfl) (fun w hS => ⟨(none, 0), rfl, hS.pick [0, 1, 2, 3, 4, 5, 6, 7, 8] 11 rfl rfl nla rfl⟩)
  ·replace hr := inv_negB hb2 hr
   refine T.seq ?_
   refine T.region ?_
   refine T.move .list rfl (wants0 rfl) rfl rfl ?_
   refine T.lenSlice .list rfl (wants0 rfl) rfl rfl ?_
   refine T.bin .list rfl (wants0 rfl) rfl rfl rfl rfl ?_
   refine T.env1 21 rfl (congrArg Value.bool (by decide : (decide ((64 : Int) < 0)) = false)) ?_
   refine T.move .list rfl (wants0 rfl) rfl rfl ?_
   refine T.move .list rfl (wants1 rfl rfl rfl rfl) rfl rfl ?_
   refine T.lenSlice .list rfl (wants1 rfl rfl rfl rfl) rfl rfl ?_
   refine T.bin .list rfl (wants1 rfl rfl rfl rfl) rfl rfl rfl rfl ?_
   refine T.env1 25 rfl (congrArg Value.bool (by decide : (decide ((64 : Int) < 0)) = false)) ?_
   refine T.pickF .list rfl (wants0 rfl) rfl rfl rfl rfl ?_
   refine T.assign .list rfl (wants0 rfl) rfl rfl ?_
   refine T.nil ?_
   refine T.then_normal ?_
   refine T.condF rfl rfl ?_
   refine T.skip ?_
   refine T.in_normal ?_
   refine T.then_normal ?_
   refine T.seq ?_
   refine T.region ?_
   refine T.makeFunc .list (f := 63) (vs := [.pointer (some ⟨b2, 0, none⟩), .pointer (some ⟨b1, 0, none⟩)]) rfl (wants0 rfl) rfl rfl ?_
   refine T.defer .list (run_deferV (vs := []) (caps := [.pointer (some ⟨b2, 0, none⟩), .pointer (some ⟨b1, 0, none⟩)]) rfl rfl rfl) (wants0 rfl) rfl ?_
   refine T.nil ?_
   refine T.then_normal ?_
   refine T.seq ?_
   refine T.region ?_
   refine T.defer .list (run_deferF (vs := [_]) rfl rfl) (wants0 rfl) rfl ?_
   refine T.nil ?_
   refine T.then_normal ?_
   refine T.seq ?_
   refine T.region ?_
   refine T.move .list rfl (wants0 rfl) rfl rfl ?_
   refine T.move .list rfl (wants0 rfl) rfl rfl ?_
   refine T.move .list rfl (wants0 rfl) rfl rfl ?_
   refine T.move .list rfl (wants0 rfl) rfl rfl ?_
   refine T.move .list rfl (wants0 rfl) rfl rfl ?_
   refine T.pick [0, 1, 2, 3, 4, 5, 6, 7, 8, 9] 10 rfl rfl nla (hs' := ck2 p0 o0 p0a m0h m0k :: ck1 p0a o0a m0ab p0ac :: Mp E64 m0ab q0ab :: ck0 p0ac o0ac m0acb A0acc q0acc.length c0acc :: Mp (Elt.slice E8) m0acb q0acb :: Bf (Elt.pair E64 (Elt.slice E8)) 174 A0acc c0acc q0acc :: Mp E64 m0h q0h :: Mp E64 m0k q0k :: Cl b2 28 [.int .i64 0] :: Cl b1 75 [.slice none 0 0] :: hs) rfl ?_
   obtain ⟨r2, hg2, hr⟩ := inv_bind hr
   refine T.call .list (wants0 rfl) rfl (run_callF (vs := [_, _, _, _, _, _]) rfl Tryd.func64 rfl (by decide) rfl) (fun w hS => tree_Tree_through_nil1_nil2_nil3_nil5.c hB hS (o0 := o0) (o0a := o0a) (q0ab := q0ab) (o0ac := o0ac) (q0acb := q0acb) (q0acc := q0acc) (q0h := q0h) (q0k := q0k)  hg2) (fun x2 => ?_)
   refine T.store .list 9 rfl rfl (wants0 rfl) rfl rfl rfl rfl (Nat.le_of_ble_eq_true rfl) rfl (cs' := [.slice none 0 0]) rfl rfl ?_
   refine T.store .list 8 rfl rfl (wants0 rfl) rfl rfl rfl rfl (Nat.le_of_ble_eq_true rfl) rfl (cs' := [.int .i64 0]) rfl rfl ?_
   refine T.nil ?_
   refine T.then_normal ?_
   refine T.ret ?_
   refine T.retD ?_
   refine T.pick [8, 0, 1, 2, 3, 4, 5, 6, 7, 9] 10 rfl rfl nla (hs' := Cl b2 28 [.int .i64 0] :: ck2 p0 o0 p0a m0h m0k :: ck1 p0a o0a m0ab p0ac :: Mp E64 m0ab q0ab :: ck0 p0ac o0ac m0acb A0acc q0acc.length c0acc :: Mp (Elt.slice E8) m0acb q0acb :: Bf (Elt.pair E64 (Elt.slice E8)) 174 A0acc c0acc q0acc :: Mp E64 m0h q0h :: Mp E64 m0k q0k :: Cl b1 75 [.slice none 0 0] :: hs) rfl ?_
   obtain ⟨r3, hg3, hr⟩ := inv_bind hr
   refine T.lvCons (args := [.pointer (some ⟨b2, 0, none⟩)]) (caps := []) (vs := [.pointer (some ⟨b2, 0, none⟩)]) (v := .tuple #[]) Tryd.func37 rfl (by decide) rfl (fun w hS => tree_caught.d hB hS (o0 := 0)  hg3) (fun x3 => ?_)
   refine T.nilRo (Elt.pair E64 (Elt.pair (Elt.slice E8) (Elt.slice E8))) none 0 ?_
   refine T.pick [1, 10, 0, 2, 3, 4, 5, 6, 7, 8, 9] 11 rfl rfl nla (hs' := Cl b2 28 [.int .i64 0] :: Cl b1 75 [.slice none ((([] : List (Int × (List UInt8) × (List UInt8)))).length) 0] :: Ro (Elt.pair E64 (Elt.pair (Elt.slice E8) (Elt.slice E8))) none 0 (([] : List (Int × (List UInt8) × (List UInt8)))) :: ck2 p0 o0 p0a m0h m0k :: ck1 p0a o0a m0ab p0ac :: Mp E64 m0ab q0ab :: ck0 p0ac o0ac m0acb A0acc q0acc.length c0acc :: Mp (Elt.slice E8) m0acb q0acb :: Bf (Elt.pair E64 (Elt.slice E8)) 174 A0acc c0acc q0acc :: Mp E64 m0h q0h :: Mp E64 m0k q0k :: hs) rfl ?_
   obtain ⟨r4, hg4, hr⟩ := inv_bind hr
   refine T.lvCons (args := []) (caps := [.pointer (some ⟨b2, 0, none⟩), .pointer (some ⟨b1, 0, none⟩)]) (vs := [.pointer (some ⟨b2, 0, none⟩), .pointer (some ⟨b1, 0, none⟩)]) (v := .tuple #[]) Tryd.func63 rfl (by decide) rfl (fun w hS => tree_Tree_rng_1.d hB hS (ik1a := 2) (ok0 := 0) (ok1 := ([] : List (Int × (List UInt8) × (List UInt8)))) rfl hg4) (fun x4 => ?_)
   obtain rfl := inv_some hr
   refine T.lvOut2 rfl (OutRun.cell1 1 rfl rfl rfl) (OutRun.cell1 0 rfl rfl rfl) (fun w hS => ⟨(none, 0), rfl, hS.pick [2, 3, 4, 5, 6, 7, 8, 9, 10] 11 rfl rfl nla rfl⟩)

noncomputable def tree_Tree_Range_nil1_nil2.impl (o0 : Int × Int × Int × Int) (o0a : Int × Int × Int × Int) (q0ab : List (Int × Int)) (o0ac : Int × Bool × Int × Int × Int × Int × Int) (q0acb : List (Int × (List UInt8))) (q0acc : List (Int × (List UInt8))) (q0h : List (Int × Int)) (q0k : List (Int × Int)) (a3 : Int) : Option ((List (Int × (List UInt8) × (List UInt8))) × Int) :=
  (tree_Tree_rng_nil1_nil2_nil3.impl o0 o0a q0ab o0ac q0acb q0acc q0h q0k a3).bind fun r1 => some r1
set_option maxRecDepth 100000 in
set_option maxHeartbeats 4000000 in
theorem tree_Tree_Range_nil1_nil2.c {B : World} {hs : List MP} {w : World} {p0 : Nat} {o0 : Int × Int × Int × Int} {p0a : Nat} {o0a : Int × Int × Int × Int} {m0ab : Nat} {q0ab : List (Int × Int)} {p0ac : Nat} {o0ac : Int × Bool × Int × Int × Int × Int × Int} {m0acb : Nat} {q0acb : List (Int × (List UInt8))} {c0acc : Nat} {A0acc : Option Addr} {q0acc : List (Int × (List UInt8))} {m0h : Nat} {q0h : List (Int × Int)} {m0k : Nat} {q0k : List (Int × Int)} {a3 : Int} (hB : Base B) (hS : St B (ck2 p0 o0 p0a m0h m0k :: ck1 p0a o0a m0ab p0ac :: Mp E64 m0ab q0ab :: ck0 p0ac o0ac m0acb A0acc q0acc.length c0acc :: Mp (Elt.slice E8) m0acb q0acb :: Bf (Elt.pair E64 (Elt.slice E8)) 174 A0acc c0acc q0acc :: Mp E64 m0h q0h :: Mp E64 m0k q0k :: hs) w) {r : (List (Int × (List UInt8) × (List UInt8))) × Int} (hr : tree_Tree_Range_nil1_nil2.impl o0 o0a q0ab o0ac q0acb q0acc q0h q0k a3 = some r) :
    Calls Tryd.prog 23 #[.pointer (some ⟨p0, 0, none⟩), .slice none 0 0, .slice none 0 0, .int .i64 a3] w fun e w' => ∃ x : (Option Addr × Nat), e = .returned (.tuple #[.slice x.1 r.1.length x.2, .int .i64 r.2]) ∧ St B (Ro (Elt.pair E64 (Elt.pair (Elt.slice E8) (Elt.slice E8))) x.1 x.2 r.1 :: ck2 p0 o0 p0a m0h m0k :: ck1 p0a o0a m0ab p0ac :: Mp E64 m0ab q0ab :: ck0 p0ac o0ac m0acb A0acc q0acc.length c0acc :: Mp (Elt.slice E8) m0acb q0acb :: Bf (Elt.pair E64 (Elt.slice E8)) 174 A0acc c0acc q0acc :: Mp E64 m0h q0h :: Mp E64 m0k q0k :: hs) w' := by
 unfold tree_Tree_Range_nil1_nil2.impl at hr
 refine calls_T Tryd.func23 rfl rfl rfl hS ?_
 refine T.seq ?_
 refine T.region ?_
 refine T.assign .list rfl (wants0 rfl) rfl rfl ?_
 refine T.assign .list rfl (wants0 rfl) rfl rfl ?_
 refine T.nil ?_
 refine T.then_normal ?_
 refine T.seq ?_
 refine T.region ?_
 refine T.move .list rfl (wants0 rfl) rfl rfl ?_
 refine T.move .list rfl (wants0 rfl) rfl rfl ?_
 refine T.nilCheck .list rfl (wants0 rfl) rfl rfl ?_
 refine T.field .list rfl (wants0 rfl) rfl rfl ?_
 refine T.field .list rfl (wants0 rfl) rfl rfl ?_
 refine T.load .list 0 rfl rfl (wants0 rfl) rfl rfl rfl ?_
 refine T.move .list rfl (wants0 rfl) rfl rfl ?_
 refine T.move .list rfl (wants0 rfl) rfl rfl ?_
 refine T.move .list rfl (wants0 rfl) rfl rfl ?_
 refine T.pick [0, 1, 2, 3, 4, 5, 6, 7] 8 rfl rfl nla (hs' := ck2 p0 o0 p0a m0h m0k :: ck1 p0a o0a m0ab p0ac :: Mp E64 m0ab q0ab :: ck0 p0ac o0ac m0acb A0acc q0acc.length c0acc :: Mp (Elt.slice E8) m0acb q0acb :: Bf (Elt.pair E64 (Elt.slice E8)) 174 A0acc c0acc q0acc :: Mp E64 m0h q0h :: Mp E64 m0k q0k :: hs) rfl ?_
 obtain ⟨r1, hg1, hr⟩ := inv_bind hr
 refine T.call .list (wants0 rfl) rfl (run_callF (vs := [_, _, _, _, _]) rfl Tryd.func41 rfl (by decide) rfl) (fun w hS => tree_Tree_rng_nil1_nil2_nil3.c hB hS (o0 := o0) (o0a := o0a) (q0ab := q0ab) (o0ac := o0ac) (q0acb := q0acb) (q0acc := q0acc) (q0h := q0h) (q0k := q0k)  hg1) (fun x1 => ?_)
 refine T.extract .list rfl (wants0 rfl) rfl rfl rfl ?_
 refine T.extract .list rfl (wants0 rfl) rfl rfl rfl ?_
 refine T.assign .list rfl (wants0 rfl) rfl rfl ?_
 refine T.assign .list rfl (wants0 rfl) rfl rfl ?_
 refine T.nil ?_
 refine T.then_normal ?_
 refine T.ret ?_
 obtain rfl := inv_some hr
 refine T.pick [0, 1, 2, 3, 4, 5, 6, 7, 8] 9 rfl rfl nla rfl ?_
 refine T.ret2 rfl rfl rfl (fun w hS => ⟨x1, rfl, hS⟩)

noncomputable def local_Open.k1 (r1p0 : (Int × Int × Int × Int) × (Int × Int × Int × Int) × (List (Int × Int)) × (List (Int × Int)) × (List (Int × Int))) (s1 : Int × Bool) : Option ((Option ((Int × Int × Int × Int × Int × Int × Int × Int × Int × Int × Int × Int × Int × Int × Int × Int × Int) × (Int × Int × Int × Int) × (Int × Int × Int × Int) × (List (Int × Int)) × (List (Int × Int)) × (List (Int × Int)))) × Int) :=
  (if ((!s1.2)) = true then some (none, 22) else some ((some ((s1.1, 0, 0, 0, 0, 0, 0, 0, 0, 0, 0, 0, 0, 0, 0, 0, 0), r1p0.1, r1p0.2.1, r1p0.2.2.1, r1p0.2.2.2.1, r1p0.2.2.2.2)), 0))
noncomputable def local_Open.k4 (r3 : Int × Int × Int) (s2 : Int × Bool × Int) (s5 : Bool) : Option ((Int × Bool × Int) ⊕ (((Option ((Int × Int × Int × Int × Int × Int × Int × Int × Int × Int × Int × Int × Int × Int × Int × Int × Int) × (Int × Int × Int × Int) × (Int × Int × Int × Int) × (List (Int × Int)) × (List (Int × Int)) × (List (Int × Int)))) × Int) ⊕ (Int × Bool))) :=
  (if s5 = true then some (.inr (.inl (none, 22))) else some (.inl (r3.1, true, IntKind.i64.wrap (s2.2.2 + 1))))
noncomputable def local_Open.k3 (r2 : (List (Int × (List UInt8) × (List UInt8))) × Int) (s2 : Int × Bool × Int) (s4 : Bool) : Option ((Int × Bool × Int) ⊕ (((Option ((Int × Int × Int × Int × Int × Int × Int × Int × Int × Int × Int × Int × Int × Int × Int × Int × Int) × (Int × Int × Int × Int) × (Int × Int × Int × Int) × (List (Int × Int)) × (List (Int × Int)) × (List (Int × Int)))) × Int) ⊕ (Int × Bool))) :=
  (if s4 = true then (wire_ReadUint.impl (((((r2.1).getD (s2.2.2 : Int).toNat default)).2.2)) 0).bind fun r3 => (if ((decide (r3.2.2 = 0))) = true then local_Open.k4 r3 s2 (!(decide (r3.2.1 = (((((((r2.1).getD (s2.2.2 : Int).toNat default)).2.2)).length : Int))))) else local_Open.k4 r3 s2 true) else some (.inr (.inl (none, 22))))
noncomputable def local_Open.k2 (r2 : (List (Int × (List UInt8) × (List UInt8))) × Int) (s2 : Int × Bool × Int) (s3 : Bool) : Option ((Int × Bool × Int) ⊕ (((Option ((Int × Int × Int × Int × Int × Int × Int × Int × Int × Int × Int × Int × Int × Int × Int × Int × Int) × (Int × Int × Int × Int) × (Int × Int × Int × Int) × (List (Int × Int)) × (List (Int × Int)) × (List (Int × Int)))) × Int) ⊕ (Int × Bool))) :=
  (if s3 = true then none else (if ((decide (((IntKind.i64.wrap ((((((((r2.1).getD (s2.2.2 : Int).toNat default)).2.1)).getD (0 : Int).toNat default).toNat : Int)))) = 16))) = true then (if ((decide (((((((((r2.1).getD (s2.2.2 : Int).toNat default)).2.1)).length : Int))) = 1))) = true then local_Open.k3 r2 s2 (!s2.2.1) else local_Open.k3 r2 s2 false) else local_Open.k3 r2 s2 false))
noncomputable def local_Open.st1 (r2 : (List (Int × (List UInt8) × (List UInt8))) × Int) (s2 : Int × Bool × Int) : Option ((Int × Bool × Int) ⊕ (((Option ((Int × Int × Int × Int × Int × Int × Int × Int × Int × Int × Int × Int × Int × Int × Int × Int × Int) × (Int × Int × Int × Int) × (Int × Int × Int × Int) × (List (Int × Int)) × (List (Int × Int)) × (List (Int × Int)))) × Int) ⊕ (Int × Bool))) :=
  (if ((decide (s2.2.2 < ((r2.1.length : Int))))) = true then chk (0 ≤ s2.2.2 ∧ s2.2.2 < (r2.1.length : Int)) (chk (0 ≤ (0 : Int) ∧ (0 : Int) < ((((((r2.1).getD (s2.2.2 : Int).toNat default)).2.1)).length : Int)) ((if ((decide (((IntKind.i64.wrap ((((((((r2.1).getD (s2.2.2 : Int).toNat default)).2.1)).getD (0 : Int).toNat default).toNat : Int)))) < 16))) = true then (if ((decide ((1 : Int) < (((((((r2.1).getD (s2.2.2 : Int).toNat default)).2.1)).length : Int))))) = true then local_Open.k2 r2 s2 (decide (((((((((r2.1).getD (s2.2.2 : Int).toNat default)).2.1)).length : Int))) ≤ 61)) else local_Open.k2 r2 s2 false) else local_Open.k2 r2 s2 false))) else some (.inr (.inr (s2.1, s2.2.1))))
noncomputable def local_Open.impl (o0 : Int × Bool × Int × Int × Int × Int × Int) (q0b : List (Int × (List UInt8))) (q0c : List (Int × (List UInt8))) : Option ((Option ((Int × Int × Int × Int × Int × Int × Int × Int × Int × Int × Int × Int × Int × Int × Int × Int × Int) × (Int × Int × Int × Int) × (Int × Int × Int × Int) × (List (Int × Int)) × (List (Int × Int)) × (List (Int × Int)))) × Int) :=
  (tree_Open.impl o0 q0b q0c).bind fun r1 => (match r1 with | (none, r1p1) => ((if ((!(decide (r1p1 = 0)))) = true then some (none, r1p1) else none)) | (some r1p0, r1p1) => ((if ((!(decide (r1p1 = 0)))) = true then some (none, r1p1) else (tree_Tree_Range_nil1_nil2.impl r1p0.1 r1p0.2.1 r1p0.2.2.1 o0 q0b q0c r1p0.2.2.2.1 r1p0.2.2.2.2 1073741824).bind fun r2 => (if ((!(decide (r2.2 = 0)))) = true then some (none, r2.2) else (loop (local_Open.st1 r2) (0, (decide ((((r2.1.length : Int))) = 0)), 0)).bind (fun e1 => match e1 with | .inl v => some v | .inr v => local_Open.k1 r1p0 v)))))
set_option maxRecDepth 100000 in
set_option maxHeartbeats 4000000 in
theorem local_Open.c {B : World} {hs : List MP} {w : World} {p0 : Nat} {o0 : Int × Bool × Int × Int × Int × Int × Int} {m0b : Nat} {q0b : List (Int × (List UInt8))} {c0c : Nat} {A0c : Option Addr} {q0c : List (Int × (List UInt8))} (hB : Base B) (hS : St B (ck0 p0 o0 m0b A0c q0c.length c0c :: Mp (Elt.slice E8) m0b q0b :: Bf (Elt.pair E64 (Elt.slice E8)) 174 A0c c0c q0c :: hs) w) {r : (Option ((Int × Int × Int × Int × Int × Int × Int × Int × Int × Int × Int × Int × Int × Int × Int × Int × Int) × (Int × Int × Int × Int) × (Int × Int × Int × Int) × (List (Int × Int)) × (List (Int × Int)) × (List (Int × Int)))) × Int} (hr : local_Open.impl o0 q0b q0c = some r) :
    Calls Tryd.prog 13 #[.pointer (some ⟨p0, 0, none⟩)] w fun e w' => ∃ x : Nat × Nat × Nat × Nat × Nat × (Nat), e = .returned (.tuple #[optp r.1 x.1, .int .i64 r.2]) ∧ St B (ck0 p0 o0 m0b A0c q0c.length c0c :: Mp (Elt.slice E8) m0b q0b :: Bf (Elt.pair E64 (Elt.slice E8)) 174 A0c c0c q0c :: ((optc r.1 (fun v => [ck4 x.1 v.1 x.2.1, ck2 x.2.1 v.2.1 x.2.2.1 x.2.2.2.2.1 x.2.2.2.2.2, ck1 x.2.2.1 v.2.2.1 x.2.2.2.1 p0, Mp E64 x.2.2.2.1 v.2.2.2.1, Mp E64 x.2.2.2.2.1 v.2.2.2.2.1, Mp E64 x.2.2.2.2.2 v.2.2.2.2.2])) ++ hs)) w' := by
 unfold local_Open.impl at hr
 refine calls_T Tryd.func13 rfl rfl rfl hS ?_
 refine T.seq ?_
 refine T.region ?_
 refine T.assign .list rfl (wants0 rfl) rfl rfl ?_
 refine T.assign .list rfl (wants0 rfl) rfl rfl ?_
 refine T.nil ?_
 refine T.then_normal ?_
 refine T.seq ?_
 refine T.region ?_
 refine T.move .list rfl (wants0 rfl) rfl rfl ?_
 obtain ⟨r1, hg1, hr⟩ := inv_bind hr
 rcases r1 with ⟨_ | r1p0, r1p1⟩
 ·dsimp only at hr
  refine T.pick [0, 1, 2] 3 rfl rfl nla (hs' := ck0 p0 o0 m0b A0c q0c.length c0c :: Mp (Elt.slice E8) m0b q0b :: Bf (Elt.pair E64 (Elt.slice E8)) 174 A0c c0c q0c :: hs) rfl ?_
  refine T.call (v := fun (x1 : Nat × Nat × Nat × Nat × Nat) => .tuple #[.pointer none, .int .i64 r1p1]) (hs' := fun x1 => ck0 p0 o0 m0b A0c q0c.length c0c :: Mp (Elt.slice E8) m0b q0b :: Bf (Elt.pair E64 (Elt.slice E8)) 174 A0c c0c q0c :: hs) .list (wants0 rfl) rfl (run_callF (vs := [_]) rfl Tryd.func22 rfl (by decide) rfl) (fun w hS => tree_Open.c hB hS (o0 := o0) (q0b := q0b) (q0c := q0c)  hg1) (fun x1 => ?_)
  refine T.move .list rfl (wants0 rfl) rfl rfl ?_
  refine T.extract .list rfl (wants0 rfl) rfl rfl rfl ?_
  refine T.extract .list rfl (wants0 rfl) rfl rfl rfl ?_
  refine T.assign .list rfl (wants0 rfl) rfl rfl ?_
  refine T.assign .list rfl (wants0 rfl) rfl rfl ?_
  refine T.nil ?_
  refine T.then_normal ?_
  refine T.seq ?_
  refine T.seq ?_
  refine T.region ?_
  refine T.move .list rfl (wants0 rfl) rfl rfl ?_
  refine T.bin .list rfl (wants0 rfl) rfl rfl rfl rfl ?_
  refine T.nil ?_
  refine T.then_normal ?_
  refine T.cond rfl (fun hb1 => ?_) (fun hb1 => ?_)
  ·replace hr := inv_posB hb1 hr
   refine T.seq ?_
   refine T.region ?_
   refine T.move .list rfl (wants0 rfl) rfl rfl ?_
   refine T.assign .list rfl (wants0 rfl) rfl rfl ?_
   refine T.assign .list rfl (wants0 rfl) rfl rfl ?_
   refine T.nil ?_
   refine T.then_normal ?_
   refine T.ret ?_
   refine T.then_ret ?_
   obtain rfl := inv_some hr
   refine T.pick [0, 1, 2] 3 rfl rfl nla rfl ?_
   refine T.ret2 rfl rfl rfl (fun w hS => ⟨(0, 0, 0, 0, 0, 0), rfl, hS⟩)
  ·replace hr := inv_negB hb1 hr
   cases hr
 ·dsimp only at hr
  refine T.pick [0, 1, 2] 3 rfl rfl nla (hs' := ck0 p0 o0 m0b A0c q0c.length c0c :: Mp (Elt.slice E8) m0b q0b :: Bf (Elt.pair E64 (Elt.slice E8)) 174 A0c c0c q0c :: hs) rfl ?_
  refine T.call (v := fun (x2 : Nat × Nat × Nat × Nat × Nat) => .tuple #[.pointer (some ⟨x2.1, 0, none⟩), .int .i64 r1p1]) (hs' := fun x2 => ck0 p0 o0 m0b A0c q0c.length c0c :: Mp (Elt.slice E8) m0b q0b :: Bf (Elt.pair E64 (Elt.slice E8)) 174 A0c c0c q0c :: ck2 x2.1 r1p0.1 x2.2.1 x2.2.2.2.1 x2.2.2.2.2 :: ck1 x2.2.1 r1p0.2.1 x2.2.2.1 p0 :: Mp E64 x2.2.2.1 r1p0.2.2.1 :: Mp E64 x2.2.2.2.1 r1p0.2.2.2.1 :: Mp E64 x2.2.2.2.2 r1p0.2.2.2.2 :: hs) .list (wants0 rfl) rfl (run_callF (vs := [_]) rfl Tryd.func22 rfl (by decide) rfl) (fun w hS => tree_Open.c hB hS (o0 := o0) (q0b := q0b) (q0c := q0c)  hg1) (fun x2 => ?_)
  refine T.move .list rfl (wants0 rfl) rfl rfl ?_
  refine T.extract .list rfl (wants0 rfl) rfl rfl rfl ?_
  refine T.extract .list rfl (wants0 rfl) rfl rfl rfl ?_
  refine T.assign .list rfl (wants0 rfl) rfl rfl ?_
  refine T.assign .list rfl (wants0 rfl) rfl rfl ?_
  refine T.nil ?_
  refine T.then_normal ?_
  refine T.seq ?_
  refine T.seq ?_
  refine T.region ?_
  refine T.move .list rfl (wants0 rfl) rfl rfl ?_
  refine T.bin .list rfl (wants0 rfl) rfl rfl rfl rfl ?_
  refine T.nil ?_
  refine T.then_normal ?_
  refine T.cond rfl (fun hb2 => ?_) (fun hb2 => ?_)
  ·replace hr := inv_posB hb2 hr
   refine T.seq ?_
   refine T.region ?_
   refine T.move .list rfl (wants0 rfl) rfl rfl ?_
   refine T.assign .list rfl (wants0 rfl) rfl rfl ?_
   refine T.assign .list rfl (wants0 rfl) rfl rfl ?_
   refine T.nil ?_
   refine T.then_normal ?_
   refine T.ret ?_
   refine T.then_ret ?_
   obtain rfl := inv_some hr
   refine T.pick [0, 1, 2] 8 rfl rfl nla rfl ?_
   refine T.ret2 rfl rfl rfl (fun w hS => ⟨(0, 0, 0, 0, 0, 0), rfl, hS⟩)
  ·replace hr := inv_negB hb2 hr
   refine T.skip ?_
   refine T.then_normal ?_
   refine T.seq ?_
   refine T.region ?_
   refine T.move .list rfl (wants0 rfl) rfl rfl ?_
   refine T.build .list (vals := [(0, .pointer (some ⟨x2.1, 0, none⟩))]) (cells := #[.pointer (some ⟨x2.1, 0, none⟩), .int .i64 0, .int .i64 0, .int .i64 0, .int .i64 0, .int .i64 0, .int .i64 0, .int .i64 0, .int .i64 0, .int .i64 0, .int .i64 0, .int .i64 0, .int .i64 0, .int .i64 0, .int .i64 0, .int .i64 0, .int .i64 0, .int .i64 0]) rfl (wants0 rfl) rfl rfl (run_buildStruct (sizes := [1, 1, 16]) (by kernel_rfl) (by kernel_rfl)) ?_
   refine T.boxS .list rfl (wants0 rfl) rfl rfl (cs := [.pointer (some ⟨x2.1, 0, none⟩), .int .i64 0, .int .i64 0, .int .i64 0, .int .i64 0, .int .i64 0, .int .i64 0, .int .i64 0, .int .i64 0, .int .i64 0, .int .i64 0, .int .i64 0, .int .i64 0, .int .i64 0, .int .i64 0, .int .i64 0, .int .i64 0, .int .i64 0]) rfl (fun b1 => ?_)
   refine T.assign .list rfl (wants0 rfl) rfl rfl ?_
   refine T.nil ?_
   refine T.then_normal ?_
   refine T.seq ?_
   refine T.region ?_
   refine T.move .list rfl (wants0 rfl) rfl rfl ?_
   refine T.pick [4, 5, 6, 1, 2, 3, 7, 8, 0] 9 rfl rfl nla (hs' := ck2 x2.1 r1p0.1 x2.2.1 x2.2.2.2.1 x2.2.2.2.2 :: ck1 x2.2.1 r1p0.2.1 x2.2.2.1 p0 :: Mp E64 x2.2.2.1 r1p0.2.2.1 :: ck0 p0 o0 m0b A0c q0c.length c0c :: Mp (Elt.slice E8) m0b q0b :: Bf (Elt.pair E64 (Elt.slice E8)) 174 A0c c0c q0c :: Mp E64 x2.2.2.2.1 r1p0.2.2.2.1 :: Mp E64 x2.2.2.2.2 r1p0.2.2.2.2 :: ck5 b1 x2.1 :: hs) rfl ?_
   obtain ⟨r2, hg2, hr⟩ := inv_bind hr
   refine T.call .list (wants0 rfl) rfl (run_callF (vs := [_, _, _, _]) rfl Tryd.func23 rfl (by decide) rfl) (fun w hS => tree_Tree_Range_nil1_nil2.c hB hS (o0 := r1p0.1) (o0a := r1p0.2.1) (q0ab := r1p0.2.2.1) (o0ac := o0) (q0acb := q0b) (q0acc := q0c) (q0h := r1p0.2.2.2.1) (q0k := r1p0.2.2.2.2)  hg2) (fun x3 => ?_)
   refine T.move .list rfl (wants0 rfl) rfl rfl ?_
   refine T.extract .list rfl (wants0 rfl) rfl rfl rfl ?_
   refine T.extract .list rfl (wants0 rfl) rfl rfl rfl ?_
   refine T.assign .list rfl (wants0 rfl) rfl rfl ?_
   refine T.assign .list rfl (wants0 rfl) rfl rfl ?_
   refine T.nil ?_
   refine T.then_normal ?_
   refine T.seq ?_
   refine T.seq ?_
   refine T.region ?_
   refine T.move .list rfl (wants0 rfl) rfl rfl ?_
   refine T.bin .list rfl (wants0 rfl) rfl rfl rfl rfl ?_
   refine T.nil ?_
   refine T.then_normal ?_
   refine T.cond rfl (fun hb3 => ?_) (fun hb3 => ?_)
   ·replace hr := inv_posB hb3 hr
    refine T.seq ?_
    refine T.region ?_
    refine T.move .list rfl (wants0 rfl) rfl rfl ?_
    refine T.assign .list rfl (wants0 rfl) rfl rfl ?_
    refine T.assign .list rfl (wants0 rfl) rfl rfl ?_
    refine T.nil ?_
    refine T.then_normal ?_
    refine T.ret ?_
    refine T.then_ret ?_
    obtain rfl := inv_some hr
    refine T.pick [4, 5, 6] 10 rfl rfl nla rfl ?_
    refine T.ret2 rfl rfl rfl (fun w hS => ⟨(0, 0, 0, 0, 0, 0), rfl, hS⟩)
   ·replace hr := inv_negB hb3 hr
    refine T.skip ?_
    refine T.then_normal ?_
    refine T.seq ?_
    refine T.region ?_
    refine T.move .list rfl (wants0 rfl) rfl rfl ?_
    refine T.lenSlice .list rfl (wants0 rfl) rfl rfl ?_
    refine T.bin .list rfl (wants0 rfl) rfl rfl rfl rfl ?_
    refine T.assign .list rfl (wants0 rfl) rfl rfl ?_
    refine T.nil ?_
    refine T.then_normal ?_
    refine T.seqJ (fun (s1 : Int × Bool) (x4 : Unit) => [(6, .pointer (some ⟨b1, 0, none⟩)), (8, .bool s1.2)]) (fun s1 x4 => Cl b1 74 [.pointer (some ⟨x2.1, 0, none⟩), .int .i64 s1.1, .int .i64 0, .int .i64 0, .int .i64 0, .int .i64 0, .int .i64 0, .int .i64 0, .int .i64 0, .int .i64 0, .int .i64 0, .int .i64 0, .int .i64 0, .int .i64 0, .int .i64 0, .int .i64 0, .int .i64 0, .int .i64 0] :: ck2 x2.1 r1p0.1 x2.2.1 x2.2.2.2.1 x2.2.2.2.2 :: ck1 x2.2.1 r1p0.2.1 x2.2.2.1 p0 :: Mp E64 x2.2.2.1 r1p0.2.2.1 :: ck0 p0 o0 m0b A0c q0c.length c0c :: Mp (Elt.slice E8) m0b q0b :: Bf (Elt.pair E64 (Elt.slice E8)) 174 A0c c0c q0c :: Mp E64 x2.2.2.2.1 r1p0.2.2.2.1 :: Mp E64 x2.2.2.2.2 r1p0.2.2.2.2 :: hs) (fun s1 => local_Open.k1 r1p0 s1 = some r) (fun s1 x4 hk1 => ?_) (fun J1 => ?_)
    ·unfold local_Open.k1 at hk1
     refine T.seq ?_
     refine T.seq ?_
     refine T.region ?_
     refine T.move .list rfl (wants0 rfl) rfl rfl ?_
     refine T.not .list rfl (wants0 rfl) rfl rfl ?_
     refine T.nil ?_
     refine T.then_normal ?_
     refine T.cond rfl (fun hb4 => ?_) (fun hb4 => ?_)
     ·replace hk1 := inv_posB hb4 hk1
      refine T.seq ?_
      refine T.region ?_
      refine T.assign .list rfl (wants0 rfl) rfl rfl ?_
      refine T.assign .list rfl (wants0 rfl) rfl rfl ?_
      refine T.nil ?_
      refine T.then_normal ?_
      refine T.ret ?_
      refine T.then_ret ?_
      obtain rfl := inv_some hk1
      refine T.pick [4, 5, 6] 9 rfl rfl nla rfl ?_
      refine T.ret2 rfl rfl rfl (fun w hS => ⟨(0, 0, 0, 0, 0, 0), rfl, hS⟩)
     ·replace hk1 := inv_negB hb4 hk1
      refine T.skip ?_
      refine T.then_normal ?_
      refine T.seq ?_
      refine T.region ?_
      refine T.move .list rfl (wants0 rfl) rfl rfl ?_
      refine T.assign .list rfl (wants0 rfl) rfl rfl ?_
      refine T.assign .list rfl (wants0 rfl) rfl rfl ?_
      refine T.nil ?_
      refine T.then_normal ?_
      refine T.ret ?_
      obtain rfl := inv_some hk1
      refine T.pick [4, 5, 6, 0, 1, 2, 3, 7, 8] 9 rfl rfl nla rfl ?_
      refine T.ret2 rfl rfl rfl (fun w hS => ⟨(b1, x2.1, x2.2.1, x2.2.2.1, x2.2.2.2.1, x2.2.2.2.2), rfl, hS⟩)
    ·refine T.seq ?_
     refine T.region ?_
     refine T.move .list rfl (wants0 rfl) rfl rfl ?_
     refine T.lenSlice .list rfl (wants0 rfl) rfl rfl ?_
     refine T.move .list rfl (wants0 rfl) rfl rfl ?_
     refine T.nil ?_
     refine T.then_normal ?_
     refine T.block ?_
     obtain ⟨e1, hl1, hr⟩ := inv_bind hr
     refine T.le (EnvLe.cons rfl (EnvLe.cons rfl (EnvLe.cons rfl (EnvLe.cons rfl (EnvLe.cons rfl EnvLe.nil))))) (T.pick [9, 1, 2, 3, 4, 5, 6, 7, 8, 0] 10 rfl rfl nla rfl (T.loop (s0 := (0, (decide ((((r2.1.length : Int))) = 0)), 0)) (env := fun s2 x5 => [(6, .pointer (some ⟨b1, 0, none⟩)), (8, .bool s2.2.1), (37, .slice x3.1 r2.1.length x3.2), (38, .int .i64 ((r2.1.length : Int))), (39, .int .i64 s2.2.2)]) (hs := fun (s2 : Int × Bool × Int) (x5 : Unit) => Cl b1 74 [.pointer (some ⟨x2.1, 0, none⟩), .int .i64 s2.1, .int .i64 0, .int .i64 0, .int .i64 0, .int .i64 0, .int .i64 0, .int .i64 0, .int .i64 0, .int .i64 0, .int .i64 0, .int .i64 0, .int .i64 0, .int .i64 0, .int .i64 0, .int .i64 0, .int .i64 0, .int .i64 0] :: ck2 x2.1 r1p0.1 x2.2.1 x2.2.2.2.1 x2.2.2.2.2 :: ck1 x2.2.1 r1p0.2.1 x2.2.2.1 p0 :: Mp E64 x2.2.2.1 r1p0.2.2.1 :: ck0 p0 o0 m0b A0c q0c.length c0c :: Mp (Elt.slice E8) m0b q0b :: Bf (Elt.pair E64 (Elt.slice E8)) 174 A0c c0c q0c :: Mp E64 x2.2.2.2.1 r1p0.2.2.2.1 :: Mp E64 x2.2.2.2.2 r1p0.2.2.2.2 :: Ro (Elt.pair E64 (Elt.pair (Elt.slice E8) (Elt.slice E8))) x3.1 x3.2 r2.1 :: hs) hl1 () (fun K1 s2 x5 o1 he1 hm1 hx1 => ?_)))
     unfold local_Open.st1 at he1
     refine T.seq ?_
     refine T.region ?_
     refine T.bin .list rfl (wants0 rfl) rfl rfl rfl rfl ?_
     refine T.nil ?_
     refine T.then_normal ?_
     refine T.seq ?_
     refine T.cond rfl (fun hb5 => ?_) (fun hb5 => ?_)
     ·replace he1 := inv_posB hb5 he1
      refine T.skip ?_
      refine T.then_normal ?_
      refine T.seq ?_
      refine T.block ?_
      refine T.seq ?_
      refine T.region ?_
      obtain ⟨hc1, he1⟩ := inv_chk he1
      refine T.idxRo .list 9 rfl rfl (wants0 rfl) rfl rfl rfl hc1.1 hc1.2 (Nat.le_refl _) ?_
      refine T.ldFRo 9 .list Fd.self (Sh.pair Sh.sc (Sh.pair Sh.slice Sh.slice)) rfl (.inl rfl) rfl rfl hc1.1 hc1.2 rfl (wants0 rfl) rfl rfl rfl (v := fun x6 => .agg #[.int .i64 (((((r2.1).getD (s2.2.2 : Int).toNat default)).1)), .slice x6.2.1.1 ((((((r2.1).getD (s2.2.2 : Int).toNat default)).2.1)).length) x6.2.1.2, .slice x6.2.2.1 ((((((r2.1).getD (s2.2.2 : Int).toNat default)).2.2)).length) x6.2.2.2]) (hs' := fun x6 => Ro E8 x6.2.1.1 x6.2.1.2 (((((r2.1).getD (s2.2.2 : Int).toNat default)).2.1)) :: Ro E8 x6.2.2.1 x6.2.2.2 (((((r2.1).getD (s2.2.2 : Int).toNat default)).2.2)) :: Cl b1 74 [.pointer (some ⟨x2.1, 0, none⟩), .int .i64 s2.1, .int .i64 0, .int .i64 0, .int .i64 0, .int .i64 0, .int .i64 0, .int .i64 0, .int .i64 0, .int .i64 0, .int .i64 0, .int .i64 0, .int .i64 0, .int .i64 0, .int .i64 0, .int .i64 0, .int .i64 0, .int .i64 0] :: ck2 x2.1 r1p0.1 x2.2.1 x2.2.2.2.1 x2.2.2.2.2 :: ck1 x2.2.1 r1p0.2.1 x2.2.2.1 p0 :: Mp E64 x2.2.2.1 r1p0.2.2.1 :: ck0 p0 o0 m0b A0c q0c.length c0c :: Mp (Elt.slice E8) m0b q0b :: Bf (Elt.pair E64 (Elt.slice E8)) 174 A0c c0c q0c :: Mp E64 x2.2.2.2.1 r1p0.2.2.2.1 :: Mp E64 x2.2.2.2.2 r1p0.2.2.2.2 :: Ro (Elt.pair E64 (Elt.pair (Elt.slice E8) (Elt.slice E8))) x3.1 x3.2 r2.1 :: hs) (fun _ => rfl) (fun _ => rfl) (fun x6 => ?_)
      refine T.allocS .list rfl (wants0 rfl) rfl (cs := [.int .i64 0, .slice none 0 0, .slice none 0 0]) rfl (fun b2 => ?_)
      refine T.store .list 0 rfl rfl (wants0 rfl) rfl rfl rfl rfl (Nat.le_of_ble_eq_true rfl) rfl (cs' := [.int .i64 (((((r2.1).getD (s2.2.2 : Int).toNat default)).1)), .slice x6.2.1.1 ((((((r2.1).getD (s2.2.2 : Int).toNat default)).2.1)).length) x6.2.1.2, .slice x6.2.2.1 ((((((r2.1).getD (s2.2.2 : Int).toNat default)).2.2)).length) x6.2.2.2]) rfl rfl ?_
      refine T.nil ?_
      refine T.then_normal ?_
      refine T.seq ?_
      refine T.region ?_
      refine T.field .list rfl (wants0 rfl) rfl rfl ?_
      refine T.load .list 0 rfl rfl (wants0 rfl) rfl rfl rfl ?_
      obtain ⟨hc2, he1⟩ := inv_chk he1
      refine T.idxRo .list 1 rfl rfl (wants0 rfl) rfl rfl rfl hc2.1 hc2.2 (Nat.le_refl _) ?_
      refine T.ldRo1 .list 1 rfl rfl (wants0 rfl) rfl rfl hc2.1 hc2.2 ?_
      refine T.conv .list rfl (wants0 rfl) rfl rfl rfl ?_
      refine T.assign .list rfl (wants0 rfl) rfl rfl ?_
      refine T.nil ?_
      refine T.then_normal ?_
      refine T.block ?_
      refine T.seqJ (fun (s3 : Bool) (x7 : Unit) => [(6, .pointer (some ⟨b1, 0, none⟩)), (8, .bool s2.2.1), (10, .pointer (some ⟨b2, 0, none⟩)), (11, .int .i64 (IntKind.i64.wrap ((((((((r2.1).getD (s2.2.2 : Int).toNat default)).2.1)).getD (0 : Int).toNat default).toNat : Int)))), (37, .slice x3.1 r2.1.length x3.2), (38, .int .i64 ((r2.1.length : Int))), (39, .int .i64 s2.2.2), (48, .bool s3)]) (fun s3 x7 => Cl b1 74 [.pointer (some ⟨x2.1, 0, none⟩), .int .i64 s2.1, .int .i64 0, .int .i64 0, .int .i64 0, .int .i64 0, .int .i64 0, .int .i64 0, .int .i64 0, .int .i64 0, .int .i64 0, .int .i64 0, .int .i64 0, .int .i64 0, .int .i64 0, .int .i64 0, .int .i64 0, .int .i64 0] :: ck2 x2.1 r1p0.1 x2.2.1 x2.2.2.2.1 x2.2.2.2.2 :: ck1 x2.2.1 r1p0.2.1 x2.2.2.1 p0 :: Mp E64 x2.2.2.1 r1p0.2.2.1 :: ck0 p0 o0 m0b A0c q0c.length c0c :: Mp (Elt.slice E8) m0b q0b :: Bf (Elt.pair E64 (Elt.slice E8)) 174 A0c c0c q0c :: Mp E64 x2.2.2.2.1 r1p0.2.2.2.1 :: Mp E64 x2.2.2.2.2 r1p0.2.2.2.2 :: Cl b2 79 [.int .i64 (((((r2.1).getD (s2.2.2 : Int).toNat default)).1)), .slice x6.2.1.1 ((((((r2.1).getD (s2.2.2 : Int).toNat default)).2.1)).length) x6.2.1.2, .slice x6.2.2.1 ((((((r2.1).getD (s2.2.2 : Int).toNat default)).2.2)).length) x6.2.2.2] :: Ro E8 x6.2.1.1 x6.2.1.2 (((((r2.1).getD (s2.2.2 : Int).toNat default)).2.1)) :: Ro E8 x6.2.2.1 x6.2.2.2 (((((r2.1).getD (s2.2.2 : Int).toNat default)).2.2)) :: Ro (Elt.pair E64 (Elt.pair (Elt.slice E8) (Elt.slice E8))) x3.1 x3.2 r2.1 :: hs) (fun s3 => local_Open.k2 r2 s2 s3 = some o1) (fun s3 x7 hk2 => ?_) (fun J2 => ?_)
      ·unfold local_Open.k2 at hk2
       refine T.cond rfl (fun hb6 => ?_) (fun hb6 => ?_)
       ·replace hk2 := inv_posB hb6 hk2
        cases hk2
       ·replace hk2 := inv_negB hb6 hk2
        refine T.seqJ (fun (s4 : Bool) (x8 : Unit) => [(6, .pointer (some ⟨b1, 0, none⟩)), (10, .pointer (some ⟨b2, 0, none⟩)), (37, .slice x3.1 r2.1.length x3.2), (38, .int .i64 ((r2.1.length : Int))), (39, .int .i64 s2.2.2), (73, .bool s4)]) (fun s4 x8 => Cl b1 74 [.pointer (some ⟨x2.1, 0, none⟩), .int .i64 s2.1, .int .i64 0, .int .i64 0, .int .i64 0, .int .i64 0, .int .i64 0, .int .i64 0, .int .i64 0, .int .i64 0, .int .i64 0, .int .i64 0, .int .i64 0, .int .i64 0, .int .i64 0, .int .i64 0, .int .i64 0, .int .i64 0] :: ck2 x2.1 r1p0.1 x2.2.1 x2.2.2.2.1 x2.2.2.2.2 :: ck1 x2.2.1 r1p0.2.1 x2.2.2.1 p0 :: Mp E64 x2.2.2.1 r1p0.2.2.1 :: ck0 p0 o0 m0b A0c q0c.length c0c :: Mp (Elt.slice E8) m0b q0b :: Bf (Elt.pair E64 (Elt.slice E8)) 174 A0c c0c q0c :: Mp E64 x2.2.2.2.1 r1p0.2.2.2.1 :: Mp E64 x2.2.2.2.2 r1p0.2.2.2.2 :: Cl b2 79 [.int .i64 (((((r2.1).getD (s2.2.2 : Int).toNat default)).1)), .slice x6.2.1.1 ((((((r2.1).getD (s2.2.2 : Int).toNat default)).2.1)).length) x6.2.1.2, .slice x6.2.2.1 ((((((r2.1).getD (s2.2.2 : Int).toNat default)).2.2)).length) x6.2.2.2] :: Ro E8 x6.2.1.1 x6.2.1.2 (((((r2.1).getD (s2.2.2 : Int).toNat default)).2.1)) :: Ro E8 x6.2.2.1 x6.2.2.2 (((((r2.1).getD (s2.2.2 : Int).toNat default)).2.2)) :: Ro (Elt.pair E64 (Elt.pair (Elt.slice E8) (Elt.slice E8))) x3.1 x3.2 r2.1 :: hs) (fun s4 => local_Open.k3 r2 s2 s4 = some o1) (fun s4 x8 hk3 => ?_) (fun J3 => ?_)
        ·unfold local_Open.k3 at hk3
         refine T.cond rfl (fun hb7 => ?_) (fun hb7 => ?_)
         ·replace hk3 := inv_posB hb7 hk3
          refine T.seq ?_
          refine T.region ?_
          refine T.field .list rfl (wants0 rfl) rfl rfl ?_
          refine T.load .list 9 rfl rfl (wants0 rfl) rfl rfl rfl ?_
          obtain ⟨r3, hg3, hk3⟩ := inv_bind hk3
          refine T.call .list (wants0 rfl) rfl (run_callF (vs := [_, _]) rfl Tryd.func24 rfl (by decide) rfl) (fun w hS => wire_ReadUint.c hB hS (i0 := 11) rfl hg3) (fun x9 => ?_)
          refine T.move .list rfl (wants0 rfl) rfl rfl ?_
          refine T.extract .list rfl (wants0 rfl) rfl rfl rfl ?_
          refine T.extract .list rfl (wants0 rfl) rfl rfl rfl ?_
          refine T.extract .list rfl (wants0 rfl) rfl rfl rfl ?_
          refine T.assign .list rfl (wants0 rfl) rfl rfl ?_
          refine T.assign .list rfl (wants0 rfl) rfl rfl ?_
          refine T.assign .list rfl (wants0 rfl) rfl rfl ?_
          refine T.nil ?_
          refine T.then_normal ?_
          refine T.seq ?_
          refine T.seqJ (fun (s5 : Bool) (x10 : Unit) => [(6, .pointer (some ⟨b1, 0, none⟩)), (12, .int .i64 r3.1), (37, .slice x3.1 r2.1.length x3.2), (38, .int .i64 ((r2.1.length : Int))), (39, .int .i64 s2.2.2), (101, .bool s5)]) (fun s5 x10 => Cl b1 74 [.pointer (some ⟨x2.1, 0, none⟩), .int .i64 s2.1, .int .i64 0, .int .i64 0, .int .i64 0, .int .i64 0, .int .i64 0, .int .i64 0, .int .i64 0, .int .i64 0, .int .i64 0, .int .i64 0, .int .i64 0, .int .i64 0, .int .i64 0, .int .i64 0, .int .i64 0, .int .i64 0] :: ck2 x2.1 r1p0.1 x2.2.1 x2.2.2.2.1 x2.2.2.2.2 :: ck1 x2.2.1 r1p0.2.1 x2.2.2.1 p0 :: Mp E64 x2.2.2.1 r1p0.2.2.1 :: ck0 p0 o0 m0b A0c q0c.length c0c :: Mp (Elt.slice E8) m0b q0b :: Bf (Elt.pair E64 (Elt.slice E8)) 174 A0c c0c q0c :: Mp E64 x2.2.2.2.1 r1p0.2.2.2.1 :: Mp E64 x2.2.2.2.2 r1p0.2.2.2.2 :: Ro (Elt.pair E64 (Elt.pair (Elt.slice E8) (Elt.slice E8))) x3.1 x3.2 r2.1 :: hs) (fun s5 => local_Open.k4 r3 s2 s5 = some o1) (fun s5 x10 hk4 => ?_) (fun J4 => ?_)
          ·unfold local_Open.k4 at hk4
           refine T.cond rfl (fun hb8 => ?_) (fun hb8 => ?_)
           ·replace hk4 := inv_posB hb8 hk4
            refine T.seq ?_
            refine T.region ?_
            refine T.assign .list rfl (wants0 rfl) rfl rfl ?_
            refine T.assign .list rfl (wants0 rfl) rfl rfl ?_
            refine T.nil ?_
            refine T.then_normal ?_
            refine T.ret ?_
            refine T.then_ret ?_
            refine T.in_ret ?_
            refine T.in_ret ?_
            refine T.then_ret ?_
            refine T.then_ret ?_
            obtain rfl := inv_some hk4
            obtain rfl := hx1 _ rfl
            refine T.in_ret ?_
            refine T.then_ret ?_
            obtain rfl := inv_some hr
            refine T.pick [4, 5, 6] 10 rfl rfl nla rfl ?_
            refine T.ret2 rfl rfl rfl (fun w hS => ⟨(0, 0, 0, 0, 0, 0), rfl, hS⟩)
           ·replace hk4 := inv_negB hb8 hk4
            refine T.skip ?_
            refine T.then_normal ?_
            refine T.region ?_
            refine T.move .list rfl (wants0 rfl) rfl rfl ?_
            refine T.move .list rfl (wants0 rfl) rfl rfl ?_
            refine T.nilCheck .list rfl (wants0 rfl) rfl rfl ?_
            refine T.field .list rfl (wants0 rfl) rfl rfl ?_
            refine T.store .list 0 rfl rfl (wants0 rfl) rfl rfl rfl rfl (Nat.le_of_ble_eq_true rfl) rfl (cs' := [.pointer (some ⟨x2.1, 0, none⟩), .int .i64 r3.1, .int .i64 0, .int .i64 0, .int .i64 0, .int .i64 0, .int .i64 0, .int .i64 0, .int .i64 0, .int .i64 0, .int .i64 0, .int .i64 0, .int .i64 0, .int .i64 0, .int .i64 0, .int .i64 0, .int .i64 0, .int .i64 0]) rfl rfl ?_
            refine T.assign .list rfl (wants0 rfl) rfl rfl ?_
            refine T.nil ?_
            refine T.in_normal ?_
            refine T.in_normal ?_
            refine T.then_normal ?_
            refine T.region ?_
            refine T.bin .list rfl (wants0 rfl) rfl rfl rfl rfl ?_
            refine T.move .list rfl (wants0 rfl) rfl rfl ?_
            refine T.nil ?_
            refine T.then_normal ?_
            obtain rfl := inv_some hk4
            exact T.le (EnvLe.cons rfl (EnvLe.cons rfl (EnvLe.cons rfl (EnvLe.cons rfl (EnvLe.cons rfl EnvLe.nil))))) (T.pick [0, 1, 2, 3, 4, 5, 6, 7, 8, 9] 10 rfl rfl nla rfl (hm1 (r3.1, true, IntKind.i64.wrap (s2.2.2 + 1)) rfl ()))
          ·refine T.region ?_
           refine T.move .list rfl (wants0 rfl) rfl rfl ?_
           refine T.bin .list rfl (wants0 rfl) rfl rfl rfl rfl ?_
           refine T.move .list rfl (wants0 rfl) rfl rfl ?_
           refine T.bool (b := (decide (r3.2.2 = 0))) (fun hb9 => ?_) (fun hb9 => ?_)
           ·replace hk3 := inv_posB hb9 hk3
            refine T.move .list rfl (wants1 rfl rfl rfl (not_t hb9)) rfl rfl ?_
            refine T.field .list rfl (wants1 rfl rfl rfl (not_t hb9)) rfl rfl ?_
            refine T.load .list 9 rfl rfl (wants1 rfl rfl rfl (not_t hb9)) rfl rfl rfl ?_
            refine T.lenSlice .list rfl (wants1 rfl rfl rfl (not_t hb9)) rfl rfl ?_
            refine T.bin .list rfl (wants1 rfl rfl rfl (not_t hb9)) rfl rfl rfl rfl ?_
            refine T.pickF .list rfl (wants0 rfl) rfl rfl (not_t hb9) rfl ?_
            refine T.nil ?_
            refine T.then_normal ?_
            exact T.le (EnvLe.cons rfl (EnvLe.cons rfl (EnvLe.cons rfl (EnvLe.cons rfl (EnvLe.cons rfl (EnvLe.cons rfl EnvLe.nil)))))) (T.pick [0, 1, 2, 3, 4, 5, 6, 7, 8, 12] 13 rfl rfl nla rfl (J4 (!(decide (r3.2.1 = (((((((r2.1).getD (s2.2.2 : Int).toNat default)).2.2)).length : Int))))) () hk3))
           ·replace hk3 := inv_negB hb9 hk3
            refine T.leave .list (wantsNot rfl rfl rfl (not_f hb9)) rfl ?_
            refine T.leave .list (wantsNot rfl rfl rfl (not_f hb9)) rfl ?_
            refine T.leave .list (wantsNot rfl rfl rfl (not_f hb9)) rfl ?_
            refine T.leave .list (wantsNot rfl rfl rfl (not_f hb9)) rfl ?_
            refine T.leave .list (wantsNot rfl rfl rfl (not_f hb9)) rfl ?_
            refine T.pickT .list rfl (wants0 rfl) rfl rfl (not_f hb9) rfl ?_
            refine T.nil ?_
            refine T.then_normal ?_
            exact T.le (EnvLe.cons rfl (EnvLe.cons rfl (EnvLe.cons rfl (EnvLe.cons rfl (EnvLe.cons rfl (EnvLe.cons rfl EnvLe.nil)))))) (T.pick [0, 1, 2, 3, 4, 5, 6, 7, 8, 12] 13 rfl rfl nla rfl (J4 true () hk3))
         ·replace hk3 := inv_negB hb7 hk3
          refine T.seq ?_
          refine T.region ?_
          refine T.assign .list rfl (wants0 rfl) rfl rfl ?_
          refine T.assign .list rfl (wants0 rfl) rfl rfl ?_
          refine T.nil ?_
          refine T.then_normal ?_
          refine T.ret ?_
          refine T.in_ret ?_
          refine T.in_ret ?_
          refine T.then_ret ?_
          refine T.then_ret ?_
          obtain rfl := inv_some hk3
          obtain rfl := hx1 _ rfl
          refine T.in_ret ?_
          refine T.then_ret ?_
          obtain rfl := inv_some hr
          refine T.pick [4, 5, 6] 13 rfl rfl nla rfl ?_
          refine T.ret2 rfl rfl rfl (fun w hS => ⟨(0, 0, 0, 0, 0, 0), rfl, hS⟩)
        ·refine T.region ?_
         refine T.move .list rfl (wants0 rfl) rfl rfl ?_
         refine T.bin .list rfl (wants0 rfl) rfl rfl rfl rfl ?_
         refine T.move .list rfl (wants0 rfl) rfl rfl ?_
         refine T.bool (b := (decide (((IntKind.i64.wrap ((((((((r2.1).getD (s2.2.2 : Int).toNat default)).2.1)).getD (0 : Int).toNat default).toNat : Int)))) = 16))) (fun hb10 => ?_) (fun hb10 => ?_)
         ·replace hk2 := inv_posB hb10 hk2
          refine T.field .list rfl (wants1 rfl rfl rfl hb10) rfl rfl ?_
          refine T.load .list 9 rfl rfl (wants1 rfl rfl rfl hb10) rfl rfl rfl ?_
          refine T.lenSlice .list rfl (wants1 rfl rfl rfl hb10) rfl rfl ?_
          refine T.bin .list rfl (wants1 rfl rfl rfl hb10) rfl rfl rfl rfl ?_
          refine T.pickT .list rfl (wants0 rfl) rfl rfl hb10 rfl ?_
          refine T.move .list rfl (wants0 rfl) rfl rfl ?_
          refine T.bool (b := (decide (((((((((r2.1).getD (s2.2.2 : Int).toNat default)).2.1)).length : Int))) = 1))) (fun hb11 => ?_) (fun hb11 => ?_)
          ·replace hk2 := inv_posB hb11 hk2
           refine T.move .list rfl (wants1 rfl rfl rfl hb11) rfl rfl ?_
           refine T.not .list rfl (wants1 rfl rfl rfl hb11) rfl rfl ?_
           refine T.pickT .list rfl (wants0 rfl) rfl rfl hb11 rfl ?_
           refine T.assign .list rfl (wants0 rfl) rfl rfl ?_
           refine T.nil ?_
           refine T.then_normal ?_
           exact T.le (EnvLe.cons rfl (EnvLe.cons rfl (EnvLe.cons rfl (EnvLe.cons rfl (EnvLe.cons rfl (EnvLe.cons rfl EnvLe.nil)))))) (T.pick [0, 1, 2, 3, 4, 5, 6, 7, 8, 9, 10, 11, 12] 13 rfl rfl nla rfl (J3 (!s2.2.1) () hk2))
          ·replace hk2 := inv_negB hb11 hk2
           refine T.leave .list (wantsNot rfl rfl rfl hb11) rfl ?_
           refine T.leave .list (wantsNot rfl rfl rfl hb11) rfl ?_
           refine T.pickF .list rfl (wants0 rfl) rfl rfl hb11 rfl ?_
           refine T.assign .list rfl (wants0 rfl) rfl rfl ?_
           refine T.nil ?_
           refine T.then_normal ?_
           exact T.le (EnvLe.cons rfl (EnvLe.cons rfl (EnvLe.cons rfl (EnvLe.cons rfl (EnvLe.cons rfl (EnvLe.cons rfl EnvLe.nil)))))) (T.pick [0, 1, 2, 3, 4, 5, 6, 7, 8, 9, 10, 11, 12] 13 rfl rfl nla rfl (J3 false () hk2))
         ·replace hk2 := inv_negB hb10 hk2
          refine T.leave .list (wantsNot rfl rfl rfl hb10) rfl ?_
          refine T.leave .list (wantsNot rfl rfl rfl hb10) rfl ?_
          refine T.leave .list (wantsNot rfl rfl rfl hb10) rfl ?_
          refine T.leave .list (wantsNot rfl rfl rfl hb10) rfl ?_
          refine T.pickF .list rfl (wants0 rfl) rfl rfl hb10 rfl ?_
          refine T.move .list rfl (wants0 rfl) rfl rfl ?_
          refine T.leave .list (wantsNot rfl rfl rfl rfl) rfl ?_
          refine T.leave .list (wantsNot rfl rfl rfl rfl) rfl ?_
          refine T.pickF .list rfl (wants0 rfl) rfl rfl rfl rfl ?_
          refine T.assign .list rfl (wants0 rfl) rfl rfl ?_
          refine T.nil ?_
          refine T.then_normal ?_
          exact T.le (EnvLe.cons rfl (EnvLe.cons rfl (EnvLe.cons rfl (EnvLe.cons rfl (EnvLe.cons rfl (EnvLe.cons rfl EnvLe.nil)))))) (T.pick [0, 1, 2, 3, 4, 5, 6, 7, 8, 9, 10, 11, 12] 13 rfl rfl nla rfl (J3 false () hk2))
      ·refine T.region ?_
       refine T.move .list rfl (wants0 rfl) rfl rfl ?_
       refine T.bin .list rfl (wants0 rfl) rfl rfl rfl rfl ?_
       refine T.move .list rfl (wants0 rfl) rfl rfl ?_
       refine T.bool (b := (decide (((IntKind.i64.wrap ((((((((r2.1).getD (s2.2.2 : Int).toNat default)).2.1)).getD (0 : Int).toNat default).toNat : Int)))) < 16))) (fun hb12 => ?_) (fun hb12 => ?_)
       ·replace he1 := inv_posB hb12 he1
        refine T.field .list rfl (wants1 rfl rfl rfl hb12) rfl rfl ?_
        refine T.load .list 0 rfl rfl (wants1 rfl rfl rfl hb12) rfl rfl rfl ?_
        refine T.lenSlice .list rfl (wants1 rfl rfl rfl hb12) rfl rfl ?_
        refine T.bin .list rfl (wants1 rfl rfl rfl hb12) rfl rfl rfl rfl ?_
        refine T.pickT .list rfl (wants0 rfl) rfl rfl hb12 rfl ?_
        refine T.move .list rfl (wants0 rfl) rfl rfl ?_
        refine T.bool (b := (decide ((1 : Int) < (((((((r2.1).getD (s2.2.2 : Int).toNat default)).2.1)).length : Int))))) (fun hb13 => ?_) (fun hb13 => ?_)
        ·replace he1 := inv_posB hb13 he1
         refine T.field .list rfl (wants1 rfl rfl rfl hb13) rfl rfl ?_
         refine T.load .list 0 rfl rfl (wants1 rfl rfl rfl hb13) rfl rfl rfl ?_
         refine T.lenSlice .list rfl (wants1 rfl rfl rfl hb13) rfl rfl ?_
         refine T.bin .list rfl (wants1 rfl rfl rfl hb13) rfl rfl rfl rfl ?_
         refine T.pickT .list rfl (wants0 rfl) rfl rfl hb13 rfl ?_
         refine T.assign .list rfl (wants0 rfl) rfl rfl ?_
         refine T.nil ?_
         refine T.then_normal ?_
         exact T.le (EnvLe.cons rfl (EnvLe.cons rfl (EnvLe.cons rfl (EnvLe.cons rfl (EnvLe.cons rfl (EnvLe.cons rfl (EnvLe.cons rfl (EnvLe.cons rfl EnvLe.nil)))))))) (T.pick [3, 4, 5, 6, 7, 8, 9, 10, 11, 0, 1, 2, 12] 13 rfl rfl nla rfl (J2 (decide (((((((((r2.1).getD (s2.2.2 : Int).toNat default)).2.1)).length : Int))) ≤ 61)) () he1))
        ·replace he1 := inv_negB hb13 he1
         refine T.leave .list (wantsNot rfl rfl rfl hb13) rfl ?_
         refine T.leave .list (wantsNot rfl rfl rfl hb13) rfl ?_
         refine T.leave .list (wantsNot rfl rfl rfl hb13) rfl ?_
         refine T.leave .list (wantsNot rfl rfl rfl hb13) rfl ?_
         refine T.pickF .list rfl (wants0 rfl) rfl rfl hb13 rfl ?_
         refine T.assign .list rfl (wants0 rfl) rfl rfl ?_
         refine T.nil ?_
         refine T.then_normal ?_
         exact T.le (EnvLe.cons rfl (EnvLe.cons rfl (EnvLe.cons rfl (EnvLe.cons rfl (EnvLe.cons rfl (EnvLe.cons rfl (EnvLe.cons rfl (EnvLe.cons rfl EnvLe.nil)))))))) (T.pick [3, 4, 5, 6, 7, 8, 9, 10, 11, 0, 1, 2, 12] 13 rfl rfl nla rfl (J2 false () he1))
       ·replace he1 := inv_negB hb12 he1
        refine T.leave .list (wantsNot rfl rfl rfl hb12) rfl ?_
        refine T.leave .list (wantsNot rfl rfl rfl hb12) rfl ?_
        refine T.leave .list (wantsNot rfl rfl rfl hb12) rfl ?_
        refine T.leave .list (wantsNot rfl rfl rfl hb12) rfl ?_
        refine T.pickF .list rfl (wants0 rfl) rfl rfl hb12 rfl ?_
        refine T.move .list rfl (wants0 rfl) rfl rfl ?_
        refine T.leave .list (wantsNot rfl rfl rfl rfl) rfl ?_
        refine T.leave .list (wantsNot rfl rfl rfl rfl) rfl ?_
        refine T.leave .list (wantsNot rfl rfl rfl rfl) rfl ?_
        refine T.leave .list (wantsNot rfl rfl rfl rfl) rfl ?_
        refine T.pickF .list rfl (wants0 rfl) rfl rfl rfl rfl ?_
        refine T.assign .list rfl (wants0 rfl) rfl rfl ?_
        refine T.nil ?_
        refine T.then_normal ?_
        exact T.le (EnvLe.cons rfl (EnvLe.cons rfl (EnvLe.cons rfl (EnvLe.cons rfl (EnvLe.cons rfl (EnvLe.cons rfl (EnvLe.cons rfl (EnvLe.cons rfl EnvLe.nil)))))))) (T.pick [3, 4, 5, 6, 7, 8, 9, 10, 11, 0, 1, 2, 12] 13 rfl rfl nla rfl (J2 false () he1))
     ·replace he1 := inv_negB hb5 he1
      refine T.exit ?_
      refine T.then_exit ?_
      refine T.then_exit ?_
      obtain rfl := inv_some he1
      obtain rfl := hx1 _ rfl
      refine T.in_hit ?_
      refine T.then_normal ?_
      exact T.le (EnvLe.cons rfl (EnvLe.cons rfl EnvLe.nil)) (T.pick [0, 1, 2, 3, 4, 5, 6, 7, 8] 10 rfl rfl nla rfl (J1 (s2.1, s2.2.1) () hr))

noncomputable def draft_New.impl (o0 : Int × Int × Int × Int × Int × Int × Int × Int × Int × Int × Int × Int × Int × Int × Int × Int × Int) (o0a : Int × Int × Int × Int) (o0aa : Int × Int × Int × Int) (q0aab : List (Int × Int)) (o0aac : Int × Bool × Int × Int × Int × Int × Int) (q0aacb : List (Int × (List UInt8))) (q0aacc : List (Int × (List UInt8))) (q0ah : List (Int × Int)) (q0ak : List (Int × Int)) : Option ((Option (Unit × (List ((Int × (List UInt8) × (List UInt8)) × Bool)))) × Int) :=
  (tree_Tree_Dead.impl o0a o0aa q0aab o0aac q0aacb q0aacc q0ah q0ak).bind fun r1 => (if r1 = true then some (none, 20) else some ((some ((), ([] : List ((Int × (List UInt8) × (List UInt8)) × Bool)))), 0))
set_option maxRecDepth 100000 in
set_option maxHeartbeats 4000000 in
theorem draft_New.c {B : World} {hs : List MP} {w : World} {p0 : Nat} {o0 : Int × Int × Int × Int × Int × Int × Int × Int × Int × Int × Int × Int × Int × Int × Int × Int × Int} {p0a : Nat} {o0a : Int × Int × Int × Int} {p0aa : Nat} {o0aa : Int × Int × Int × Int} {m0aab : Nat} {q0aab : List (Int × Int)} {p0aac : Nat} {o0aac : Int × Bool × Int × Int × Int × Int × Int} {m0aacb : Nat} {q0aacb : List (Int × (List UInt8))} {c0aacc : Nat} {A0aacc : Option Addr} {q0aacc : List (Int × (List UInt8))} {m0ah : Nat} {q0ah : List (Int × Int)} {m0ak : Nat} {q0ak : List (Int × Int)} (hB : Base B) (hS : St B (ck4 p0 o0 p0a :: ck2 p0a o0a p0aa m0ah m0ak :: ck1 p0aa o0aa m0aab p0aac :: Mp E64 m0aab q0aab :: ck0 p0aac o0aac m0aacb A0aacc q0aacc.length c0aacc :: Mp (Elt.slice E8) m0aacb q0aacb :: Bf (Elt.pair E64 (Elt.slice E8)) 174 A0aacc c0aacc q0aacc :: Mp E64 m0ah q0ah :: Mp E64 m0ak q0ak :: hs) w) {r : (Option (Unit × (List ((Int × (List UInt8) × (List UInt8)) × Bool)))) × Int} (hr : draft_New.impl o0 o0a o0aa q0aab o0aac q0aacb q0aacc q0ah q0ak = some r) :
    Calls Tryd.prog 14 #[.pointer (some ⟨p0, 0, none⟩)] w fun e w' => ∃ x : Nat × (Option Addr × Nat), e = .returned (.tuple #[optp r.1 x.1, .int .i64 r.2]) ∧ St B (ck4 p0 o0 p0a :: ck2 p0a o0a p0aa m0ah m0ak :: ck1 p0aa o0aa m0aab p0aac :: Mp E64 m0aab q0aab :: ck0 p0aac o0aac m0aacb A0aacc q0aacc.length c0aacc :: Mp (Elt.slice E8) m0aacb q0aacb :: Bf (Elt.pair E64 (Elt.slice E8)) 174 A0aacc c0aacc q0aacc :: Mp E64 m0ah q0ah :: Mp E64 m0ak q0ak :: ((optc r.1 (fun v => [Cl x.1 84 [.pointer (some ⟨p0, 0, none⟩), .slice x.2.1 v.2.length x.2.2], Bf (Elt.pair (Elt.pair E64 (Elt.pair (Elt.slice E8) (Elt.slice E8))) EBool) 88 x.2.1 x.2.2 v.2])) ++ hs)) w' := by
 unfold draft_New.impl at hr
 refine calls_T Tryd.func14 rfl rfl rfl hS ?_
 refine T.seq ?_
 refine T.region ?_
 refine T.assign .list rfl (wants0 rfl) rfl rfl ?_
 refine T.assign .list rfl (wants0 rfl) rfl rfl ?_
 refine T.nil ?_
 refine T.then_normal ?_
 refine T.seq ?_
 refine T.block ?_
 refine T.seq ?_
 refine T.region ?_
 refine T.move .list rfl (wants0 rfl) rfl rfl ?_
 refine T.ptrEq (pt := 74) .list rfl (wants0 rfl) rfl rfl rfl (by kernel_rfl) (.inr rfl) rfl ?_
 refine T.assign .list rfl (wants0 rfl) rfl rfl ?_
 refine T.nil ?_
 refine T.then_normal ?_
 refine T.condF rfl rfl ?_
 refine T.seq ?_
 refine T.region ?_
 refine T.move .list rfl (wants0 rfl) rfl rfl ?_
 refine T.nilCheck .list rfl (wants0 rfl) rfl rfl ?_
 refine T.field .list rfl (wants0 rfl) rfl rfl ?_
 refine T.load .list 0 rfl rfl (wants0 rfl) rfl rfl rfl ?_
 refine T.pick [1, 2, 3, 4, 5, 6, 7, 8, 0] 9 rfl rfl nla (hs' := ck2 p0a o0a p0aa m0ah m0ak :: ck1 p0aa o0aa m0aab p0aac :: Mp E64 m0aab q0aab :: ck0 p0aac o0aac m0aacb A0aacc q0aacc.length c0aacc :: Mp (Elt.slice E8) m0aacb q0aacb :: Bf (Elt.pair E64 (Elt.slice E8)) 174 A0aacc c0aacc q0aacc :: Mp E64 m0ah q0ah :: Mp E64 m0ak q0ak :: ck4 p0 o0 p0a :: hs) rfl ?_
 obtain ⟨r1, hg1, hr⟩ := inv_bind hr
 refine T.call .list (wants0 rfl) rfl (run_callF (vs := [_]) rfl Tryd.func25 rfl (by decide) rfl) (fun w hS => tree_Tree_Dead.c hB hS (o0 := o0a) (o0a := o0aa) (q0ab := q0aab) (o0ac := o0aac) (q0acb := q0aacb) (q0acc := q0aacc) (q0h := q0ah) (q0k := q0ak)  hg1) (fun x1 => ?_)
 refine T.assign .list rfl (wants0 rfl) rfl rfl ?_
 refine T.nil ?_
 refine T.then_normal ?_
 refine T.cond rfl (fun hb1 => ?_) (fun hb1 => ?_)
 ·replace hr := inv_posB hb1 hr
  refine T.seq ?_
  refine T.region ?_
  refine T.assign .list rfl (wants0 rfl) rfl rfl ?_
  refine T.assign .list rfl (wants0 rfl) rfl rfl ?_
  refine T.nil ?_
  refine T.then_normal ?_
  refine T.ret ?_
  refine T.in_ret ?_
  refine T.then_ret ?_
  obtain rfl := inv_some hr
  refine T.pick [8, 0, 1, 2, 3, 4, 5, 6, 7] 9 rfl rfl nla rfl ?_
  refine T.ret2 rfl rfl rfl (fun w hS => ⟨(0, (none, 0)), rfl, hS⟩)
 ·replace hr := inv_negB hb1 hr
  refine T.skip ?_
  refine T.in_normal ?_
  refine T.then_normal ?_
  refine T.seq ?_
  refine T.region ?_
  refine T.move .list rfl (wants0 rfl) rfl rfl ?_
  refine T.build .list (vals := [(0, .pointer (some ⟨p0, 0, none⟩))]) (cells := #[.pointer (some ⟨p0, 0, none⟩), .slice none 0 0]) rfl (wants0 rfl) rfl rfl (run_buildStruct (sizes := [1, 1]) (by kernel_rfl) (by kernel_rfl)) ?_
  refine T.boxS .list rfl (wants0 rfl) rfl rfl (cs := [.pointer (some ⟨p0, 0, none⟩), .slice none 0 0]) rfl (fun b1 => ?_)
  refine T.assign .list rfl (wants0 rfl) rfl rfl ?_
  refine T.assign .list rfl (wants0 rfl) rfl rfl ?_
  refine T.nil ?_
  refine T.then_normal ?_
  refine T.ret ?_
  obtain rfl := inv_some hr
  refine T.nilBf (Elt.pair (Elt.pair E64 (Elt.pair (Elt.slice E8) (Elt.slice E8))) EBool) 88 ?_
  refine T.pick [10, 2, 3, 4, 5, 6, 7, 8, 9, 1, 0] 11 rfl rfl nla rfl ?_
  refine T.ret2 rfl rfl rfl (fun w hS => ⟨(b1, (none, 0)), rfl, hS⟩)

noncomputable def law13_New.k1 (s1 : Unit) : Option ((Option (Unit × (Int × Int × Int × Int × Int × Int × Int × Int × Int × Int × Int × Int × Int × Int × Int × Int × Int) × (Int × Int × Int × Int) × (Int × Int × Int × Int) × (List (Int × Int)) × (Int × Bool × Int × Int × Int × Int × Int) × (List (Int × (List UInt8))) × (List (Int × (List UInt8))) × (List (Int × Int)) × (List (Int × Int)) × (List ((Int × (List UInt8) × (List UInt8)) × Bool)))) × Unit) :=
  some (none, ())
noncomputable def law13_New.k2 (r2p0 : (Int × Int × Int × Int × Int × Int × Int × Int × Int × Int × Int × Int × Int × Int × Int × Int × Int) × (Int × Int × Int × Int) × (Int × Int × Int × Int) × (List (Int × Int)) × (List (Int × Int)) × (List (Int × Int))) (r1p0 : (Int × Bool × Int × Int × Int × Int × Int) × (List (Int × (List UInt8))) × (List (Int × (List UInt8)))) (s2 : Bool) : Option ((Option (Unit × (Int × Int × Int × Int × Int × Int × Int × Int × Int × Int × Int × Int × Int × Int × Int × Int × Int) × (Int × Int × Int × Int) × (Int × Int × Int × Int) × (List (Int × Int)) × (Int × Bool × Int × Int × Int × Int × Int) × (List (Int × (List UInt8))) × (List (Int × (List UInt8))) × (List (Int × Int)) × (List (Int × Int)) × (List ((Int × (List UInt8) × (List UInt8)) × Bool)))) × Unit) :=
  (if s2 = true then some (none, ()) else (draft_New.impl r2p0.1 r2p0.2.1 r2p0.2.2.1 r2p0.2.2.2.1 r1p0.1 r1p0.2.1 r1p0.2.2 r2p0.2.2.2.2.1 r2p0.2.2.2.2.2).bind fun r3 => (match r3 with | (none, r3p1) => ((if ((!(decide (r3p1 = 0)))) = true then some (none, ()) else none)) | (some r3p0, r3p1) => ((if ((!(decide (r3p1 = 0)))) = true then some (none, ()) else some ((some ((), r2p0.1, r2p0.2.1, r2p0.2.2.1, r2p0.2.2.2.1, r1p0.1, r1p0.2.1, r1p0.2.2, r2p0.2.2.2.2.1, r2p0.2.2.2.2.2, r3p0.2)), ())))))
noncomputable def law13_New.impl  : Option ((Option (Unit × (Int × Int × Int × Int × Int × Int × Int × Int × Int × Int × Int × Int × Int × Int × Int × Int × Int) × (Int × Int × Int × Int) × (Int × Int × Int × Int) × (List (Int × Int)) × (Int × Bool × Int × Int × Int × Int × Int) × (List (Int × (List UInt8))) × (List (Int × (List UInt8))) × (List (Int × Int)) × (List (Int × Int)) × (List ((Int × (List UInt8) × (List UInt8)) × Bool)))) × Unit) :=
  (disk_New.impl 1000).bind fun r1 => (match r1 with | (none, r1p1) => (some (none, ())) | (some r1p0, r1p1) => ((local_Open.impl r1p0.1 r1p0.2.1 r1p0.2.2).bind fun r2 => (match r2 with | (none, r2p1) => ((if ((decide (r2p1 = 0))) = true then law13_New.k1 () else law13_New.k1 ())) | (some r2p0, r2p1) => ((if ((decide (r2p1 = 0))) = true then law13_New.k2 r2p0 r1p0 false else law13_New.k2 r2p0 r1p0 true)))))
set_option maxRecDepth 100000 in
set_option maxHeartbeats 4000000 in
theorem law13_New.c {B : World} {hs : List MP} {w : World} (hB : Base B) (hS : St B hs w) {r : (Option (Unit × (Int × Int × Int × Int × Int × Int × Int × Int × Int × Int × Int × Int × Int × Int × Int × Int × Int) × (Int × Int × Int × Int) × (Int × Int × Int × Int) × (List (Int × Int)) × (Int × Bool × Int × Int × Int × Int × Int) × (List (Int × (List UInt8))) × (List (Int × (List UInt8))) × (List (Int × Int)) × (List (Int × Int)) × (List ((Int × (List UInt8) × (List UInt8)) × Bool)))) × Unit} (hr : law13_New.impl  = some r) :
    Calls Tryd.prog 5 #[] w fun e w' => ∃ x : Nat × Nat × Nat × Nat × Nat × Nat × Nat × (Option Addr × Nat) × Nat × Nat × (Option Addr × Nat), e = .returned (.tuple #[optp r.1 x.1, optp r.1 x.2.1]) ∧ St B (((optc r.1 (fun v => [ck6 x.1 x.2.1 x.2.2.2.2.2.2.2.2.2.2.1 v.2.2.2.2.2.2.2.2.2.2.length x.2.2.2.2.2.2.2.2.2.2.2, ck4 x.2.1 v.2.1 x.2.2.1, ck2 x.2.2.1 v.2.2.1 x.2.2.2.1 x.2.2.2.2.2.2.2.2.1 x.2.2.2.2.2.2.2.2.2.1, ck1 x.2.2.2.1 v.2.2.2.1 x.2.2.2.2.1 x.2.2.2.2.2.1, Mp E64 x.2.2.2.2.1 v.2.2.2.2.1, ck0 x.2.2.2.2.2.1 v.2.2.2.2.2.1 x.2.2.2.2.2.2.1 x.2.2.2.2.2.2.2.1.1 v.2.2.2.2.2.2.2.1.length x.2.2.2.2.2.2.2.1.2, Mp (Elt.slice E8) x.2.2.2.2.2.2.1 v.2.2.2.2.2.2.1, Bf (Elt.pair E64 (Elt.slice E8)) 174 x.2.2.2.2.2.2.2.1.1 x.2.2.2.2.2.2.2.1.2 v.2.2.2.2.2.2.2.1, Mp E64 x.2.2.2.2.2.2.2.2.1 v.2.2.2.2.2.2.2.2.1, Mp E64 x.2.2.2.2.2.2.2.2.2.1 v.2.2.2.2.2.2.2.2.2.1, Bf (Elt.pair (Elt.pair E64 (Elt.pair (Elt.slice E8) (Elt.slice E8))) EBool) 88 x.2.2.2.2.2.2.2.2.2.2.1 x.2.2.2.2.2.2.2.2.2.2.2 v.2.2.2.2.2.2.2.2.2.2])) ++ hs)) w' := by
 unfold law13_New.impl at hr
 refine calls_T Tryd.func5 rfl rfl rfl hS ?_
 refine T.seq ?_
 refine T.region ?_
 refine T.assign .list rfl (wants0 rfl) rfl rfl ?_
 refine T.assign .list rfl (wants0 rfl) rfl rfl ?_
 refine T.nil ?_
 refine T.then_normal ?_
 refine T.seq ?_
 refine T.region ?_
 obtain ⟨r1, hg1, hr⟩ := inv_bind hr
 rcases r1 with ⟨_ | r1p0, r1p1⟩
 ·dsimp only at hr
  refine T.call (v := fun (x1 : Nat × Nat × (Option Addr × Nat)) => .tuple #[.pointer none, .int .i64 r1p1]) (hs' := fun x1 => hs) .list (wants0 rfl) rfl (run_callF (vs := [_]) rfl Tryd.func12 rfl (by decide) rfl) (fun w hS => disk_New.c hB hS  hg1) (fun x1 => ?_)
  refine T.move .list rfl (wants0 rfl) rfl rfl ?_
  refine T.extract .list rfl (wants0 rfl) rfl rfl rfl ?_
  refine T.extract .list rfl (wants0 rfl) rfl rfl rfl ?_
  refine T.assign .list rfl (wants0 rfl) rfl rfl ?_
  refine T.assign .list rfl (wants0 rfl) rfl rfl ?_
  refine T.nil ?_
  refine T.then_normal ?_
  refine T.seq ?_
  refine T.seq ?_
  refine T.region ?_
  refine T.move .list rfl (wants0 rfl) rfl rfl ?_
  refine T.ptrEq (pt := 68) .list rfl (wants0 rfl) rfl rfl rfl (by kernel_rfl) (.inr rfl) rfl ?_
  refine T.nil ?_
  refine T.then_normal ?_
  refine T.condT rfl rfl ?_
  refine T.seq ?_
  refine T.region ?_
  refine T.assign .list rfl (wants0 rfl) rfl rfl ?_
  refine T.assign .list rfl (wants0 rfl) rfl rfl ?_
  refine T.nil ?_
  refine T.then_normal ?_
  refine T.ret ?_
  refine T.then_ret ?_
  obtain rfl := inv_some hr
  refine T.pick [] 0 rfl rfl nla rfl ?_
  refine T.ret2 rfl rfl rfl (fun w hS => ⟨(0, 0, 0, 0, 0, 0, 0, (none, 0), 0, 0, (none, 0)), rfl, hS⟩)
 ·dsimp only at hr
  refine T.call (v := fun (x2 : Nat × Nat × (Option Addr × Nat)) => .tuple #[.pointer (some ⟨x2.1, 0, none⟩), .int .i64 r1p1]) (hs' := fun x2 => ck0 x2.1 r1p0.1 x2.2.1 x2.2.2.1 r1p0.2.2.length x2.2.2.2 :: Mp (Elt.slice E8) x2.2.1 r1p0.2.1 :: Bf (Elt.pair E64 (Elt.slice E8)) 174 x2.2.2.1 x2.2.2.2 r1p0.2.2 :: hs) .list (wants0 rfl) rfl (run_callF (vs := [_]) rfl Tryd.func12 rfl (by decide) rfl) (fun w hS => disk_New.c hB hS  hg1) (fun x2 => ?_)
  refine T.move .list rfl (wants0 rfl) rfl rfl ?_
  refine T.extract .list rfl (wants0 rfl) rfl rfl rfl ?_
  refine T.extract .list rfl (wants0 rfl) rfl rfl rfl ?_
  refine T.assign .list rfl (wants0 rfl) rfl rfl ?_
  refine T.assign .list rfl (wants0 rfl) rfl rfl ?_
  refine T.nil ?_
  refine T.then_normal ?_
  refine T.seq ?_
  refine T.seq ?_
  refine T.region ?_
  refine T.move .list rfl (wants0 rfl) rfl rfl ?_
  refine T.ptrEq (pt := 68) .list rfl (wants0 rfl) rfl rfl rfl (by kernel_rfl) (.inr rfl) rfl ?_
  refine T.nil ?_
  refine T.then_normal ?_
  refine T.condF rfl rfl ?_
  refine T.skip ?_
  refine T.then_normal ?_
  refine T.seq ?_
  refine T.region ?_
  refine T.move .list rfl (wants0 rfl) rfl rfl ?_
  obtain ⟨r2, hg2, hr⟩ := inv_bind hr
  rcases r2 with ⟨_ | r2p0, r2p1⟩
  ·dsimp only at hr
   refine T.pick [0, 1, 2] 3 rfl rfl nla (hs' := ck0 x2.1 r1p0.1 x2.2.1 x2.2.2.1 r1p0.2.2.length x2.2.2.2 :: Mp (Elt.slice E8) x2.2.1 r1p0.2.1 :: Bf (Elt.pair E64 (Elt.slice E8)) 174 x2.2.2.1 x2.2.2.2 r1p0.2.2 :: hs) rfl ?_
   refine T.call (v := fun (x3 : Nat × Nat × Nat × Nat × Nat × Nat) => .tuple #[.pointer none, .int .i64 r2p1]) (hs' := fun x3 => ck0 x2.1 r1p0.1 x2.2.1 x2.2.2.1 r1p0.2.2.length x2.2.2.2 :: Mp (Elt.slice E8) x2.2.1 r1p0.2.1 :: Bf (Elt.pair E64 (Elt.slice E8)) 174 x2.2.2.1 x2.2.2.2 r1p0.2.2 :: hs) .list (wants0 rfl) rfl (run_callF (vs := [_]) rfl Tryd.func13 rfl (by decide) rfl) (fun w hS => local_Open.c hB hS (o0 := r1p0.1) (q0b := r1p0.2.1) (q0c := r1p0.2.2)  hg2) (fun x3 => ?_)
   refine T.move .list rfl (wants0 rfl) rfl rfl ?_
   refine T.extract .list rfl (wants0 rfl) rfl rfl rfl ?_
   refine T.extract .list rfl (wants0 rfl) rfl rfl rfl ?_
   refine T.assign .list rfl (wants0 rfl) rfl rfl ?_
   refine T.assign .list rfl (wants0 rfl) rfl rfl ?_
   refine T.nil ?_
   refine T.then_normal ?_
   refine T.seq ?_
   refine T.seqJ (fun (s1 : Unit) (x4 : Unit) => [(4, .pointer none), (23, .bool true)]) (fun s1 x4 => hs) (fun s1 => law13_New.k1 s1 = some r) (fun s1 x4 hk1 => ?_) (fun J1 => ?_)
   ·unfold law13_New.k1 at hk1
    refine T.condT rfl rfl ?_
    refine T.seq ?_
    refine T.region ?_
    refine T.assign .list rfl (wants0 rfl) rfl rfl ?_
    refine T.assign .list rfl (wants0 rfl) rfl rfl ?_
    refine T.nil ?_
    refine T.then_normal ?_
    refine T.ret ?_
    refine T.then_ret ?_
    obtain rfl := inv_some hk1
    refine T.pick [] 0 rfl rfl nla rfl ?_
    refine T.ret2 rfl rfl rfl (fun w hS => ⟨(0, 0, 0, 0, 0, 0, 0, (none, 0), 0, 0, (none, 0)), rfl, hS⟩)
   ·refine T.region ?_
    refine T.move .list rfl (wants0 rfl) rfl rfl ?_
    refine T.bin .list rfl (wants0 rfl) rfl rfl rfl rfl ?_
    refine T.move .list rfl (wants0 rfl) rfl rfl ?_
    refine T.bool (b := (decide (r2p1 = 0))) (fun hb1 => ?_) (fun hb1 => ?_)
    ·replace hr := inv_posB hb1 hr
     refine T.move .list rfl (wants1 rfl rfl rfl (not_t hb1)) rfl rfl ?_
     refine T.ptrEq (pt := 74) .list rfl (wants1 rfl rfl rfl (not_t hb1)) rfl rfl rfl (by kernel_rfl) (.inr rfl) rfl ?_
     refine T.pickF .list rfl (wants0 rfl) rfl rfl (not_t hb1) rfl ?_
     refine T.nil ?_
     refine T.then_normal ?_
     exact T.le (EnvLe.cons rfl (EnvLe.cons rfl EnvLe.nil)) (T.pick [] 3 rfl rfl nla rfl (J1 () () hr))
    ·replace hr := inv_negB hb1 hr
     refine T.leave .list (wantsNot rfl rfl rfl (not_f hb1)) rfl ?_
     refine T.leave .list (wantsNot rfl rfl rfl (not_f hb1)) rfl ?_
     refine T.pickT .list rfl (wants0 rfl) rfl rfl (not_f hb1) rfl ?_
     refine T.nil ?_
     refine T.then_normal ?_
     exact T.le (EnvLe.cons rfl (EnvLe.cons rfl EnvLe.nil)) (T.pick [] 3 rfl rfl nla rfl (J1 () () hr))
  ·dsimp only at hr
   refine T.pick [0, 1, 2] 3 rfl rfl nla (hs' := ck0 x2.1 r1p0.1 x2.2.1 x2.2.2.1 r1p0.2.2.length x2.2.2.2 :: Mp (Elt.slice E8) x2.2.1 r1p0.2.1 :: Bf (Elt.pair E64 (Elt.slice E8)) 174 x2.2.2.1 x2.2.2.2 r1p0.2.2 :: hs) rfl ?_
   refine T.call (v := fun (x5 : Nat × Nat × Nat × Nat × Nat × Nat) => .tuple #[.pointer (some ⟨x5.1, 0, none⟩), .int .i64 r2p1]) (hs' := fun x5 => ck0 x2.1 r1p0.1 x2.2.1 x2.2.2.1 r1p0.2.2.length x2.2.2.2 :: Mp (Elt.slice E8) x2.2.1 r1p0.2.1 :: Bf (Elt.pair E64 (Elt.slice E8)) 174 x2.2.2.1 x2.2.2.2 r1p0.2.2 :: ck4 x5.1 r2p0.1 x5.2.1 :: ck2 x5.2.1 r2p0.2.1 x5.2.2.1 x5.2.2.2.2.1 x5.2.2.2.2.2 :: ck1 x5.2.2.1 r2p0.2.2.1 x5.2.2.2.1 x2.1 :: Mp E64 x5.2.2.2.1 r2p0.2.2.2.1 :: Mp E64 x5.2.2.2.2.1 r2p0.2.2.2.2.1 :: Mp E64 x5.2.2.2.2.2 r2p0.2.2.2.2.2 :: hs) .list (wants0 rfl) rfl (run_callF (vs := [_]) rfl Tryd.func13 rfl (by decide) rfl) (fun w hS => local_Open.c hB hS (o0 := r1p0.1) (q0b := r1p0.2.1) (q0c := r1p0.2.2)  hg2) (fun x5 => ?_)
   refine T.move .list rfl (wants0 rfl) rfl rfl ?_
   refine T.extract .list rfl (wants0 rfl) rfl rfl rfl ?_
   refine T.extract .list rfl (wants0 rfl) rfl rfl rfl ?_
   refine T.assign .list rfl (wants0 rfl) rfl rfl ?_
   refine T.assign .list rfl (wants0 rfl) rfl rfl ?_
   refine T.nil ?_
   refine T.then_normal ?_
   refine T.seq ?_
   refine T.seqJ (fun (s2 : Bool) (x6 : Unit) => [(4, .pointer (some ⟨x5.1, 0, none⟩)), (23, .bool s2)]) (fun s2 x6 => ck4 x5.1 r2p0.1 x5.2.1 :: ck2 x5.2.1 r2p0.2.1 x5.2.2.1 x5.2.2.2.2.1 x5.2.2.2.2.2 :: ck1 x5.2.2.1 r2p0.2.2.1 x5.2.2.2.1 x2.1 :: Mp E64 x5.2.2.2.1 r2p0.2.2.2.1 :: ck0 x2.1 r1p0.1 x2.2.1 x2.2.2.1 r1p0.2.2.length x2.2.2.2 :: Mp (Elt.slice E8) x2.2.1 r1p0.2.1 :: Bf (Elt.pair E64 (Elt.slice E8)) 174 x2.2.2.1 x2.2.2.2 r1p0.2.2 :: Mp E64 x5.2.2.2.2.1 r2p0.2.2.2.2.1 :: Mp E64 x5.2.2.2.2.2 r2p0.2.2.2.2.2 :: hs) (fun s2 => law13_New.k2 r2p0 r1p0 s2 = some r) (fun s2 x6 hk2 => ?_) (fun J2 => ?_)
   ·unfold law13_New.k2 at hk2
    refine T.cond rfl (fun hb2 => ?_) (fun hb2 => ?_)
    ·replace hk2 := inv_posB hb2 hk2
     refine T.seq ?_
     refine T.region ?_
     refine T.assign .list rfl (wants0 rfl) rfl rfl ?_
     refine T.assign .list rfl (wants0 rfl) rfl rfl ?_
     refine T.nil ?_
     refine T.then_normal ?_
     refine T.ret ?_
     refine T.then_ret ?_
     obtain rfl := inv_some hk2
     refine T.pick [] 9 rfl rfl nla rfl ?_
     refine T.ret2 rfl rfl rfl (fun w hS => ⟨(0, 0, 0, 0, 0, 0, 0, (none, 0), 0, 0, (none, 0)), rfl, hS⟩)
    ·replace hk2 := inv_negB hb2 hk2
     refine T.skip ?_
     refine T.then_normal ?_
     refine T.seq ?_
     refine T.region ?_
     refine T.move .list rfl (wants0 rfl) rfl rfl ?_
     obtain ⟨r3, hg3, hk2⟩ := inv_bind hk2
     rcases r3 with ⟨_ | r3p0, r3p1⟩
     ·dsimp only at hk2
      refine T.pick [0, 1, 2, 3, 4, 5, 6, 7, 8] 9 rfl rfl nla (hs' := ck4 x5.1 r2p0.1 x5.2.1 :: ck2 x5.2.1 r2p0.2.1 x5.2.2.1 x5.2.2.2.2.1 x5.2.2.2.2.2 :: ck1 x5.2.2.1 r2p0.2.2.1 x5.2.2.2.1 x2.1 :: Mp E64 x5.2.2.2.1 r2p0.2.2.2.1 :: ck0 x2.1 r1p0.1 x2.2.1 x2.2.2.1 r1p0.2.2.length x2.2.2.2 :: Mp (Elt.slice E8) x2.2.1 r1p0.2.1 :: Bf (Elt.pair E64 (Elt.slice E8)) 174 x2.2.2.1 x2.2.2.2 r1p0.2.2 :: Mp E64 x5.2.2.2.2.1 r2p0.2.2.2.2.1 :: Mp E64 x5.2.2.2.2.2 r2p0.2.2.2.2.2 :: hs) rfl ?_
      refine T.call (v := fun (x7 : Nat × (Option Addr × Nat)) => .tuple #[.pointer none, .int .i64 r3p1]) (hs' := fun x7 => ck4 x5.1 r2p0.1 x5.2.1 :: ck2 x5.2.1 r2p0.2.1 x5.2.2.1 x5.2.2.2.2.1 x5.2.2.2.2.2 :: ck1 x5.2.2.1 r2p0.2.2.1 x5.2.2.2.1 x2.1 :: Mp E64 x5.2.2.2.1 r2p0.2.2.2.1 :: ck0 x2.1 r1p0.1 x2.2.1 x2.2.2.1 r1p0.2.2.length x2.2.2.2 :: Mp (Elt.slice E8) x2.2.1 r1p0.2.1 :: Bf (Elt.pair E64 (Elt.slice E8)) 174 x2.2.2.1 x2.2.2.2 r1p0.2.2 :: Mp E64 x5.2.2.2.2.1 r2p0.2.2.2.2.1 :: Mp E64 x5.2.2.2.2.2 r2p0.2.2.2.2.2 :: hs) .list (wants0 rfl) rfl (run_callF (vs := [_]) rfl Tryd.func14 rfl (by decide) rfl) (fun w hS => draft_New.c hB hS (o0 := r2p0.1) (o0a := r2p0.2.1) (o0aa := r2p0.2.2.1) (q0aab := r2p0.2.2.2.1) (o0aac := r1p0.1) (q0aacb := r1p0.2.1) (q0aacc := r1p0.2.2) (q0ah := r2p0.2.2.2.2.1) (q0ak := r2p0.2.2.2.2.2)  hg3) (fun x7 => ?_)
      refine T.move .list rfl (wants0 rfl) rfl rfl ?_
      refine T.extract .list rfl (wants0 rfl) rfl rfl rfl ?_
      refine T.extract .list rfl (wants0 rfl) rfl rfl rfl ?_
      refine T.assign .list rfl (wants0 rfl) rfl rfl ?_
      refine T.assign .list rfl (wants0 rfl) rfl rfl ?_
      refine T.nil ?_
      refine T.then_normal ?_
      refine T.seq ?_
      refine T.seq ?_
      refine T.region ?_
      refine T.move .list rfl (wants0 rfl) rfl rfl ?_
      refine T.bin .list rfl (wants0 rfl) rfl rfl rfl rfl ?_
      refine T.nil ?_
      refine T.then_normal ?_
      refine T.cond rfl (fun hb3 => ?_) (fun hb3 => ?_)
      ·replace hk2 := inv_posB hb3 hk2
       refine T.seq ?_
       refine T.region ?_
       refine T.assign .list rfl (wants0 rfl) rfl rfl ?_
       refine T.assign .list rfl (wants0 rfl) rfl rfl ?_
       refine T.nil ?_
       refine T.then_normal ?_
       refine T.ret ?_
       refine T.then_ret ?_
       obtain rfl := inv_some hk2
       refine T.pick [] 9 rfl rfl nla rfl ?_
       refine T.ret2 rfl rfl rfl (fun w hS => ⟨(0, 0, 0, 0, 0, 0, 0, (none, 0), 0, 0, (none, 0)), rfl, hS⟩)
      ·replace hk2 := inv_negB hb3 hk2
       cases hk2
     ·dsimp only at hk2
      refine T.pick [0, 1, 2, 3, 4, 5, 6, 7, 8] 9 rfl rfl nla (hs' := ck4 x5.1 r2p0.1 x5.2.1 :: ck2 x5.2.1 r2p0.2.1 x5.2.2.1 x5.2.2.2.2.1 x5.2.2.2.2.2 :: ck1 x5.2.2.1 r2p0.2.2.1 x5.2.2.2.1 x2.1 :: Mp E64 x5.2.2.2.1 r2p0.2.2.2.1 :: ck0 x2.1 r1p0.1 x2.2.1 x2.2.2.1 r1p0.2.2.length x2.2.2.2 :: Mp (Elt.slice E8) x2.2.1 r1p0.2.1 :: Bf (Elt.pair E64 (Elt.slice E8)) 174 x2.2.2.1 x2.2.2.2 r1p0.2.2 :: Mp E64 x5.2.2.2.2.1 r2p0.2.2.2.2.1 :: Mp E64 x5.2.2.2.2.2 r2p0.2.2.2.2.2 :: hs) rfl ?_
      refine T.call (v := fun (x8 : Nat × (Option Addr × Nat)) => .tuple #[.pointer (some ⟨x8.1, 0, none⟩), .int .i64 r3p1]) (hs' := fun x8 => ck4 x5.1 r2p0.1 x5.2.1 :: ck2 x5.2.1 r2p0.2.1 x5.2.2.1 x5.2.2.2.2.1 x5.2.2.2.2.2 :: ck1 x5.2.2.1 r2p0.2.2.1 x5.2.2.2.1 x2.1 :: Mp E64 x5.2.2.2.1 r2p0.2.2.2.1 :: ck0 x2.1 r1p0.1 x2.2.1 x2.2.2.1 r1p0.2.2.length x2.2.2.2 :: Mp (Elt.slice E8) x2.2.1 r1p0.2.1 :: Bf (Elt.pair E64 (Elt.slice E8)) 174 x2.2.2.1 x2.2.2.2 r1p0.2.2 :: Mp E64 x5.2.2.2.2.1 r2p0.2.2.2.2.1 :: Mp E64 x5.2.2.2.2.2 r2p0.2.2.2.2.2 :: Cl x8.1 84 [.pointer (some ⟨x5.1, 0, none⟩), .slice x8.2.1 r3p0.2.length x8.2.2] :: Bf (Elt.pair (Elt.pair E64 (Elt.pair (Elt.slice E8) (Elt.slice E8))) EBool) 88 x8.2.1 x8.2.2 r3p0.2 :: hs) .list (wants0 rfl) rfl (run_callF (vs := [_]) rfl Tryd.func14 rfl (by decide) rfl) (fun w hS => draft_New.c hB hS (o0 := r2p0.1) (o0a := r2p0.2.1) (o0aa := r2p0.2.2.1) (q0aab := r2p0.2.2.2.1) (o0aac := r1p0.1) (q0aacb := r1p0.2.1) (q0aacc := r1p0.2.2) (q0ah := r2p0.2.2.2.2.1) (q0ak := r2p0.2.2.2.2.2)  hg3) (fun x8 => ?_)
      refine T.move .list rfl (wants0 rfl) rfl rfl ?_
      refine T.extract .list rfl (wants0 rfl) rfl rfl rfl ?_
      refine T.extract .list rfl (wants0 rfl) rfl rfl rfl ?_
      refine T.assign .list rfl (wants0 rfl) rfl rfl ?_
      refine T.assign .list rfl (wants0 rfl) rfl rfl ?_
      refine T.nil ?_
      refine T.then_normal ?_
      refine T.seq ?_
      refine T.seq ?_
      refine T.region ?_
      refine T.move .list rfl (wants0 rfl) rfl rfl ?_
      refine T.bin .list rfl (wants0 rfl) rfl rfl rfl rfl ?_
      refine T.nil ?_
      refine T.then_normal ?_
      refine T.cond rfl (fun hb4 => ?_) (fun hb4 => ?_)
      ·replace hk2 := inv_posB hb4 hk2
       refine T.seq ?_
       refine T.region ?_
       refine T.assign .list rfl (wants0 rfl) rfl rfl ?_
       refine T.assign .list rfl (wants0 rfl) rfl rfl ?_
       refine T.nil ?_
       refine T.then_normal ?_
       refine T.ret ?_
       refine T.then_ret ?_
       obtain rfl := inv_some hk2
       refine T.pick [] 11 rfl rfl nla rfl ?_
       refine T.ret2 rfl rfl rfl (fun w hS => ⟨(0, 0, 0, 0, 0, 0, 0, (none, 0), 0, 0, (none, 0)), rfl, hS⟩)
      ·replace hk2 := inv_negB hb4 hk2
       refine T.skip ?_
       refine T.then_normal ?_
       refine T.seq ?_
       refine T.region ?_
       refine T.move .list rfl (wants0 rfl) rfl rfl ?_
       refine T.move .list rfl (wants0 rfl) rfl rfl ?_
       refine T.assign .list rfl (wants0 rfl) rfl rfl ?_
       refine T.assign .list rfl (wants0 rfl) rfl rfl ?_
       refine T.nil ?_
       refine T.then_normal ?_
       refine T.ret ?_
       obtain rfl := inv_some hk2
       refine T.pick [9, 0, 1, 2, 3, 4, 5, 6, 7, 8, 10] 11 rfl rfl nla rfl ?_
       refine T.ret2 rfl rfl rfl (fun w hS => ⟨(x8.1, x5.1, x5.2.1, x5.2.2.1, x5.2.2.2.1, x2.1, x2.2.1, x2.2.2, x5.2.2.2.2.1, x5.2.2.2.2.2, x8.2), rfl, hS⟩)
   ·refine T.region ?_
    refine T.move .list rfl (wants0 rfl) rfl rfl ?_
    refine T.bin .list rfl (wants0 rfl) rfl rfl rfl rfl ?_
    refine T.move .list rfl (wants0 rfl) rfl rfl ?_
    refine T.bool (b := (decide (r2p1 = 0))) (fun hb5 => ?_) (fun hb5 => ?_)
    ·replace hr := inv_posB hb5 hr
     refine T.move .list rfl (wants1 rfl rfl rfl (not_t hb5)) rfl rfl ?_
     refine T.ptrEq (pt := 74) .list rfl (wants1 rfl rfl rfl (not_t hb5)) rfl rfl rfl (by kernel_rfl) (.inr rfl) rfl ?_
     refine T.pickF .list rfl (wants0 rfl) rfl rfl (not_t hb5) rfl ?_
     refine T.nil ?_
     refine T.then_normal ?_
     exact T.le (EnvLe.cons rfl (EnvLe.cons rfl EnvLe.nil)) (T.pick [3, 4, 5, 6, 0, 1, 2, 7, 8] 9 rfl rfl nla rfl (J2 false () hr))
    ·replace hr := inv_negB hb5 hr
     refine T.leave .list (wantsNot rfl rfl rfl (not_f hb5)) rfl ?_
     refine T.leave .list (wantsNot rfl rfl rfl (not_f hb5)) rfl ?_
     refine T.pickT .list rfl (wants0 rfl) rfl rfl (not_f hb5) rfl ?_
     refine T.nil ?_
     refine T.then_normal ?_
     exact T.le (EnvLe.cons rfl (EnvLe.cons rfl EnvLe.nil)) (T.pick [3, 4, 5, 6, 0, 1, 2, 7, 8] 9 rfl rfl nla rfl (J2 true () hr))
end Go.Proofs.YtdojooblfemmnaaDoor
