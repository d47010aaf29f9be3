/- SchemaL: what the functions compute, and that the program computes it; printed by a program of ours. -/
import Derived.Test.YtdfbknkgmhddcaaDoorRefS
set_option linter.unusedVariables false
set_option linter.unusedSimpArgs false
namespace Go.Proofs.YtdfbknkgmhddcaaDoor
open Go.RowKit
noncomputable def law14_Little.impl  : Option (((List UInt8) × (List ((List UInt8) × Int × Int)) × (List (Int × Bool)))) :=
  some ([116], ([([107], 1, 0), ([110], 2, 3)] : List ((List UInt8) × Int × Int)), ([(1, true)] : List (Int × Bool)))
set_option maxRecDepth 100000 in
set_option maxHeartbeats 4000000 in
theorem law14_Little.c {B : World} {hs : List MP} {w : World} (hB : Base B) (hS : St B (hs) w) {r : ((List UInt8) × (List ((List UInt8) × Int × Int)) × (List (Int × Bool)))} (hr : law14_Little.impl  = some r) :
    Calls Tryd.prog 32 #[] w fun e w' => ∃ x : (Option Addr × Nat) × (Option Addr × Nat), e = .returned (.agg #[str r.1, .slice x.1.1 r.2.1.length x.1.2, .slice x.2.1 r.2.2.length x.2.2]) ∧ St B (Ro (Elt.pair EStr (Elt.pair E64 E64)) x.1.1 x.1.2 r.2.1 :: Ro (Elt.pair E64 EBool) x.2.1 x.2.2 r.2.2 :: hs) w' := by
 unfold law14_Little.impl at hr
 refine calls_T Tryd.func32 rfl rfl rfl hS ?_
 refine T.seq ?_
 refine T.region ?_
 refine T.allocS .list rfl (wants0 rfl) rfl (cs := [str (([] : List UInt8)), .slice none 0 0, .slice none 0 0]) rfl (fun b1 => ?_)
 refine T.nil ?_
 refine T.then_normal ?_
 refine T.seq ?_
 refine T.region ?_
 refine T.build .list (vals := [(0, str ([107])), (1, .int .i64 1)]) (cells := #[str ([107]), .int .i64 1, .int .i64 0]) rfl (wants0 rfl) rfl rfl (run_buildStruct (sizes := [1, 1, 1]) (by kernel_rfl) (by kernel_rfl)) ?_
 refine T.build .list (vals := [(0, str ([110])), (1, .int .i64 2), (2, .int .i64 3)]) (cells := #[str ([110]), .int .i64 2, .int .i64 3]) rfl (wants0 rfl) rfl rfl (run_buildStruct (sizes := [1, 1, 1]) (by kernel_rfl) (by kernel_rfl)) ?_
 refine T.lit (E := Elt.pair EStr (Elt.pair E64 E64)) .list (vals := [(0, .agg #[str ([107]), .int .i64 1, .int .i64 0]), (1, .agg #[str ([110]), .int .i64 2, .int .i64 3])]) (cells := #[str ([107]), .int .i64 1, .int .i64 0, str ([110]), .int .i64 2, .int .i64 3]) rfl (wants0 rfl) rfl rfl rfl rfl rfl (by kernel_rfl) ([([107], 1, 0), ([110], 2, 3)] : List ((List UInt8) × Int × Int)) rfl (fun _ _ _ _ ho => (Has.encs ho (Has.pair (Has.sc rfl) (Has.pair (Has.sc rfl) (Has.sc rfl) rfl) rfl) (Has.encs ho (Has.pair (Has.sc rfl) (Has.pair (Has.sc rfl) (Has.sc rfl) rfl) rfl) rfl rfl) rfl)) (fun b2 => ?_)
 refine T.build .list (vals := [(0, .int .i64 1), (1, .bool true)]) (cells := #[.int .i64 1, .bool true]) rfl (wants0 rfl) rfl rfl (run_buildStruct (sizes := [1, 1]) (by kernel_rfl) (by kernel_rfl)) ?_
 refine T.lit (E := Elt.pair E64 EBool) .list (vals := [(0, .agg #[.int .i64 1, .bool true])]) (cells := #[.int .i64 1, .bool true]) rfl (wants0 rfl) rfl rfl rfl rfl rfl (by kernel_rfl) ([(1, true)] : List (Int × Bool)) rfl (fun _ _ _ _ ho => (Has.encs ho (Has.pair (Has.sc rfl) (Has.sc rfl) rfl) rfl rfl)) (fun b3 => ?_)
 refine T.build .list (vals := [(0, str ([116])), (1, .slice (some ⟨b2, 0, none⟩) ((([([107], 1, 0), ([110], 2, 3)] : List ((List UInt8) × Int × Int))).length) 2), (2, .slice (some ⟨b3, 0, none⟩) ((([(1, true)] : List (Int × Bool))).length) 1)]) (cells := #[str ([116]), .slice (some ⟨b2, 0, none⟩) ((([([107], 1, 0), ([110], 2, 3)] : List ((List UInt8) × Int × Int))).length) 2, .slice (some ⟨b3, 0, none⟩) ((([(1, true)] : List (Int × Bool))).length) 1]) rfl (wants0 rfl) rfl rfl (run_buildStruct (sizes := [1, 1, 1]) (by kernel_rfl) (by kernel_rfl)) ?_
 refine T.store .list 2 rfl rfl (wants0 rfl) rfl rfl rfl rfl (Nat.le_of_ble_eq_true rfl) rfl (cs' := [str ([116]), .slice (some ⟨b2, 0, none⟩) ((([([107], 1, 0), ([110], 2, 3)] : List ((List UInt8) × Int × Int))).length) 2, .slice (some ⟨b3, 0, none⟩) ((([(1, true)] : List (Int × Bool))).length) 1]) rfl rfl ?_
 refine T.nil ?_
 refine T.then_normal ?_
 refine T.ret ?_
 obtain rfl := inv_some hr
 refine T.freeze 1 rfl rfl rfl ?_
 refine T.freeze 0 rfl rfl rfl ?_
 refine T.out1 rfl (OutRun.cellN 2 rfl rfl (vs := [str ([116]), .slice (some ⟨b2, 0, none⟩) ((([([107], 1, 0), ([110], 2, 3)] : List ((List UInt8) × Int × Int))).length) 2, .slice (some ⟨b3, 0, none⟩) ((([(1, true)] : List (Int × Bool))).length) 1]) rfl rfl) (fun w hS => ⟨((some ⟨b2, 0, none⟩, 2), (some ⟨b3, 0, none⟩, 1)), rfl, hS.pick [1, 0] 3 rfl rfl (Nat.le_add_left _ _) rfl⟩)

noncomputable def law14_Row.impl (a0 : Int) (l1 : List UInt8) : Option ((List (Int × Int × (List UInt8)))) :=
  some ([(1, a0, ([] : List UInt8)), (2, 0, l1)] : List (Int × Int × (List UInt8)))
set_option maxRecDepth 100000 in
set_option maxHeartbeats 4000000 in
theorem law14_Row.c {B : World} {hs : List MP} {w : World} {a0 : Int} {l1 : List UInt8} (hB : Base B) (hS : St B (hs) w) {r : (List (Int × Int × (List UInt8)))} (hr : law14_Row.impl a0 l1 = some r) :
    Calls Tryd.prog 33 #[.int .i64 a0, str l1] w fun e w' => ∃ x : (Option Addr × Nat), e = .returned (.slice x.1 r.length x.2) ∧ St B (Bf (Elt.pair E64 (Elt.pair E64 EStr)) 39 x.1 x.2 r :: hs) w' := by
 unfold law14_Row.impl at hr
 refine calls_T Tryd.func33 rfl rfl rfl hS ?_
 refine T.seq ?_
 refine T.region ?_
 refine T.assign .list rfl (wants0 rfl) rfl rfl ?_
 refine T.nil ?_
 refine T.then_normal ?_
 refine T.seq ?_
 refine T.region ?_
 refine T.move .list rfl (wants0 rfl) rfl rfl ?_
 refine T.build .list (vals := [(0, .int .i64 1), (1, .int .i64 a0)]) (cells := #[.int .i64 1, .int .i64 a0, str (([] : List UInt8))]) rfl (wants0 rfl) rfl rfl (run_buildStruct (sizes := [1, 1, 1]) (by kernel_rfl) (by kernel_rfl)) ?_
 refine T.move .list rfl (wants0 rfl) rfl rfl ?_
 refine T.build .list (vals := [(0, .int .i64 2), (2, str l1)]) (cells := #[.int .i64 2, .int .i64 0, str l1]) rfl (wants0 rfl) rfl rfl (run_buildStruct (sizes := [1, 1, 1]) (by kernel_rfl) (by kernel_rfl)) ?_
 refine T.lit (E := Elt.pair E64 (Elt.pair E64 EStr)) .list (vals := [(0, .agg #[.int .i64 1, .int .i64 a0, str (([] : List UInt8))]), (1, .agg #[.int .i64 2, .int .i64 0, str l1])]) (cells := #[.int .i64 1, .int .i64 a0, str (([] : List UInt8)), .int .i64 2, .int .i64 0, str l1]) rfl (wants0 rfl) rfl rfl rfl rfl rfl (by kernel_rfl) ([(1, a0, ([] : List UInt8)), (2, 0, l1)] : List (Int × Int × (List UInt8))) rfl (fun _ _ _ _ ho => (Has.encs ho (Has.pair (Has.sc rfl) (Has.pair (Has.sc rfl) (Has.sc rfl) rfl) rfl) (Has.encs ho (Has.pair (Has.sc rfl) (Has.pair (Has.sc rfl) (Has.sc rfl) rfl) rfl) rfl rfl) rfl)) (fun b1 => ?_)
 refine T.assign .list rfl (wants0 rfl) rfl rfl ?_
 refine T.nil ?_
 refine T.then_normal ?_
 refine T.ret ?_
 obtain rfl := inv_some hr
 refine T.pick [0] 1 rfl rfl (Nat.le_add_left _ _) rfl ?_
 refine T.ret1 rfl rfl (fun w hS => ⟨(some ⟨b1, 0, none⟩, 2), rfl, hS⟩)

noncomputable def law14_copied.impl (a0 : (List UInt8) × (List ((List UInt8) × Int × Int)) × (List (Int × Bool))) : Option (((List UInt8) × (List ((List UInt8) × Int × Int)) × (List (Int × Bool)))) :=
  chk (0 ≤ (min ((a0.2.1.length : Int)) 5) ∧ (min ((a0.2.1.length : Int)) 5) ≤ (a0.2.1.length : Int)) (chk (((([] : List ((List UInt8) × Int × Int))).length + (subl a0.2.1 0 (min ((a0.2.1.length : Int)) 5)).length) * 32 ≤ 140737488355328) (chk (0 ≤ (min ((a0.2.2.length : Int)) 5) ∧ (min ((a0.2.2.length : Int)) 5) ≤ (a0.2.2.length : Int)) (chk (((([] : List (Int × Bool))).length + (subl a0.2.2 0 (min ((a0.2.2.length : Int)) 5)).length) * 16 ≤ 140737488355328) (some (a0.1, ((([] : List ((List UInt8) × Int × Int))) ++ (subl a0.2.1 0 (min ((a0.2.1.length : Int)) 5))), ((([] : List (Int × Bool))) ++ (subl a0.2.2 0 (min ((a0.2.2.length : Int)) 5))))))))
set_option maxRecDepth 100000 in
set_option maxHeartbeats 4000000 in
theorem law14_copied.c {B : World} {hs : List MP} {w : World} {a0 : (List UInt8) × (List ((List UInt8) × Int × Int)) × (List (Int × Bool))} {i0a c0a : Nat} {A0a : Option Addr} {i0b c0b : Nat} {A0b : Option Addr} (hB : Base B) (hS : St B (hs) w) (h0a : (hs)[i0a]? = some (Ro (Elt.pair EStr (Elt.pair E64 E64)) A0a c0a a0.2.1)) (h0b : (hs)[i0b]? = some (Ro (Elt.pair E64 EBool) A0b c0b a0.2.2)) {r : ((List UInt8) × (List ((List UInt8) × Int × Int)) × (List (Int × Bool)))} (hr : law14_copied.impl a0 = some r) :
    Calls Tryd.prog 6 #[.agg #[str a0.1, .slice A0a a0.2.1.length c0a, .slice A0b a0.2.2.length c0b]] w fun e w' => ∃ x : (Option Addr × Nat) × (Option Addr × Nat), e = .returned (.agg #[str r.1, .slice x.1.1 r.2.1.length x.1.2, .slice x.2.1 r.2.2.length x.2.2]) ∧ St B (Ro (Elt.pair EStr (Elt.pair E64 E64)) x.1.1 x.1.2 r.2.1 :: Ro (Elt.pair E64 EBool) x.2.1 x.2.2 r.2.2 :: hs) w' := by
 unfold law14_copied.impl at hr
 refine calls_T Tryd.func6 rfl rfl rfl hS ?_
 refine T.front i0a h0a ?_
 refine T.front (i0b + 1) h0b ?_
 refine T.seq ?_
 refine T.region ?_
 refine T.boxS .list rfl (wants0 rfl) rfl rfl (cs := [str a0.1, .slice A0a a0.2.1.length c0a, .slice A0b a0.2.2.length c0b]) rfl (fun b1 => ?_)
 refine T.allocS .list rfl (wants0 rfl) rfl (cs := [str (([] : List UInt8)), .slice none 0 0, .slice none 0 0]) rfl (fun b2 => ?_)
 refine T.nil ?_
 refine T.then_normal ?_
 refine T.seq ?_
 refine T.region ?_
 refine T.assign .list rfl (wants0 rfl) rfl rfl ?_
 refine T.nil ?_
 refine T.then_normal ?_
 refine T.seq ?_
 refine T.region ?_
 refine T.assign .list rfl (wants0 rfl) rfl rfl ?_
 refine T.nil ?_
 refine T.then_normal ?_
 refine T.seq ?_
 refine T.region ?_
 refine T.move .list rfl (wants0 rfl) rfl rfl ?_
 refine T.field .list rfl (wants0 rfl) rfl rfl ?_
 refine T.load .list 1 rfl rfl (wants0 rfl) rfl rfl rfl ?_
 refine T.field .list rfl (wants0 rfl) rfl rfl ?_
 refine T.load .list 1 rfl rfl (wants0 rfl) rfl rfl rfl ?_
 refine T.lenSlice .list rfl (wants0 rfl) rfl rfl ?_
 refine T.min2 .list rfl (wants0 rfl) rfl rfl rfl ?_
 obtain ⟨hc1, hr⟩ := inv_chk hr
 refine T.cut0 .list 3 rfl rfl rfl (wants0 rfl) rfl rfl (.inl rfl) (.inr ⟨_, _, rfl, rfl⟩) hc1.1 hc1.2 ?_
 refine T.nilBf (Elt.pair EStr (Elt.pair E64 E64)) 54 ?_
 obtain ⟨hc2, hr⟩ := inv_chk hr
 refine T.appRo .list 0 1 rfl rfl rfl rfl rfl (wants0 rfl) rfl rfl rfl rfl rfl rfl hc2 (fun _ _ => rfl) (fun A2 c2 => ?_)
 refine T.field .list rfl (wants0 rfl) rfl rfl ?_
 refine T.store .list 3 rfl rfl (wants0 rfl) rfl rfl rfl rfl (Nat.le_of_ble_eq_true rfl) rfl (cs' := [str a0.1, .slice A2 ((((([] : List ((List UInt8) × Int × Int))) ++ (subl a0.2.1 0 (min ((a0.2.1.length : Int)) 5)))).length) c2, .slice A0b a0.2.2.length c0b]) rfl rfl ?_
 refine T.nil ?_
 refine T.then_normal ?_
 refine T.seq ?_
 refine T.region ?_
 refine T.move .list rfl (wants0 rfl) rfl rfl ?_
 refine T.field .list rfl (wants0 rfl) rfl rfl ?_
 refine T.load .list 3 rfl rfl (wants0 rfl) rfl rfl rfl ?_
 refine T.field .list rfl (wants0 rfl) rfl rfl ?_
 refine T.load .list 3 rfl rfl (wants0 rfl) rfl rfl rfl ?_
 refine T.lenSlice .list rfl (wants0 rfl) rfl rfl ?_
 refine T.min2 .list rfl (wants0 rfl) rfl rfl rfl ?_
 obtain ⟨hc3, hr⟩ := inv_chk hr
 refine T.cut0 .list 4 rfl rfl rfl (wants0 rfl) rfl rfl (.inl rfl) (.inr ⟨_, _, rfl, rfl⟩) hc3.1 hc3.2 ?_
 refine T.nilBf (Elt.pair E64 EBool) 58 ?_
 obtain ⟨hc4, hr⟩ := inv_chk hr
 refine T.appRo .list 0 1 rfl rfl rfl rfl rfl (wants0 rfl) rfl rfl rfl rfl rfl rfl hc4 (fun _ _ => rfl) (fun A3 c3 => ?_)
 refine T.field .list rfl (wants0 rfl) rfl rfl ?_
 refine T.store .list 5 rfl rfl (wants0 rfl) rfl rfl rfl rfl (Nat.le_of_ble_eq_true rfl) rfl (cs' := [str a0.1, .slice A2 ((((([] : List ((List UInt8) × Int × Int))) ++ (subl a0.2.1 0 (min ((a0.2.1.length : Int)) 5)))).length) c2, .slice A3 ((((([] : List (Int × Bool))) ++ (subl a0.2.2 0 (min ((a0.2.2.length : Int)) 5)))).length) c3]) rfl rfl ?_
 refine T.nil ?_
 refine T.then_normal ?_
 refine T.seq ?_
 refine T.region ?_
 refine T.loadN .list 5 rfl rfl (wants0 rfl) rfl rfl (vs := [str a0.1, .slice A2 ((((([] : List ((List UInt8) × Int × Int))) ++ (subl a0.2.1 0 (min ((a0.2.1.length : Int)) 5)))).length) c2, .slice A3 ((((([] : List (Int × Bool))) ++ (subl a0.2.2 0 (min ((a0.2.2.length : Int)) 5)))).length) c3]) rfl rfl ?_
 refine T.store .list 4 rfl rfl (wants0 rfl) rfl rfl rfl rfl (Nat.le_of_ble_eq_true rfl) rfl (cs' := [str a0.1, .slice A2 ((((([] : List ((List UInt8) × Int × Int))) ++ (subl a0.2.1 0 (min ((a0.2.1.length : Int)) 5)))).length) c2, .slice A3 ((((([] : List (Int × Bool))) ++ (subl a0.2.2 0 (min ((a0.2.2.length : Int)) 5)))).length) c3]) rfl rfl ?_
 refine T.nil ?_
 refine T.then_normal ?_
 refine T.ret ?_
 obtain rfl := inv_some hr
 refine T.freeze 2 rfl rfl rfl ?_
 refine T.freeze 0 rfl rfl rfl ?_
 refine T.out1 rfl (OutRun.cellN 4 rfl rfl (vs := [str a0.1, .slice A2 ((((([] : List ((List UInt8) × Int × Int))) ++ (subl a0.2.1 0 (min ((a0.2.1.length : Int)) 5)))).length) c2, .slice A3 ((((([] : List (Int × Bool))) ++ (subl a0.2.2 0 (min ((a0.2.2.length : Int)) 5)))).length) c3]) rfl rfl) (fun w hS => ⟨((A2, c2), (A3, c3)), rfl, hS.pick [2, 0] 8 rfl rfl (Nat.le_add_left _ _) rfl⟩)

noncomputable def law14_few.impl (l0 : List (Int × Int × (List UInt8))) : Option ((List (Int × Int × (List UInt8)))) :=
  chk (0 ≤ (min ((l0.length : Int)) 5) ∧ (min ((l0.length : Int)) 5) ≤ (l0.length : Int)) (chk (((([] : List (Int × Int × (List UInt8)))).length + (subl l0 0 (min ((l0.length : Int)) 5)).length) * 32 ≤ 140737488355328) (some ((([] : List (Int × Int × (List UInt8)))) ++ (subl l0 0 (min ((l0.length : Int)) 5)))))
set_option maxRecDepth 100000 in
set_option maxHeartbeats 4000000 in
theorem law14_few.c {B : World} {hs : List MP} {w : World} {i0 c0 : Nat} {A0 : Option Addr} {l0 : List (Int × Int × (List UInt8))} (hB : Base B) (hS : St B (hs) w) (h0 : (hs)[i0]? = some (Ro (Elt.pair E64 (Elt.pair E64 EStr)) A0 c0 l0)) {r : (List (Int × Int × (List UInt8)))} (hr : law14_few.impl l0 = some r) :
    Calls Tryd.prog 7 #[.slice A0 l0.length c0] w fun e w' => ∃ x : (Option Addr × Nat), e = .returned (.slice x.1 r.length x.2) ∧ St B (Bf (Elt.pair E64 (Elt.pair E64 EStr)) 39 x.1 x.2 r :: hs) w' := by
 unfold law14_few.impl at hr
 refine calls_T Tryd.func7 rfl rfl rfl hS ?_
 refine T.front i0 h0 ?_
 refine T.seq ?_
 refine T.region ?_
 refine T.assign .list rfl (wants0 rfl) rfl rfl ?_
 refine T.nil ?_
 refine T.then_normal ?_
 refine T.seq ?_
 refine T.region ?_
 refine T.assign .list rfl (wants0 rfl) rfl rfl ?_
 refine T.nil ?_
 refine T.then_normal ?_
 refine T.seq ?_
 refine T.region ?_
 refine T.move .list rfl (wants0 rfl) rfl rfl ?_
 refine T.move .list rfl (wants0 rfl) rfl rfl ?_
 refine T.move .list rfl (wants0 rfl) rfl rfl ?_
 refine T.lenSlice .list rfl (wants0 rfl) rfl rfl ?_
 refine T.min2 .list rfl (wants0 rfl) rfl rfl rfl ?_
 obtain ⟨hc1, hr⟩ := inv_chk hr
 refine T.cut0 .list 0 rfl rfl rfl (wants0 rfl) rfl rfl (.inl rfl) (.inr ⟨_, _, rfl, rfl⟩) hc1.1 hc1.2 ?_
 refine T.nilBf (Elt.pair E64 (Elt.pair E64 EStr)) 39 ?_
 obtain ⟨hc2, hr⟩ := inv_chk hr
 refine T.appRo .list 0 1 rfl rfl rfl rfl rfl (wants0 rfl) rfl rfl rfl rfl rfl rfl hc2 (fun _ _ => rfl) (fun A2 c2 => ?_)
 refine T.assign .list rfl (wants0 rfl) rfl rfl ?_
 refine T.nil ?_
 refine T.then_normal ?_
 refine T.ret ?_
 obtain rfl := inv_some hr
 refine T.pick [0] 3 rfl rfl (Nat.le_add_left _ _) rfl ?_
 refine T.ret1 rfl rfl (fun w hS => ⟨(A2, c2), rfl, hS⟩)

noncomputable def law14_told.impl  : Option Bool :=
  (law14_Little.impl ).bind fun r1 => (schema_Encode.impl r1).bind fun r2 => (schema_Decode.impl r2.1).bind fun r3 => (law14_Little.impl ).bind fun r4 => (schema_Right.impl r4).bind fun r5 => (if ((decide (r5 = 0))) = true then (law14_Little.impl ).bind fun r6 => (law14_Row.impl 1 ([195, 164, 195, 182, 195, 188])).bind fun r7 => (schema_Fits.impl r6 r7).bind fun r8 => (if ((decide (r8 = 0))) = true then (law14_Little.impl ).bind fun r9 => (law14_Row.impl 1 ([97, 98, 99, 100])).bind fun r10 => (schema_Fits.impl r9 r10).bind fun r11 => (if ((decide (r11 = 62))) = true then (if ((decide (r2.2 = 0))) = true then (if ((decide (r3.2 = 0))) = true then (if ((decide ((0 : Int) < ((r2.1.length : Int))))) = true then (law14_Little.impl ).bind fun r12 => (schema_Same.impl ((r3.1.1, r3.1.2.1, r3.1.2.2)) r12).bind fun r13 => (if r13 = true then (schema_Name.impl ([116])).bind fun r14 => (if r14 = true then (schema_Name.impl ([84])).bind fun r15 => (if r15 = true then some false else (schema_Right.impl ((([] : List UInt8), ([] : List ((List UInt8) × Int × Int)), ([] : List (Int × Bool))))).bind fun r16 => some (decide (r16 = 61))) else some false) else some false) else some false) else some false) else some false) else some false) else some false) else some false)
set_option maxRecDepth 100000 in
set_option maxHeartbeats 4000000 in
theorem law14_told.c {B : World} {hs : List MP} {w : World} (hB : Base B) (hS : St B (hs) w) {r : Bool} (hr : law14_told.impl  = some r) :
    Calls Tryd.prog 10 #[] w fun e w' => ∃ x : Unit, e = .returned (.bool r) ∧ St B (hs) w' := by
 unfold law14_told.impl at hr
 refine calls_T Tryd.func10 rfl rfl rfl hS ?_
 refine T.seq ?_
 refine T.region ?_
 refine T.assign .list rfl (wants0 rfl) rfl rfl ?_
 refine T.nil ?_
 refine T.then_normal ?_
 refine T.seq ?_
 refine T.region ?_
 obtain ⟨r1, hg1, hr⟩ := inv_bind hr
 refine T.call .list (wants0 rfl) rfl (run_callF (vs := []) rfl Tryd.func32 rfl (by decide) rfl) (fun w hS => law14_Little.c hB hS  hg1) (fun x1 => ?_)
 obtain ⟨r2, hg2, hr⟩ := inv_bind hr
 refine T.call .list (wants0 rfl) rfl (run_callF (vs := [_]) rfl Tryd.func19 rfl (by decide) rfl) (fun w hS => schema_Encode.c hB hS (i0a := 0) (i0b := 1) (a0 := r1) rfl rfl hg2) (fun x2 => ?_)
 refine T.move .list rfl (wants0 rfl) rfl rfl ?_
 refine T.extract .list rfl (wants0 rfl) rfl rfl rfl ?_
 refine T.extract .list rfl (wants0 rfl) rfl rfl rfl ?_
 refine T.assign .list rfl (wants0 rfl) rfl rfl ?_
 refine T.assign .list rfl (wants0 rfl) rfl rfl ?_
 refine T.nil ?_
 refine T.then_normal ?_
 refine T.seq ?_
 refine T.region ?_
 refine T.move .list rfl (wants0 rfl) rfl rfl ?_
 refine T.freeze 0 rfl rfl rfl ?_
 obtain ⟨r3, hg3, hr⟩ := inv_bind hr
 refine T.call .list (wants0 rfl) rfl (run_callF (vs := [_]) rfl Tryd.func24 rfl (by decide) rfl) (fun w hS => schema_Decode.c hB hS (i0 := 0) rfl hg3) (fun x3 => ?_)
 refine T.move .list rfl (wants0 rfl) rfl rfl ?_
 refine T.extract .list rfl (wants0 rfl) rfl rfl rfl ?_
 refine T.extract .list rfl (wants0 rfl) rfl rfl rfl ?_
 refine T.allocS .list rfl (wants0 rfl) rfl (cs := [str (([] : List UInt8)), .slice none 0 0, .slice none 0 0]) rfl (fun b1 => ?_)
 refine T.store .list 0 rfl rfl (wants0 rfl) rfl rfl rfl rfl (Nat.le_of_ble_eq_true rfl) rfl (cs' := [str r3.1.1, .slice x3.1.1 r3.1.2.1.length x3.1.2, .slice x3.2.1 r3.1.2.2.length x3.2.2]) rfl rfl ?_
 refine T.assign .list rfl (wants0 rfl) rfl rfl ?_
 refine T.nil ?_
 refine T.then_normal ?_
 refine T.seq ?_
 refine T.dStart mixed ?_
 obtain ⟨r4, hg4, hr⟩ := inv_bind hr
 refine T.dOnly (i := 0) (by kernel_rfl) ?_
 refine T.call (.dOne rfl (by kernel_rfl)) (wants0 rfl) rfl (run_callF (vs := []) rfl Tryd.func32 rfl (by decide) rfl) (fun w hS => law14_Little.c hB hS  hg4) (fun x4 => ?_)
 refine T.dNext phi_nil ?_
 obtain ⟨r5, hg5, hr⟩ := inv_bind hr
 refine T.dOnly (i := 1) (by kernel_rfl) ?_
 refine T.call (.dOne rfl (by kernel_rfl)) (wants0 rfl) rfl (run_callF (vs := [_]) rfl Tryd.func8 rfl (by decide) rfl) (fun w hS => schema_Right.c hB hS (i0a := 0) (i0b := 1) (a0 := r4) rfl rfl hg5) (fun x5 => ?_)
 refine T.dNext phi_nil ?_
 refine T.bin (.dPure (i := 2) rfl (by kernel_rfl) (fun d _ _ _ _ h => by cases d <;> exact h)) rfl (wants0 rfl) rfl rfl rfl rfl ?_
 refine T.move (.dPure (i := 3) rfl (by kernel_rfl) (fun d _ _ _ _ h => by cases d <;> exact h)) rfl (wants0 rfl) rfl rfl ?_
 refine T.bool (b := (decide (r5 = 0))) (fun hb1 => ?_) (fun hb1 => ?_)
 ·replace hr := inv_posB hb1 hr
  obtain ⟨r6, hg6, hr⟩ := inv_bind hr
  refine T.dOnly (i := 4) (by kernel_rfl) ?_
  refine T.call (.dOne rfl (by kernel_rfl)) (wants1 rfl rfl rfl hb1) rfl (run_callF (vs := []) rfl Tryd.func32 rfl (by decide) rfl) (fun w hS => law14_Little.c hB hS  hg6) (fun x6 => ?_)
  refine T.dNext phi_nil ?_
  obtain ⟨r7, hg7, hr⟩ := inv_bind hr
  refine T.dOnly (i := 5) (by kernel_rfl) ?_
  refine T.call (.dOne rfl (by kernel_rfl)) (wants1 rfl rfl rfl hb1) rfl (run_callF (vs := [_, _]) rfl Tryd.func33 rfl (by decide) rfl) (fun w hS => law14_Row.c hB hS  hg7) (fun x7 => ?_)
  refine T.dNext phi_nil ?_
  obtain ⟨r8, hg8, hr⟩ := inv_bind hr
  refine T.dOnly (i := 6) (by kernel_rfl) ?_
  refine T.call (.dOne rfl (by kernel_rfl)) (wants1 rfl rfl rfl hb1) rfl (run_callF (vs := [_, _]) rfl Tryd.func12 rfl (by decide) rfl) (fun w hS => (schema_Fits.c (hB.up hS) (St.borrow (ros := [Ro (Elt.pair EStr (Elt.pair E64 E64)) x6.1.1 x6.1.2 r6.2.1, Ro (Elt.pair E64 EBool) x6.2.1 x6.2.2 r6.2.2, Ro (Elt.pair E64 (Elt.pair E64 EStr)) x7.1 x7.2 r7]) (Ros.cons (hS.roRo 1 rfl) (Ros.cons (hS.roRo 2 rfl) (Ros.cons (hS.roBf 0 rfl rfl) Ros.nil)))) (i0a := 0) (i0b := 1) (i1 := 2) (a0 := r6) rfl rfl rfl hg8).mono fun e w' ⟨x, he, h1⟩ => ⟨x, he, hS.unborrow (post := []) h1 Frees.nil⟩) (fun x8 => ?_)
  refine T.dNext phi_nil ?_
  refine T.bin (.dPure (i := 7) rfl (by kernel_rfl) (fun d _ _ _ _ h => by cases d <;> exact h)) rfl (wants1 rfl rfl rfl hb1) rfl rfl rfl rfl ?_
  refine T.pickT (.dPure (i := 8) rfl (by kernel_rfl) (fun d _ _ _ _ h => by cases d <;> exact h)) rfl (wants0 rfl) rfl rfl hb1 rfl ?_
  refine T.move (.dPure (i := 9) rfl (by kernel_rfl) (fun d _ _ _ _ h => by cases d <;> exact h)) rfl (wants0 rfl) rfl rfl ?_
  refine T.bool (b := (decide (r8 = 0))) (fun hb2 => ?_) (fun hb2 => ?_)
  ·replace hr := inv_posB hb2 hr
   obtain ⟨r9, hg9, hr⟩ := inv_bind hr
   refine T.dOnly (i := 10) (by kernel_rfl) ?_
   refine T.call (.dOne rfl (by kernel_rfl)) (wants1 rfl rfl rfl hb2) rfl (run_callF (vs := []) rfl Tryd.func32 rfl (by decide) rfl) (fun w hS => law14_Little.c hB hS  hg9) (fun x9 => ?_)
   refine T.dNext phi_nil ?_
   obtain ⟨r10, hg10, hr⟩ := inv_bind hr
   refine T.dOnly (i := 11) (by kernel_rfl) ?_
   refine T.call (.dOne rfl (by kernel_rfl)) (wants1 rfl rfl rfl hb2) rfl (run_callF (vs := [_, _]) rfl Tryd.func33 rfl (by decide) rfl) (fun w hS => law14_Row.c hB hS  hg10) (fun x10 => ?_)
   refine T.dNext phi_nil ?_
   obtain ⟨r11, hg11, hr⟩ := inv_bind hr
   refine T.dOnly (i := 12) (by kernel_rfl) ?_
   refine T.call (.dOne rfl (by kernel_rfl)) (wants1 rfl rfl rfl hb2) rfl (run_callF (vs := [_, _]) rfl Tryd.func12 rfl (by decide) rfl) (fun w hS => (schema_Fits.c (hB.up hS) (St.borrow (ros := [Ro (Elt.pair EStr (Elt.pair E64 E64)) x9.1.1 x9.1.2 r9.2.1, Ro (Elt.pair E64 EBool) x9.2.1 x9.2.2 r9.2.2, Ro (Elt.pair E64 (Elt.pair E64 EStr)) x10.1 x10.2 r10]) (Ros.cons (hS.roRo 1 rfl) (Ros.cons (hS.roRo 2 rfl) (Ros.cons (hS.roBf 0 rfl rfl) Ros.nil)))) (i0a := 0) (i0b := 1) (i1 := 2) (a0 := r9) rfl rfl rfl hg11).mono fun e w' ⟨x, he, h1⟩ => ⟨x, he, hS.unborrow (post := []) h1 Frees.nil⟩) (fun x11 => ?_)
   refine T.dNext phi_nil ?_
   refine T.bin (.dPure (i := 13) rfl (by kernel_rfl) (fun d _ _ _ _ h => by cases d <;> exact h)) rfl (wants1 rfl rfl rfl hb2) rfl rfl rfl rfl ?_
   refine T.pickT (.dPure (i := 14) rfl (by kernel_rfl) (fun d _ _ _ _ h => by cases d <;> exact h)) rfl (wants0 rfl) rfl rfl hb2 rfl ?_
   refine T.move (.dPure (i := 15) rfl (by kernel_rfl) (fun d _ _ _ _ h => by cases d <;> exact h)) rfl (wants0 rfl) rfl rfl ?_
   refine T.bool (b := (decide (r11 = 62))) (fun hb3 => ?_) (fun hb3 => ?_)
   ·replace hr := inv_posB hb3 hr
    refine T.move (.dPure (i := 16) rfl (by kernel_rfl) (fun d _ _ _ _ h => by cases d <;> exact h)) rfl (wants1 rfl rfl rfl hb3) rfl rfl ?_
    refine T.bin (.dPure (i := 17) rfl (by kernel_rfl) (fun d _ _ _ _ h => by cases d <;> exact h)) rfl (wants1 rfl rfl rfl hb3) rfl rfl rfl rfl ?_
    refine T.pickT (.dPure (i := 18) rfl (by kernel_rfl) (fun d _ _ _ _ h => by cases d <;> exact h)) rfl (wants0 rfl) rfl rfl hb3 rfl ?_
    refine T.move (.dPure (i := 19) rfl (by kernel_rfl) (fun d _ _ _ _ h => by cases d <;> exact h)) rfl (wants0 rfl) rfl rfl ?_
    refine T.bool (b := (decide (r2.2 = 0))) (fun hb4 => ?_) (fun hb4 => ?_)
    ·replace hr := inv_posB hb4 hr
     refine T.move (.dPure (i := 20) rfl (by kernel_rfl) (fun d _ _ _ _ h => by cases d <;> exact h)) rfl (wants1 rfl rfl rfl hb4) rfl rfl ?_
     refine T.bin (.dPure (i := 21) rfl (by kernel_rfl) (fun d _ _ _ _ h => by cases d <;> exact h)) rfl (wants1 rfl rfl rfl hb4) rfl rfl rfl rfl ?_
     refine T.pickT (.dPure (i := 22) rfl (by kernel_rfl) (fun d _ _ _ _ h => by cases d <;> exact h)) rfl (wants0 rfl) rfl rfl hb4 rfl ?_
     refine T.move (.dPure (i := 23) rfl (by kernel_rfl) (fun d _ _ _ _ h => by cases d <;> exact h)) rfl (wants0 rfl) rfl rfl ?_
     refine T.bool (b := (decide (r3.2 = 0))) (fun hb5 => ?_) (fun hb5 => ?_)
     ·replace hr := inv_posB hb5 hr
      refine T.move (.dPure (i := 24) rfl (by kernel_rfl) (fun d _ _ _ _ h => by cases d <;> exact h)) rfl (wants1 rfl rfl rfl hb5) rfl rfl ?_
      refine T.lenSlice (.dPure (i := 25) rfl (by kernel_rfl) (fun d _ _ _ _ h => by cases d <;> exact h)) rfl (wants1 rfl rfl rfl hb5) rfl rfl ?_
      refine T.bin (.dPure (i := 26) rfl (by kernel_rfl) (fun d _ _ _ _ h => by cases d <;> exact h)) rfl (wants1 rfl rfl rfl hb5) rfl rfl rfl rfl ?_
      refine T.pickT (.dPure (i := 27) rfl (by kernel_rfl) (fun d _ _ _ _ h => by cases d <;> exact h)) rfl (wants0 rfl) rfl rfl hb5 rfl ?_
      refine T.move (.dPure (i := 28) rfl (by kernel_rfl) (fun d _ _ _ _ h => by cases d <;> exact h)) rfl (wants0 rfl) rfl rfl ?_
      refine T.bool (b := (decide ((0 : Int) < ((r2.1.length : Int))))) (fun hb6 => ?_) (fun hb6 => ?_)
      ·replace hr := inv_posB hb6 hr
       refine T.dAdd 46 (fun w => w.heap[b1]? = some (.cells [str r3.1.1, .slice x3.1.1 r3.1.2.1.length x3.1.2, .slice x3.2.1 r3.1.2.2.length x3.2.2].toArray 25 (0, 0))) (Cl.stays 8 rfl) ?_
       refine T.valS 0 (i := 29) (.agg #[str r3.1.1, .slice x3.1.1 r3.1.2.1.length x3.1.2, .slice x3.2.1 r3.1.2.2.length x3.2.2]) rfl rfl (by kernel_rfl) (by kernel_rfl) (fun d _ _ _ _ h => by cases d <;> exact h) (wants1 rfl rfl rfl hb6) rfl (run_ldClN rfl rfl (vs := [str r3.1.1, .slice x3.1.1 r3.1.2.1.length x3.1.2, .slice x3.2.1 r3.1.2.2.length x3.2.2]) rfl rfl) ?_
       obtain ⟨r12, hg12, hr⟩ := inv_bind hr
       refine T.dOnly (i := 30) (by kernel_rfl) ?_
       refine T.call (.dOne rfl (by kernel_rfl)) (wants1 rfl rfl rfl hb6) rfl (run_callF (vs := []) rfl Tryd.func32 rfl (by decide) rfl) (fun w hS => law14_Little.c hB hS  hg12) (fun x12 => ?_)
       refine T.dNext (phi_cons (.inr (Cl.stays 10 rfl)) phi_nil) ?_
       obtain ⟨r13, hg13, hr⟩ := inv_bind hr
       refine T.dOnly (i := 31) (by kernel_rfl) ?_
       refine T.call (.dOne rfl (by kernel_rfl)) (wants1 rfl rfl rfl hb6) rfl (run_callF (vs := [_, _]) rfl Tryd.func21 rfl (by decide) rfl) (fun w hS => schema_Same.c hB hS (i0a := 11) (i0b := 12) (i1a := 0) (i1b := 1) (a0 := (r3.1.1, r3.1.2.1, r3.1.2.2)) (a1 := r12) rfl rfl rfl rfl hg13) (fun x13 => ?_)
       refine T.dNext (phi_cons (.inr (Cl.stays 10 rfl)) phi_nil) ?_
       refine T.pickT (.dPure (i := 32) rfl (by kernel_rfl) (fun d _ _ _ _ h => by cases d <;> exact h)) rfl (wants0 rfl) rfl rfl hb6 rfl ?_
       refine T.move (.dPure (i := 33) rfl (by kernel_rfl) (fun d _ _ _ _ h => by cases d <;> exact h)) rfl (wants0 rfl) rfl rfl ?_
       refine T.bool (b := r13) (fun hb7 => ?_) (fun hb7 => ?_)
       ·replace hr := inv_posB hb7 hr
        obtain ⟨r14, hg14, hr⟩ := inv_bind hr
        refine T.dOnly (i := 34) (by kernel_rfl) ?_
        refine T.call (.dOne rfl (by kernel_rfl)) (wants1 rfl rfl rfl hb7) rfl (run_callF (vs := [_]) rfl Tryd.func16 rfl (by decide) rfl) (fun w hS => schema_Name.c hB hS  hg14) (fun x14 => ?_)
        refine T.dNext (phi_cons (.inr (Cl.stays 10 rfl)) phi_nil) ?_
        refine T.pickT (.dPure (i := 35) rfl (by kernel_rfl) (fun d _ _ _ _ h => by cases d <;> exact h)) rfl (wants0 rfl) rfl rfl hb7 rfl ?_
        refine T.move (.dPure (i := 36) rfl (by kernel_rfl) (fun d _ _ _ _ h => by cases d <;> exact h)) rfl (wants0 rfl) rfl rfl ?_
        refine T.bool (b := r14) (fun hb8 => ?_) (fun hb8 => ?_)
        ·replace hr := inv_posB hb8 hr
         obtain ⟨r15, hg15, hr⟩ := inv_bind hr
         refine T.dOnly (i := 37) (by kernel_rfl) ?_
         refine T.call (.dOne rfl (by kernel_rfl)) (wants1 rfl rfl rfl hb8) rfl (run_callF (vs := [_]) rfl Tryd.func16 rfl (by decide) rfl) (fun w hS => schema_Name.c hB hS  hg15) (fun x15 => ?_)
         refine T.dNext (phi_cons (.inr (Cl.stays 10 rfl)) phi_nil) ?_
         refine T.not (.dPure (i := 38) rfl (by kernel_rfl) (fun d _ _ _ _ h => by cases d <;> exact h)) rfl (wants1 rfl rfl rfl hb8) rfl rfl ?_
         refine T.pickT (.dPure (i := 39) rfl (by kernel_rfl) (fun d _ _ _ _ h => by cases d <;> exact h)) rfl (wants0 rfl) rfl rfl hb8 rfl ?_
         refine T.move (.dPure (i := 40) rfl (by kernel_rfl) (fun d _ _ _ _ h => by cases d <;> exact h)) rfl (wants0 rfl) rfl rfl ?_
         refine T.bool (b := r15) (fun hb9 => ?_) (fun hb9 => ?_)
         ·replace hr := inv_posB hb9 hr
          refine T.leave (.dPure (i := 41) rfl (by kernel_rfl) (fun d _ _ _ _ h => by cases d <;> exact h)) (wantsNot rfl rfl rfl (not_t hb9)) rfl ?_
          refine T.leave (.dPure (i := 42) rfl (by kernel_rfl) (fun d _ _ _ _ h => by cases d <;> exact h)) (wantsNot rfl rfl rfl (not_t hb9)) rfl ?_
          refine T.leave (.dPure (i := 43) rfl (by kernel_rfl) (fun d _ _ _ _ h => by cases d <;> exact h)) (wantsNot rfl rfl rfl (not_t hb9)) rfl ?_
          refine T.pickF (.dPure (i := 44) rfl (by kernel_rfl) (fun d _ _ _ _ h => by cases d <;> exact h)) rfl (wants0 rfl) rfl rfl (not_t hb9) rfl ?_
          refine T.assign (.dPure (i := 45) rfl (by kernel_rfl) (fun d _ _ _ _ h => by cases d <;> exact h)) rfl (wants0 rfl) rfl rfl ?_
          refine T.dDone (by kernel_rfl) ?_
          refine T.then_normal ?_
          refine T.ret ?_
          obtain rfl := inv_some hr
          refine T.pick [] 16 rfl rfl (Nat.le_add_left _ _) rfl ?_
          refine T.ret1 rfl rfl (fun w hS => ⟨(), rfl, hS⟩)
         ·replace hr := inv_negB hb9 hr
          refine T.build (.dPure (i := 41) rfl (by kernel_rfl) (fun d _ _ _ _ h => by cases d <;> exact h)) (vals := []) (cells := #[str (([] : List UInt8)), .slice none 0 0, .slice none 0 0]) rfl (wants1 rfl rfl rfl (not_f hb9)) rfl rfl (run_buildStruct (sizes := [1, 1, 1]) (by kernel_rfl) (by kernel_rfl)) ?_
          obtain ⟨r16, hg16, hr⟩ := inv_bind hr
          refine T.nilRo (Elt.pair EStr (Elt.pair E64 E64)) none 0 ?_
          refine T.nilRo (Elt.pair E64 EBool) none 0 ?_
          refine T.dOnly (i := 42) (by kernel_rfl) ?_
          refine T.call (.dOne rfl (by kernel_rfl)) (wants1 rfl rfl rfl (not_f hb9)) rfl (run_callF (vs := [_]) rfl Tryd.func8 rfl (by decide) rfl) (fun w hS => schema_Right.c hB hS (i0a := 1) (i0b := 0) (a0 := (([] : List UInt8), ([] : List ((List UInt8) × Int × Int)), ([] : List (Int × Bool)))) rfl rfl hg16) (fun x16 => ?_)
          refine T.dNext (phi_cons (.inr (Cl.stays 12 rfl)) phi_nil) ?_
          refine T.bin (.dPure (i := 43) rfl (by kernel_rfl) (fun d _ _ _ _ h => by cases d <;> exact h)) rfl (wants1 rfl rfl rfl (not_f hb9)) rfl rfl rfl rfl ?_
          refine T.pickT (.dPure (i := 44) rfl (by kernel_rfl) (fun d _ _ _ _ h => by cases d <;> exact h)) rfl (wants0 rfl) rfl rfl (not_f hb9) rfl ?_
          refine T.assign (.dPure (i := 45) rfl (by kernel_rfl) (fun d _ _ _ _ h => by cases d <;> exact h)) rfl (wants0 rfl) rfl rfl ?_
          refine T.dDone (by kernel_rfl) ?_
          refine T.then_normal ?_
          refine T.ret ?_
          obtain rfl := inv_some hr
          refine T.pick [] 18 rfl rfl (Nat.le_add_left _ _) rfl ?_
          refine T.ret1 rfl rfl (fun w hS => ⟨(), rfl, hS⟩)
        ·replace hr := inv_negB hb8 hr
         refine T.leave (.dPure (i := 37) rfl (by kernel_rfl) (fun d _ _ _ _ h => by cases d <;> exact h)) (wantsNot rfl rfl rfl hb8) rfl ?_
         refine T.leave (.dPure (i := 38) rfl (by kernel_rfl) (fun d _ _ _ _ h => by cases d <;> exact h)) (wantsNot rfl rfl rfl hb8) rfl ?_
         refine T.pickF (.dPure (i := 39) rfl (by kernel_rfl) (fun d _ _ _ _ h => by cases d <;> exact h)) rfl (wants0 rfl) rfl rfl hb8 rfl ?_
         refine T.move (.dPure (i := 40) rfl (by kernel_rfl) (fun d _ _ _ _ h => by cases d <;> exact h)) rfl (wants0 rfl) rfl rfl ?_
         refine T.leave (.dPure (i := 41) rfl (by kernel_rfl) (fun d _ _ _ _ h => by cases d <;> exact h)) (wantsNot rfl rfl rfl rfl) rfl ?_
         refine T.leave (.dPure (i := 42) rfl (by kernel_rfl) (fun d _ _ _ _ h => by cases d <;> exact h)) (wantsNot rfl rfl rfl rfl) rfl ?_
         refine T.leave (.dPure (i := 43) rfl (by kernel_rfl) (fun d _ _ _ _ h => by cases d <;> exact h)) (wantsNot rfl rfl rfl rfl) rfl ?_
         refine T.pickF (.dPure (i := 44) rfl (by kernel_rfl) (fun d _ _ _ _ h => by cases d <;> exact h)) rfl (wants0 rfl) rfl rfl rfl rfl ?_
         refine T.assign (.dPure (i := 45) rfl (by kernel_rfl) (fun d _ _ _ _ h => by cases d <;> exact h)) rfl (wants0 rfl) rfl rfl ?_
         refine T.dDone (by kernel_rfl) ?_
         refine T.then_normal ?_
         refine T.ret ?_
         obtain rfl := inv_some hr
         refine T.pick [] 16 rfl rfl (Nat.le_add_left _ _) rfl ?_
         refine T.ret1 rfl rfl (fun w hS => ⟨(), rfl, hS⟩)
       ·replace hr := inv_negB hb7 hr
        refine T.leave (.dPure (i := 34) rfl (by kernel_rfl) (fun d _ _ _ _ h => by cases d <;> exact h)) (wantsNot rfl rfl rfl hb7) rfl ?_
        refine T.pickF (.dPure (i := 35) rfl (by kernel_rfl) (fun d _ _ _ _ h => by cases d <;> exact h)) rfl (wants0 rfl) rfl rfl hb7 rfl ?_
        refine T.move (.dPure (i := 36) rfl (by kernel_rfl) (fun d _ _ _ _ h => by cases d <;> exact h)) rfl (wants0 rfl) rfl rfl ?_
        refine T.leave (.dPure (i := 37) rfl (by kernel_rfl) (fun d _ _ _ _ h => by cases d <;> exact h)) (wantsNot rfl rfl rfl rfl) rfl ?_
        refine T.leave (.dPure (i := 38) rfl (by kernel_rfl) (fun d _ _ _ _ h => by cases d <;> exact h)) (wantsNot rfl rfl rfl rfl) rfl ?_
        refine T.pickF (.dPure (i := 39) rfl (by kernel_rfl) (fun d _ _ _ _ h => by cases d <;> exact h)) rfl (wants0 rfl) rfl rfl rfl rfl ?_
        refine T.move (.dPure (i := 40) rfl (by kernel_rfl) (fun d _ _ _ _ h => by cases d <;> exact h)) rfl (wants0 rfl) rfl rfl ?_
        refine T.leave (.dPure (i := 41) rfl (by kernel_rfl) (fun d _ _ _ _ h => by cases d <;> exact h)) (wantsNot rfl rfl rfl rfl) rfl ?_
        refine T.leave (.dPure (i := 42) rfl (by kernel_rfl) (fun d _ _ _ _ h => by cases d <;> exact h)) (wantsNot rfl rfl rfl rfl) rfl ?_
        refine T.leave (.dPure (i := 43) rfl (by kernel_rfl) (fun d _ _ _ _ h => by cases d <;> exact h)) (wantsNot rfl rfl rfl rfl) rfl ?_
        refine T.pickF (.dPure (i := 44) rfl (by kernel_rfl) (fun d _ _ _ _ h => by cases d <;> exact h)) rfl (wants0 rfl) rfl rfl rfl rfl ?_
        refine T.assign (.dPure (i := 45) rfl (by kernel_rfl) (fun d _ _ _ _ h => by cases d <;> exact h)) rfl (wants0 rfl) rfl rfl ?_
        refine T.dDone (by kernel_rfl) ?_
        refine T.then_normal ?_
        refine T.ret ?_
        obtain rfl := inv_some hr
        refine T.pick [] 16 rfl rfl (Nat.le_add_left _ _) rfl ?_
        refine T.ret1 rfl rfl (fun w hS => ⟨(), rfl, hS⟩)
      ·replace hr := inv_negB hb6 hr
       refine T.leave (.dPure (i := 29) rfl (by kernel_rfl) (fun d _ _ _ _ h => by cases d <;> exact h)) (wantsNot rfl rfl rfl hb6) rfl ?_
       refine T.leave (.dPure (i := 30) rfl (by kernel_rfl) (fun d _ _ _ _ h => by cases d <;> exact h)) (wantsNot rfl rfl rfl hb6) rfl ?_
       refine T.leave (.dPure (i := 31) rfl (by kernel_rfl) (fun d _ _ _ _ h => by cases d <;> exact h)) (wantsNot rfl rfl rfl hb6) rfl ?_
       refine T.pickF (.dPure (i := 32) rfl (by kernel_rfl) (fun d _ _ _ _ h => by cases d <;> exact h)) rfl (wants0 rfl) rfl rfl hb6 rfl ?_
       refine T.move (.dPure (i := 33) rfl (by kernel_rfl) (fun d _ _ _ _ h => by cases d <;> exact h)) rfl (wants0 rfl) rfl rfl ?_
       refine T.leave (.dPure (i := 34) rfl (by kernel_rfl) (fun d _ _ _ _ h => by cases d <;> exact h)) (wantsNot rfl rfl rfl rfl) rfl ?_
       refine T.pickF (.dPure (i := 35) rfl (by kernel_rfl) (fun d _ _ _ _ h => by cases d <;> exact h)) rfl (wants0 rfl) rfl rfl rfl rfl ?_
       refine T.move (.dPure (i := 36) rfl (by kernel_rfl) (fun d _ _ _ _ h => by cases d <;> exact h)) rfl (wants0 rfl) rfl rfl ?_
       refine T.leave (.dPure (i := 37) rfl (by kernel_rfl) (fun d _ _ _ _ h => by cases d <;> exact h)) (wantsNot rfl rfl rfl rfl) rfl ?_
       refine T.leave (.dPure (i := 38) rfl (by kernel_rfl) (fun d _ _ _ _ h => by cases d <;> exact h)) (wantsNot rfl rfl rfl rfl) rfl ?_
       refine T.pickF (.dPure (i := 39) rfl (by kernel_rfl) (fun d _ _ _ _ h => by cases d <;> exact h)) rfl (wants0 rfl) rfl rfl rfl rfl ?_
       refine T.move (.dPure (i := 40) rfl (by kernel_rfl) (fun d _ _ _ _ h => by cases d <;> exact h)) rfl (wants0 rfl) rfl rfl ?_
       refine T.leave (.dPure (i := 41) rfl (by kernel_rfl) (fun d _ _ _ _ h => by cases d <;> exact h)) (wantsNot rfl rfl rfl rfl) rfl ?_
       refine T.leave (.dPure (i := 42) rfl (by kernel_rfl) (fun d _ _ _ _ h => by cases d <;> exact h)) (wantsNot rfl rfl rfl rfl) rfl ?_
       refine T.leave (.dPure (i := 43) rfl (by kernel_rfl) (fun d _ _ _ _ h => by cases d <;> exact h)) (wantsNot rfl rfl rfl rfl) rfl ?_
       refine T.pickF (.dPure (i := 44) rfl (by kernel_rfl) (fun d _ _ _ _ h => by cases d <;> exact h)) rfl (wants0 rfl) rfl rfl rfl rfl ?_
       refine T.assign (.dPure (i := 45) rfl (by kernel_rfl) (fun d _ _ _ _ h => by cases d <;> exact h)) rfl (wants0 rfl) rfl rfl ?_
       refine T.dDone (by kernel_rfl) ?_
       refine T.then_normal ?_
       refine T.ret ?_
       obtain rfl := inv_some hr
       refine T.pick [] 14 rfl rfl (Nat.le_add_left _ _) rfl ?_
       refine T.ret1 rfl rfl (fun w hS => ⟨(), rfl, hS⟩)
     ·replace hr := inv_negB hb5 hr
      refine T.leave (.dPure (i := 24) rfl (by kernel_rfl) (fun d _ _ _ _ h => by cases d <;> exact h)) (wantsNot rfl rfl rfl hb5) rfl ?_
      refine T.leave (.dPure (i := 25) rfl (by kernel_rfl) (fun d _ _ _ _ h => by cases d <;> exact h)) (wantsNot rfl rfl rfl hb5) rfl ?_
      refine T.leave (.dPure (i := 26) rfl (by kernel_rfl) (fun d _ _ _ _ h => by cases d <;> exact h)) (wantsNot rfl rfl rfl hb5) rfl ?_
      refine T.pickF (.dPure (i := 27) rfl (by kernel_rfl) (fun d _ _ _ _ h => by cases d <;> exact h)) rfl (wants0 rfl) rfl rfl hb5 rfl ?_
      refine T.move (.dPure (i := 28) rfl (by kernel_rfl) (fun d _ _ _ _ h => by cases d <;> exact h)) rfl (wants0 rfl) rfl rfl ?_
      refine T.leave (.dPure (i := 29) rfl (by kernel_rfl) (fun d _ _ _ _ h => by cases d <;> exact h)) (wantsNot rfl rfl rfl rfl) rfl ?_
      refine T.leave (.dPure (i := 30) rfl (by kernel_rfl) (fun d _ _ _ _ h => by cases d <;> exact h)) (wantsNot rfl rfl rfl rfl) rfl ?_
      refine T.leave (.dPure (i := 31) rfl (by kernel_rfl) (fun d _ _ _ _ h => by cases d <;> exact h)) (wantsNot rfl rfl rfl rfl) rfl ?_
      refine T.pickF (.dPure (i := 32) rfl (by kernel_rfl) (fun d _ _ _ _ h => by cases d <;> exact h)) rfl (wants0 rfl) rfl rfl rfl rfl ?_
      refine T.move (.dPure (i := 33) rfl (by kernel_rfl) (fun d _ _ _ _ h => by cases d <;> exact h)) rfl (wants0 rfl) rfl rfl ?_
      refine T.leave (.dPure (i := 34) rfl (by kernel_rfl) (fun d _ _ _ _ h => by cases d <;> exact h)) (wantsNot rfl rfl rfl rfl) rfl ?_
      refine T.pickF (.dPure (i := 35) rfl (by kernel_rfl) (fun d _ _ _ _ h => by cases d <;> exact h)) rfl (wants0 rfl) rfl rfl rfl rfl ?_
      refine T.move (.dPure (i := 36) rfl (by kernel_rfl) (fun d _ _ _ _ h => by cases d <;> exact h)) rfl (wants0 rfl) rfl rfl ?_
      refine T.leave (.dPure (i := 37) rfl (by kernel_rfl) (fun d _ _ _ _ h => by cases d <;> exact h)) (wantsNot rfl rfl rfl rfl) rfl ?_
      refine T.leave (.dPure (i := 38) rfl (by kernel_rfl) (fun d _ _ _ _ h => by cases d <;> exact h)) (wantsNot rfl rfl rfl rfl) rfl ?_
      refine T.pickF (.dPure (i := 39) rfl (by kernel_rfl) (fun d _ _ _ _ h => by cases d <;> exact h)) rfl (wants0 rfl) rfl rfl rfl rfl ?_
      refine T.move (.dPure (i := 40) rfl (by kernel_rfl) (fun d _ _ _ _ h => by cases d <;> exact h)) rfl (wants0 rfl) rfl rfl ?_
      refine T.leave (.dPure (i := 41) rfl (by kernel_rfl) (fun d _ _ _ _ h => by cases d <;> exact h)) (wantsNot rfl rfl rfl rfl) rfl ?_
      refine T.leave (.dPure (i := 42) rfl (by kernel_rfl) (fun d _ _ _ _ h => by cases d <;> exact h)) (wantsNot rfl rfl rfl rfl) rfl ?_
      refine T.leave (.dPure (i := 43) rfl (by kernel_rfl) (fun d _ _ _ _ h => by cases d <;> exact h)) (wantsNot rfl rfl rfl rfl) rfl ?_
      refine T.pickF (.dPure (i := 44) rfl (by kernel_rfl) (fun d _ _ _ _ h => by cases d <;> exact h)) rfl (wants0 rfl) rfl rfl rfl rfl ?_
      refine T.assign (.dPure (i := 45) rfl (by kernel_rfl) (fun d _ _ _ _ h => by cases d <;> exact h)) rfl (wants0 rfl) rfl rfl ?_
      refine T.dDone (by kernel_rfl) ?_
      refine T.then_normal ?_
      refine T.ret ?_
      obtain rfl := inv_some hr
      refine T.pick [] 14 rfl rfl (Nat.le_add_left _ _) rfl ?_
      refine T.ret1 rfl rfl (fun w hS => ⟨(), rfl, hS⟩)
    ·replace hr := inv_negB hb4 hr
     refine T.leave (.dPure (i := 20) rfl (by kernel_rfl) (fun d _ _ _ _ h => by cases d <;> exact h)) (wantsNot rfl rfl rfl hb4) rfl ?_
     refine T.leave (.dPure (i := 21) rfl (by kernel_rfl) (fun d _ _ _ _ h => by cases d <;> exact h)) (wantsNot rfl rfl rfl hb4) rfl ?_
     refine T.pickF (.dPure (i := 22) rfl (by kernel_rfl) (fun d _ _ _ _ h => by cases d <;> exact h)) rfl (wants0 rfl) rfl rfl hb4 rfl ?_
     refine T.move (.dPure (i := 23) rfl (by kernel_rfl) (fun d _ _ _ _ h => by cases d <;> exact h)) rfl (wants0 rfl) rfl rfl ?_
     refine T.leave (.dPure (i := 24) rfl (by kernel_rfl) (fun d _ _ _ _ h => by cases d <;> exact h)) (wantsNot rfl rfl rfl rfl) rfl ?_
     refine T.leave (.dPure (i := 25) rfl (by kernel_rfl) (fun d _ _ _ _ h => by cases d <;> exact h)) (wantsNot rfl rfl rfl rfl) rfl ?_
     refine T.leave (.dPure (i := 26) rfl (by kernel_rfl) (fun d _ _ _ _ h => by cases d <;> exact h)) (wantsNot rfl rfl rfl rfl) rfl ?_
     refine T.pickF (.dPure (i := 27) rfl (by kernel_rfl) (fun d _ _ _ _ h => by cases d <;> exact h)) rfl (wants0 rfl) rfl rfl rfl rfl ?_
     refine T.move (.dPure (i := 28) rfl (by kernel_rfl) (fun d _ _ _ _ h => by cases d <;> exact h)) rfl (wants0 rfl) rfl rfl ?_
     refine T.leave (.dPure (i := 29) rfl (by kernel_rfl) (fun d _ _ _ _ h => by cases d <;> exact h)) (wantsNot rfl rfl rfl rfl) rfl ?_
     refine T.leave (.dPure (i := 30) rfl (by kernel_rfl) (fun d _ _ _ _ h => by cases d <;> exact h)) (wantsNot rfl rfl rfl rfl) rfl ?_
     refine T.leave (.dPure (i := 31) rfl (by kernel_rfl) (fun d _ _ _ _ h => by cases d <;> exact h)) (wantsNot rfl rfl rfl rfl) rfl ?_
     refine T.pickF (.dPure (i := 32) rfl (by kernel_rfl) (fun d _ _ _ _ h => by cases d <;> exact h)) rfl (wants0 rfl) rfl rfl rfl rfl ?_
     refine T.move (.dPure (i := 33) rfl (by kernel_rfl) (fun d _ _ _ _ h => by cases d <;> exact h)) rfl (wants0 rfl) rfl rfl ?_
     refine T.leave (.dPure (i := 34) rfl (by kernel_rfl) (fun d _ _ _ _ h => by cases d <;> exact h)) (wantsNot rfl rfl rfl rfl) rfl ?_
     refine T.pickF (.dPure (i := 35) rfl (by kernel_rfl) (fun d _ _ _ _ h => by cases d <;> exact h)) rfl (wants0 rfl) rfl rfl rfl rfl ?_
     refine T.move (.dPure (i := 36) rfl (by kernel_rfl) (fun d _ _ _ _ h => by cases d <;> exact h)) rfl (wants0 rfl) rfl rfl ?_
     refine T.leave (.dPure (i := 37) rfl (by kernel_rfl) (fun d _ _ _ _ h => by cases d <;> exact h)) (wantsNot rfl rfl rfl rfl) rfl ?_
     refine T.leave (.dPure (i := 38) rfl (by kernel_rfl) (fun d _ _ _ _ h => by cases d <;> exact h)) (wantsNot rfl rfl rfl rfl) rfl ?_
     refine T.pickF (.dPure (i := 39) rfl (by kernel_rfl) (fun d _ _ _ _ h => by cases d <;> exact h)) rfl (wants0 rfl) rfl rfl rfl rfl ?_
     refine T.move (.dPure (i := 40) rfl (by kernel_rfl) (fun d _ _ _ _ h => by cases d <;> exact h)) rfl (wants0 rfl) rfl rfl ?_
     refine T.leave (.dPure (i := 41) rfl (by kernel_rfl) (fun d _ _ _ _ h => by cases d <;> exact h)) (wantsNot rfl rfl rfl rfl) rfl ?_
     refine T.leave (.dPure (i := 42) rfl (by kernel_rfl) (fun d _ _ _ _ h => by cases d <;> exact h)) (wantsNot rfl rfl rfl rfl) rfl ?_
     refine T.leave (.dPure (i := 43) rfl (by kernel_rfl) (fun d _ _ _ _ h => by cases d <;> exact h)) (wantsNot rfl rfl rfl rfl) rfl ?_
     refine T.pickF (.dPure (i := 44) rfl (by kernel_rfl) (fun d _ _ _ _ h => by cases d <;> exact h)) rfl (wants0 rfl) rfl rfl rfl rfl ?_
     refine T.assign (.dPure (i := 45) rfl (by kernel_rfl) (fun d _ _ _ _ h => by cases d <;> exact h)) rfl (wants0 rfl) rfl rfl ?_
     refine T.dDone (by kernel_rfl) ?_
     refine T.then_normal ?_
     refine T.ret ?_
     obtain rfl := inv_some hr
     refine T.pick [] 14 rfl rfl (Nat.le_add_left _ _) rfl ?_
     refine T.ret1 rfl rfl (fun w hS => ⟨(), rfl, hS⟩)
   ·replace hr := inv_negB hb3 hr
    refine T.leave (.dPure (i := 16) rfl (by kernel_rfl) (fun d _ _ _ _ h => by cases d <;> exact h)) (wantsNot rfl rfl rfl hb3) rfl ?_
    refine T.leave (.dPure (i := 17) rfl (by kernel_rfl) (fun d _ _ _ _ h => by cases d <;> exact h)) (wantsNot rfl rfl rfl hb3) rfl ?_
    refine T.pickF (.dPure (i := 18) rfl (by kernel_rfl) (fun d _ _ _ _ h => by cases d <;> exact h)) rfl (wants0 rfl) rfl rfl hb3 rfl ?_
    refine T.move (.dPure (i := 19) rfl (by kernel_rfl) (fun d _ _ _ _ h => by cases d <;> exact h)) rfl (wants0 rfl) rfl rfl ?_
    refine T.leave (.dPure (i := 20) rfl (by kernel_rfl) (fun d _ _ _ _ h => by cases d <;> exact h)) (wantsNot rfl rfl rfl rfl) rfl ?_
    refine T.leave (.dPure (i := 21) rfl (by kernel_rfl) (fun d _ _ _ _ h => by cases d <;> exact h)) (wantsNot rfl rfl rfl rfl) rfl ?_
    refine T.pickF (.dPure (i := 22) rfl (by kernel_rfl) (fun d _ _ _ _ h => by cases d <;> exact h)) rfl (wants0 rfl) rfl rfl rfl rfl ?_
    refine T.move (.dPure (i := 23) rfl (by kernel_rfl) (fun d _ _ _ _ h => by cases d <;> exact h)) rfl (wants0 rfl) rfl rfl ?_
    refine T.leave (.dPure (i := 24) rfl (by kernel_rfl) (fun d _ _ _ _ h => by cases d <;> exact h)) (wantsNot rfl rfl rfl rfl) rfl ?_
    refine T.leave (.dPure (i := 25) rfl (by kernel_rfl) (fun d _ _ _ _ h => by cases d <;> exact h)) (wantsNot rfl rfl rfl rfl) rfl ?_
    refine T.leave (.dPure (i := 26) rfl (by kernel_rfl) (fun d _ _ _ _ h => by cases d <;> exact h)) (wantsNot rfl rfl rfl rfl) rfl ?_
    refine T.pickF (.dPure (i := 27) rfl (by kernel_rfl) (fun d _ _ _ _ h => by cases d <;> exact h)) rfl (wants0 rfl) rfl rfl rfl rfl ?_
    refine T.move (.dPure (i := 28) rfl (by kernel_rfl) (fun d _ _ _ _ h => by cases d <;> exact h)) rfl (wants0 rfl) rfl rfl ?_
    refine T.leave (.dPure (i := 29) rfl (by kernel_rfl) (fun d _ _ _ _ h => by cases d <;> exact h)) (wantsNot rfl rfl rfl rfl) rfl ?_
    refine T.leave (.dPure (i := 30) rfl (by kernel_rfl) (fun d _ _ _ _ h => by cases d <;> exact h)) (wantsNot rfl rfl rfl rfl) rfl ?_
    refine T.leave (.dPure (i := 31) rfl (by kernel_rfl) (fun d _ _ _ _ h => by cases d <;> exact h)) (wantsNot rfl rfl rfl rfl) rfl ?_
    refine T.pickF (.dPure (i := 32) rfl (by kernel_rfl) (fun d _ _ _ _ h => by cases d <;> exact h)) rfl (wants0 rfl) rfl rfl rfl rfl ?_
    refine T.move (.dPure (i := 33) rfl (by kernel_rfl) (fun d _ _ _ _ h => by cases d <;> exact h)) rfl (wants0 rfl) rfl rfl ?_
    refine T.leave (.dPure (i := 34) rfl (by kernel_rfl) (fun d _ _ _ _ h => by cases d <;> exact h)) (wantsNot rfl rfl rfl rfl) rfl ?_
    refine T.pickF (.dPure (i := 35) rfl (by kernel_rfl) (fun d _ _ _ _ h => by cases d <;> exact h)) rfl (wants0 rfl) rfl rfl rfl rfl ?_
    refine T.move (.dPure (i := 36) rfl (by kernel_rfl) (fun d _ _ _ _ h => by cases d <;> exact h)) rfl (wants0 rfl) rfl rfl ?_
    refine T.leave (.dPure (i := 37) rfl (by kernel_rfl) (fun d _ _ _ _ h => by cases d <;> exact h)) (wantsNot rfl rfl rfl rfl) rfl ?_
    refine T.leave (.dPure (i := 38) rfl (by kernel_rfl) (fun d _ _ _ _ h => by cases d <;> exact h)) (wantsNot rfl rfl rfl rfl) rfl ?_
    refine T.pickF (.dPure (i := 39) rfl (by kernel_rfl) (fun d _ _ _ _ h => by cases d <;> exact h)) rfl (wants0 rfl) rfl rfl rfl rfl ?_
    refine T.move (.dPure (i := 40) rfl (by kernel_rfl) (fun d _ _ _ _ h => by cases d <;> exact h)) rfl (wants0 rfl) rfl rfl ?_
    refine T.leave (.dPure (i := 41) rfl (by kernel_rfl) (fun d _ _ _ _ h => by cases d <;> exact h)) (wantsNot rfl rfl rfl rfl) rfl ?_
    refine T.leave (.dPure (i := 42) rfl (by kernel_rfl) (fun d _ _ _ _ h => by cases d <;> exact h)) (wantsNot rfl rfl rfl rfl) rfl ?_
    refine T.leave (.dPure (i := 43) rfl (by kernel_rfl) (fun d _ _ _ _ h => by cases d <;> exact h)) (wantsNot rfl rfl rfl rfl) rfl ?_
    refine T.pickF (.dPure (i := 44) rfl (by kernel_rfl) (fun d _ _ _ _ h => by cases d <;> exact h)) rfl (wants0 rfl) rfl rfl rfl rfl ?_
    refine T.assign (.dPure (i := 45) rfl (by kernel_rfl) (fun d _ _ _ _ h => by cases d <;> exact h)) rfl (wants0 rfl) rfl rfl ?_
    refine T.dDone (by kernel_rfl) ?_
    refine T.then_normal ?_
    refine T.ret ?_
    obtain rfl := inv_some hr
    refine T.pick [] 14 rfl rfl (Nat.le_add_left _ _) rfl ?_
    refine T.ret1 rfl rfl (fun w hS => ⟨(), rfl, hS⟩)
  ·replace hr := inv_negB hb2 hr
   refine T.leave (.dPure (i := 10) rfl (by kernel_rfl) (fun d _ _ _ _ h => by cases d <;> exact h)) (wantsNot rfl rfl rfl hb2) rfl ?_
   refine T.leave (.dPure (i := 11) rfl (by kernel_rfl) (fun d _ _ _ _ h => by cases d <;> exact h)) (wantsNot rfl rfl rfl hb2) rfl ?_
   refine T.leave (.dPure (i := 12) rfl (by kernel_rfl) (fun d _ _ _ _ h => by cases d <;> exact h)) (wantsNot rfl rfl rfl hb2) rfl ?_
   refine T.leave (.dPure (i := 13) rfl (by kernel_rfl) (fun d _ _ _ _ h => by cases d <;> exact h)) (wantsNot rfl rfl rfl hb2) rfl ?_
   refine T.pickF (.dPure (i := 14) rfl (by kernel_rfl) (fun d _ _ _ _ h => by cases d <;> exact h)) rfl (wants0 rfl) rfl rfl hb2 rfl ?_
   refine T.move (.dPure (i := 15) rfl (by kernel_rfl) (fun d _ _ _ _ h => by cases d <;> exact h)) rfl (wants0 rfl) rfl rfl ?_
   refine T.leave (.dPure (i := 16) rfl (by kernel_rfl) (fun d _ _ _ _ h => by cases d <;> exact h)) (wantsNot rfl rfl rfl rfl) rfl ?_
   refine T.leave (.dPure (i := 17) rfl (by kernel_rfl) (fun d _ _ _ _ h => by cases d <;> exact h)) (wantsNot rfl rfl rfl rfl) rfl ?_
   refine T.pickF (.dPure (i := 18) rfl (by kernel_rfl) (fun d _ _ _ _ h => by cases d <;> exact h)) rfl (wants0 rfl) rfl rfl rfl rfl ?_
   refine T.move (.dPure (i := 19) rfl (by kernel_rfl) (fun d _ _ _ _ h => by cases d <;> exact h)) rfl (wants0 rfl) rfl rfl ?_
   refine T.leave (.dPure (i := 20) rfl (by kernel_rfl) (fun d _ _ _ _ h => by cases d <;> exact h)) (wantsNot rfl rfl rfl rfl) rfl ?_
   refine T.leave (.dPure (i := 21) rfl (by kernel_rfl) (fun d _ _ _ _ h => by cases d <;> exact h)) (wantsNot rfl rfl rfl rfl) rfl ?_
   refine T.pickF (.dPure (i := 22) rfl (by kernel_rfl) (fun d _ _ _ _ h => by cases d <;> exact h)) rfl (wants0 rfl) rfl rfl rfl rfl ?_
   refine T.move (.dPure (i := 23) rfl (by kernel_rfl) (fun d _ _ _ _ h => by cases d <;> exact h)) rfl (wants0 rfl) rfl rfl ?_
   refine T.leave (.dPure (i := 24) rfl (by kernel_rfl) (fun d _ _ _ _ h => by cases d <;> exact h)) (wantsNot rfl rfl rfl rfl) rfl ?_
   refine T.leave (.dPure (i := 25) rfl (by kernel_rfl) (fun d _ _ _ _ h => by cases d <;> exact h)) (wantsNot rfl rfl rfl rfl) rfl ?_
   refine T.leave (.dPure (i := 26) rfl (by kernel_rfl) (fun d _ _ _ _ h => by cases d <;> exact h)) (wantsNot rfl rfl rfl rfl) rfl ?_
   refine T.pickF (.dPure (i := 27) rfl (by kernel_rfl) (fun d _ _ _ _ h => by cases d <;> exact h)) rfl (wants0 rfl) rfl rfl rfl rfl ?_
   refine T.move (.dPure (i := 28) rfl (by kernel_rfl) (fun d _ _ _ _ h => by cases d <;> exact h)) rfl (wants0 rfl) rfl rfl ?_
   refine T.leave (.dPure (i := 29) rfl (by kernel_rfl) (fun d _ _ _ _ h => by cases d <;> exact h)) (wantsNot rfl rfl rfl rfl) rfl ?_
   refine T.leave (.dPure (i := 30) rfl (by kernel_rfl) (fun d _ _ _ _ h => by cases d <;> exact h)) (wantsNot rfl rfl rfl rfl) rfl ?_
   refine T.leave (.dPure (i := 31) rfl (by kernel_rfl) (fun d _ _ _ _ h => by cases d <;> exact h)) (wantsNot rfl rfl rfl rfl) rfl ?_
   refine T.pickF (.dPure (i := 32) rfl (by kernel_rfl) (fun d _ _ _ _ h => by cases d <;> exact h)) rfl (wants0 rfl) rfl rfl rfl rfl ?_
   refine T.move (.dPure (i := 33) rfl (by kernel_rfl) (fun d _ _ _ _ h => by cases d <;> exact h)) rfl (wants0 rfl) rfl rfl ?_
   refine T.leave (.dPure (i := 34) rfl (by kernel_rfl) (fun d _ _ _ _ h => by cases d <;> exact h)) (wantsNot rfl rfl rfl rfl) rfl ?_
   refine T.pickF (.dPure (i := 35) rfl (by kernel_rfl) (fun d _ _ _ _ h => by cases d <;> exact h)) rfl (wants0 rfl) rfl rfl rfl rfl ?_
   refine T.move (.dPure (i := 36) rfl (by kernel_rfl) (fun d _ _ _ _ h => by cases d <;> exact h)) rfl (wants0 rfl) rfl rfl ?_
   refine T.leave (.dPure (i := 37) rfl (by kernel_rfl) (fun d _ _ _ _ h => by cases d <;> exact h)) (wantsNot rfl rfl rfl rfl) rfl ?_
   refine T.leave (.dPure (i := 38) rfl (by kernel_rfl) (fun d _ _ _ _ h => by cases d <;> exact h)) (wantsNot rfl rfl rfl rfl) rfl ?_
   refine T.pickF (.dPure (i := 39) rfl (by kernel_rfl) (fun d _ _ _ _ h => by cases d <;> exact h)) rfl (wants0 rfl) rfl rfl rfl rfl ?_
   refine T.move (.dPure (i := 40) rfl (by kernel_rfl) (fun d _ _ _ _ h => by cases d <;> exact h)) rfl (wants0 rfl) rfl rfl ?_
   refine T.leave (.dPure (i := 41) rfl (by kernel_rfl) (fun d _ _ _ _ h => by cases d <;> exact h)) (wantsNot rfl rfl rfl rfl) rfl ?_
   refine T.leave (.dPure (i := 42) rfl (by kernel_rfl) (fun d _ _ _ _ h => by cases d <;> exact h)) (wantsNot rfl rfl rfl rfl) rfl ?_
   refine T.leave (.dPure (i := 43) rfl (by kernel_rfl) (fun d _ _ _ _ h => by cases d <;> exact h)) (wantsNot rfl rfl rfl rfl) rfl ?_
   refine T.pickF (.dPure (i := 44) rfl (by kernel_rfl) (fun d _ _ _ _ h => by cases d <;> exact h)) rfl (wants0 rfl) rfl rfl rfl rfl ?_
   refine T.assign (.dPure (i := 45) rfl (by kernel_rfl) (fun d _ _ _ _ h => by cases d <;> exact h)) rfl (wants0 rfl) rfl rfl ?_
   refine T.dDone (by kernel_rfl) ?_
   refine T.then_normal ?_
   refine T.ret ?_
   obtain rfl := inv_some hr
   refine T.pick [] 11 rfl rfl (Nat.le_add_left _ _) rfl ?_
   refine T.ret1 rfl rfl (fun w hS => ⟨(), rfl, hS⟩)
 ·replace hr := inv_negB hb1 hr
  refine T.leave (.dPure (i := 4) rfl (by kernel_rfl) (fun d _ _ _ _ h => by cases d <;> exact h)) (wantsNot rfl rfl rfl hb1) rfl ?_
  refine T.leave (.dPure (i := 5) rfl (by kernel_rfl) (fun d _ _ _ _ h => by cases d <;> exact h)) (wantsNot rfl rfl rfl hb1) rfl ?_
  refine T.leave (.dPure (i := 6) rfl (by kernel_rfl) (fun d _ _ _ _ h => by cases d <;> exact h)) (wantsNot rfl rfl rfl hb1) rfl ?_
  refine T.leave (.dPure (i := 7) rfl (by kernel_rfl) (fun d _ _ _ _ h => by cases d <;> exact h)) (wantsNot rfl rfl rfl hb1) rfl ?_
  refine T.pickF (.dPure (i := 8) rfl (by kernel_rfl) (fun d _ _ _ _ h => by cases d <;> exact h)) rfl (wants0 rfl) rfl rfl hb1 rfl ?_
  refine T.move (.dPure (i := 9) rfl (by kernel_rfl) (fun d _ _ _ _ h => by cases d <;> exact h)) rfl (wants0 rfl) rfl rfl ?_
  refine T.leave (.dPure (i := 10) rfl (by kernel_rfl) (fun d _ _ _ _ h => by cases d <;> exact h)) (wantsNot rfl rfl rfl rfl) rfl ?_
  refine T.leave (.dPure (i := 11) rfl (by kernel_rfl) (fun d _ _ _ _ h => by cases d <;> exact h)) (wantsNot rfl rfl rfl rfl) rfl ?_
  refine T.leave (.dPure (i := 12) rfl (by kernel_rfl) (fun d _ _ _ _ h => by cases d <;> exact h)) (wantsNot rfl rfl rfl rfl) rfl ?_
  refine T.leave (.dPure (i := 13) rfl (by kernel_rfl) (fun d _ _ _ _ h => by cases d <;> exact h)) (wantsNot rfl rfl rfl rfl) rfl ?_
  refine T.pickF (.dPure (i := 14) rfl (by kernel_rfl) (fun d _ _ _ _ h => by cases d <;> exact h)) rfl (wants0 rfl) rfl rfl rfl rfl ?_
  refine T.move (.dPure (i := 15) rfl (by kernel_rfl) (fun d _ _ _ _ h => by cases d <;> exact h)) rfl (wants0 rfl) rfl rfl ?_
  refine T.leave (.dPure (i := 16) rfl (by kernel_rfl) (fun d _ _ _ _ h => by cases d <;> exact h)) (wantsNot rfl rfl rfl rfl) rfl ?_
  refine T.leave (.dPure (i := 17) rfl (by kernel_rfl) (fun d _ _ _ _ h => by cases d <;> exact h)) (wantsNot rfl rfl rfl rfl) rfl ?_
  refine T.pickF (.dPure (i := 18) rfl (by kernel_rfl) (fun d _ _ _ _ h => by cases d <;> exact h)) rfl (wants0 rfl) rfl rfl rfl rfl ?_
  refine T.move (.dPure (i := 19) rfl (by kernel_rfl) (fun d _ _ _ _ h => by cases d <;> exact h)) rfl (wants0 rfl) rfl rfl ?_
  refine T.leave (.dPure (i := 20) rfl (by kernel_rfl) (fun d _ _ _ _ h => by cases d <;> exact h)) (wantsNot rfl rfl rfl rfl) rfl ?_
  refine T.leave (.dPure (i := 21) rfl (by kernel_rfl) (fun d _ _ _ _ h => by cases d <;> exact h)) (wantsNot rfl rfl rfl rfl) rfl ?_
  refine T.pickF (.dPure (i := 22) rfl (by kernel_rfl) (fun d _ _ _ _ h => by cases d <;> exact h)) rfl (wants0 rfl) rfl rfl rfl rfl ?_
  refine T.move (.dPure (i := 23) rfl (by kernel_rfl) (fun d _ _ _ _ h => by cases d <;> exact h)) rfl (wants0 rfl) rfl rfl ?_
  refine T.leave (.dPure (i := 24) rfl (by kernel_rfl) (fun d _ _ _ _ h => by cases d <;> exact h)) (wantsNot rfl rfl rfl rfl) rfl ?_
  refine T.leave (.dPure (i := 25) rfl (by kernel_rfl) (fun d _ _ _ _ h => by cases d <;> exact h)) (wantsNot rfl rfl rfl rfl) rfl ?_
  refine T.leave (.dPure (i := 26) rfl (by kernel_rfl) (fun d _ _ _ _ h => by cases d <;> exact h)) (wantsNot rfl rfl rfl rfl) rfl ?_
  refine T.pickF (.dPure (i := 27) rfl (by kernel_rfl) (fun d _ _ _ _ h => by cases d <;> exact h)) rfl (wants0 rfl) rfl rfl rfl rfl ?_
  refine T.move (.dPure (i := 28) rfl (by kernel_rfl) (fun d _ _ _ _ h => by cases d <;> exact h)) rfl (wants0 rfl) rfl rfl ?_
  refine T.leave (.dPure (i := 29) rfl (by kernel_rfl) (fun d _ _ _ _ h => by cases d <;> exact h)) (wantsNot rfl rfl rfl rfl) rfl ?_
  refine T.leave (.dPure (i := 30) rfl (by kernel_rfl) (fun d _ _ _ _ h => by cases d <;> exact h)) (wantsNot rfl rfl rfl rfl) rfl ?_
  refine T.leave (.dPure (i := 31) rfl (by kernel_rfl) (fun d _ _ _ _ h => by cases d <;> exact h)) (wantsNot rfl rfl rfl rfl) rfl ?_
  refine T.pickF (.dPure (i := 32) rfl (by kernel_rfl) (fun d _ _ _ _ h => by cases d <;> exact h)) rfl (wants0 rfl) rfl rfl rfl rfl ?_
  refine T.move (.dPure (i := 33) rfl (by kernel_rfl) (fun d _ _ _ _ h => by cases d <;> exact h)) rfl (wants0 rfl) rfl rfl ?_
  refine T.leave (.dPure (i := 34) rfl (by kernel_rfl) (fun d _ _ _ _ h => by cases d <;> exact h)) (wantsNot rfl rfl rfl rfl) rfl ?_
  refine T.pickF (.dPure (i := 35) rfl (by kernel_rfl) (fun d _ _ _ _ h => by cases d <;> exact h)) rfl (wants0 rfl) rfl rfl rfl rfl ?_
  refine T.move (.dPure (i := 36) rfl (by kernel_rfl) (fun d _ _ _ _ h => by cases d <;> exact h)) rfl (wants0 rfl) rfl rfl ?_
  refine T.leave (.dPure (i := 37) rfl (by kernel_rfl) (fun d _ _ _ _ h => by cases d <;> exact h)) (wantsNot rfl rfl rfl rfl) rfl ?_
  refine T.leave (.dPure (i := 38) rfl (by kernel_rfl) (fun d _ _ _ _ h => by cases d <;> exact h)) (wantsNot rfl rfl rfl rfl) rfl ?_
  refine T.pickF (.dPure (i := 39) rfl (by kernel_rfl) (fun d _ _ _ _ h => by cases d <;> exact h)) rfl (wants0 rfl) rfl rfl rfl rfl ?_
  refine T.move (.dPure (i := 40) rfl (by kernel_rfl) (fun d _ _ _ _ h => by cases d <;> exact h)) rfl (wants0 rfl) rfl rfl ?_
  refine T.leave (.dPure (i := 41) rfl (by kernel_rfl) (fun d _ _ _ _ h => by cases d <;> exact h)) (wantsNot rfl rfl rfl rfl) rfl ?_
  refine T.leave (.dPure (i := 42) rfl (by kernel_rfl) (fun d _ _ _ _ h => by cases d <;> exact h)) (wantsNot rfl rfl rfl rfl) rfl ?_
  refine T.leave (.dPure (i := 43) rfl (by kernel_rfl) (fun d _ _ _ _ h => by cases d <;> exact h)) (wantsNot rfl rfl rfl rfl) rfl ?_
  refine T.pickF (.dPure (i := 44) rfl (by kernel_rfl) (fun d _ _ _ _ h => by cases d <;> exact h)) rfl (wants0 rfl) rfl rfl rfl rfl ?_
  refine T.assign (.dPure (i := 45) rfl (by kernel_rfl) (fun d _ _ _ _ h => by cases d <;> exact h)) rfl (wants0 rfl) rfl rfl ?_
  refine T.dDone (by kernel_rfl) ?_
  refine T.then_normal ?_
  refine T.ret ?_
  obtain rfl := inv_some hr
  refine T.pick [] 8 rfl rfl (Nat.le_add_left _ _) rfl ?_
  refine T.ret1 rfl rfl (fun w hS => ⟨(), rfl, hS⟩)
end Go.Proofs.YtdfbknkgmhddcaaDoor
