/- EntryE: what the functions compute, and that the program computes it; printed by a program of ours. -/
import Derived.Test.YtpogdeibkghhaaaDoorEntry
import Derived.Test.YtpogdeibkghhaaaDoorCks
import Derived.Test.YtpogdeibkghhaaaDoorEnc
set_option linter.unusedVariables false
set_option linter.unusedSimpArgs false
namespace Go.Proofs.YtpogdeibkghhaaaDoor
open Go.RowKit
noncomputable def entry_bounds.k1 (a0 : Int) (s1 : Bool) : Option (Int × Int × Bool) :=
  (if s1 = true then some (0, 2147483647, true) else (if ((decide (a0 = 3))) = true then some (1, 1048576, true) else (if ((decide (a0 = 5))) = true then some (1, 2, true) else some (0, 0, false))))
noncomputable def entry_bounds.impl (a0 : Int) : Option (Int × Int × Bool) :=
  (if ((decide (a0 = 1))) = true then some (0, 0, true) else (if ((decide (a0 = 2))) = true then entry_bounds.k1 a0 (decide (a0 = 2)) else entry_bounds.k1 a0 (decide (a0 = 4))))
set_option maxRecDepth 100000 in
set_option maxHeartbeats 4000000 in
theorem entry_bounds.c {B : World} {hs : List MP} {w : World} {a0 : Int} (hB : Base B) (hS : St B hs w) {r : Int × Int × Bool} (hr : entry_bounds.impl a0 = some r) :
    Calls Tryd.prog 30 #[.int .i64 a0] w fun e w' => ∃ x : Unit, e = .returned (.tuple #[.int .i64 r.1, .int .i64 r.2.1, .bool r.2.2]) ∧ St B hs w' := by
 unfold entry_bounds.impl at hr
 refine calls_T Tryd.func30 rfl rfl rfl hS ?_
 refine T.seq ?_
 refine T.region ?_
 refine T.assign .list rfl (wants0 rfl) rfl rfl ?_
 refine T.assign .list rfl (wants0 rfl) rfl rfl ?_
 refine T.assign .list rfl (wants0 rfl) rfl rfl ?_
 refine T.nil ?_
 refine T.then_normal ?_
 refine T.seq ?_
 refine T.seq ?_
 refine T.region ?_
 refine T.move .list rfl (wants0 rfl) rfl rfl ?_
 refine T.nil ?_
 refine T.then_normal ?_
 refine T.block ?_
 refine T.seq ?_
 refine T.region ?_
 refine T.bin .list rfl (wants0 rfl) rfl rfl rfl rfl ?_
 refine T.assign .list rfl (wants0 rfl) rfl rfl ?_
 refine T.nil ?_
 refine T.then_normal ?_
 refine T.cond rfl (fun hb1 => ?_) (fun hb1 => ?_)
 ·replace hr := inv_posB hb1 hr
  refine T.seq ?_
  refine T.region ?_
  refine T.assign .list rfl (wants0 rfl) rfl rfl ?_
  refine T.assign .list rfl (wants0 rfl) rfl rfl ?_
  refine T.assign .list rfl (wants0 rfl) rfl rfl ?_
  refine T.nil ?_
  refine T.then_normal ?_
  refine T.ret ?_
  refine T.in_ret ?_
  refine T.then_ret ?_
  obtain rfl := inv_some hr
  refine T.pick [] 0 rfl rfl nla rfl ?_
  refine T.ret3 rfl rfl rfl rfl (fun w hS => ⟨(), rfl, hS⟩)
 ·replace hr := inv_negB hb1 hr
  refine T.seqJ (fun (s1 : Bool) (x1 : Unit) => [(5, .int .i64 a0), (8, .bool s1)]) (fun s1 x1 => hs) (fun s1 => entry_bounds.k1 a0 s1 = some r) (fun s1 x1 hk1 => ?_) (fun J1 => ?_)
  ·unfold entry_bounds.k1 at hk1
   refine T.cond rfl (fun hb2 => ?_) (fun hb2 => ?_)
   ·replace hk1 := inv_posB hb2 hk1
    refine T.seq ?_
    refine T.region ?_
    refine T.assign .list rfl (wants0 rfl) rfl rfl ?_
    refine T.assign .list rfl (wants0 rfl) rfl rfl ?_
    refine T.assign .list rfl (wants0 rfl) rfl rfl ?_
    refine T.nil ?_
    refine T.then_normal ?_
    refine T.ret ?_
    refine T.in_ret ?_
    refine T.then_ret ?_
    obtain rfl := inv_some hk1
    refine T.pick [] 0 rfl rfl nla rfl ?_
    refine T.ret3 rfl rfl rfl rfl (fun w hS => ⟨(), rfl, hS⟩)
   ·replace hk1 := inv_negB hb2 hk1
    refine T.seq ?_
    refine T.region ?_
    refine T.bin .list rfl (wants0 rfl) rfl rfl rfl rfl ?_
    refine T.assign .list rfl (wants0 rfl) rfl rfl ?_
    refine T.nil ?_
    refine T.then_normal ?_
    refine T.cond rfl (fun hb3 => ?_) (fun hb3 => ?_)
    ·replace hk1 := inv_posB hb3 hk1
     refine T.seq ?_
     refine T.region ?_
     refine T.assign .list rfl (wants0 rfl) rfl rfl ?_
     refine T.assign .list rfl (wants0 rfl) rfl rfl ?_
     refine T.assign .list rfl (wants0 rfl) rfl rfl ?_
     refine T.nil ?_
     refine T.then_normal ?_
     refine T.ret ?_
     refine T.in_ret ?_
     refine T.then_ret ?_
     obtain rfl := inv_some hk1
     refine T.pick [] 0 rfl rfl nla rfl ?_
     refine T.ret3 rfl rfl rfl rfl (fun w hS => ⟨(), rfl, hS⟩)
    ·replace hk1 := inv_negB hb3 hk1
     refine T.seq ?_
     refine T.region ?_
     refine T.bin .list rfl (wants0 rfl) rfl rfl rfl rfl ?_
     refine T.assign .list rfl (wants0 rfl) rfl rfl ?_
     refine T.nil ?_
     refine T.then_normal ?_
     refine T.cond rfl (fun hb4 => ?_) (fun hb4 => ?_)
     ·replace hk1 := inv_posB hb4 hk1
      refine T.seq ?_
      refine T.region ?_
      refine T.assign .list rfl (wants0 rfl) rfl rfl ?_
      refine T.assign .list rfl (wants0 rfl) rfl rfl ?_
      refine T.assign .list rfl (wants0 rfl) rfl rfl ?_
      refine T.nil ?_
      refine T.then_normal ?_
      refine T.ret ?_
      refine T.in_ret ?_
      refine T.then_ret ?_
      obtain rfl := inv_some hk1
      refine T.pick [] 0 rfl rfl nla rfl ?_
      refine T.ret3 rfl rfl rfl rfl (fun w hS => ⟨(), rfl, hS⟩)
     ·replace hk1 := inv_negB hb4 hk1
      refine T.skip ?_
      refine T.in_normal ?_
      refine T.then_normal ?_
      refine T.seq ?_
      refine T.region ?_
      refine T.assign .list rfl (wants0 rfl) rfl rfl ?_
      refine T.assign .list rfl (wants0 rfl) rfl rfl ?_
      refine T.assign .list rfl (wants0 rfl) rfl rfl ?_
      refine T.nil ?_
      refine T.then_normal ?_
      refine T.ret ?_
      obtain rfl := inv_some hk1
      refine T.pick [] 0 rfl rfl nla rfl ?_
      refine T.ret3 rfl rfl rfl rfl (fun w hS => ⟨(), rfl, hS⟩)
  ·refine T.seq ?_
   refine T.region ?_
   refine T.bin .list rfl (wants0 rfl) rfl rfl rfl rfl ?_
   refine T.assign .list rfl (wants0 rfl) rfl rfl ?_
   refine T.nil ?_
   refine T.then_normal ?_
   refine T.cond rfl (fun hb5 => ?_) (fun hb5 => ?_)
   ·replace hr := inv_posB hb5 hr
    refine T.skip ?_
    refine T.then_normal ?_
    exact T.le (EnvLe.cons rfl (EnvLe.cons rfl EnvLe.nil)) (T.pick [] 0 rfl rfl nla rfl (J1 (decide (a0 = 2)) () hr))
   ·replace hr := inv_negB hb5 hr
    refine T.region ?_
    refine T.bin .list rfl (wants0 rfl) rfl rfl rfl rfl ?_
    refine T.assign .list rfl (wants0 rfl) rfl rfl ?_
    refine T.nil ?_
    refine T.then_normal ?_
    exact T.le (EnvLe.cons rfl (EnvLe.cons rfl EnvLe.nil)) (T.pick [] 0 rfl rfl nla rfl (J1 (decide (a0 = 4)) () hr))

noncomputable def slices_IndexFunc_api_Command_api_Command__entry_Right_1.k1 (s1 : Unit) : Option Int :=
  some (-1)
noncomputable def slices_IndexFunc_api_Command_api_Command__entry_Right_1.st1 (l0 : List (Int × Int × (List (Int × (List UInt8) × ((List UInt8) × (List ((List UInt8) × Int × Int)) × (List (Int × Bool))) × (List (Int × Int × (List UInt8))) × (Int × Int × (List UInt8)) × Int × (Int × Int × (List UInt8)) × (Int × Int × (List UInt8)) × Int)))) (s2 : Unit) : Option (Unit ⊕ Unit) :=
  (if ((decide ((0 : Int) < ((l0.length : Int))))) = true then none else some (.inr ()))
noncomputable def slices_IndexFunc_api_Command_api_Command__entry_Right_1.impl (l0 : List (Int × Int × (List (Int × (List UInt8) × ((List UInt8) × (List ((List UInt8) × Int × Int)) × (List (Int × Bool))) × (List (Int × Int × (List UInt8))) × (Int × Int × (List UInt8)) × Int × (Int × Int × (List UInt8)) × (Int × Int × (List UInt8)) × Int)))) : Option Int :=
  (loop (slices_IndexFunc_api_Command_api_Command__entry_Right_1.st1 l0) ()).bind (fun e1 => slices_IndexFunc_api_Command_api_Command__entry_Right_1.k1 e1)
set_option maxRecDepth 100000 in
set_option maxHeartbeats 4000000 in
theorem slices_IndexFunc_api_Command_api_Command__entry_Right_1.c {B : World} {hs : List MP} {w : World} {i0 c0 : Nat} {A0 : Option Addr} {l0 : List (Int × Int × (List (Int × (List UInt8) × ((List UInt8) × (List ((List UInt8) × Int × Int)) × (List (Int × Bool))) × (List (Int × Int × (List UInt8))) × (Int × Int × (List UInt8)) × Int × (Int × Int × (List UInt8)) × (Int × Int × (List UInt8)) × Int)))} (hB : Base B) (hS : St B hs w) (h0 : (hs)[i0]? = some (Ro (Elt.pair E64 (Elt.pair E64 (Elt.slice (Elt.pair E64 (Elt.pair EStr (Elt.pair (Elt.pair EStr (Elt.pair (Elt.slice (Elt.pair EStr (Elt.pair E64 E64))) (Elt.slice (Elt.pair E64 EBool)))) (Elt.pair (Elt.slice (Elt.pair E64 (Elt.pair E64 EStr))) (Elt.pair (Elt.pair E64 (Elt.pair E64 EStr)) (Elt.pair E64 (Elt.pair (Elt.pair E64 (Elt.pair E64 EStr)) (Elt.pair (Elt.pair E64 (Elt.pair E64 EStr)) E64))))))))))) A0 c0 l0)) {r : Int} (hr : slices_IndexFunc_api_Command_api_Command__entry_Right_1.impl l0 = some r) :
    Calls Tryd.prog 54 #[.slice A0 l0.length c0, .func (.func 32) #[] #[]] w fun e w' => ∃ x : Unit, e = .returned (.int .i64 r) ∧ St B hs w' := by
 unfold slices_IndexFunc_api_Command_api_Command__entry_Right_1.impl at hr
 refine calls_T Tryd.func54 rfl rfl rfl hS ?_
 refine T.front i0 h0 ?_
 refine T.seq ?_
 refine T.region ?_
 refine T.assign .list rfl (wants0 rfl) rfl rfl ?_
 refine T.nil ?_
 refine T.then_normal ?_
 refine T.seqJ (fun (s1 : Unit) (x1 : Unit) => []) (fun s1 x1 => hs) (fun s1 => slices_IndexFunc_api_Command_api_Command__entry_Right_1.k1 s1 = some r) (fun s1 x1 hk1 => ?_) (fun J1 => ?_)
 ·unfold slices_IndexFunc_api_Command_api_Command__entry_Right_1.k1 at hk1
  refine T.seq ?_
  refine T.region ?_
  refine T.assign .list rfl (wants0 rfl) rfl rfl ?_
  refine T.nil ?_
  refine T.then_normal ?_
  refine T.ret ?_
  obtain rfl := inv_some hk1
  refine T.pick [] 0 rfl rfl nla rfl ?_
  refine T.ret1 rfl rfl (fun w hS => ⟨(), rfl, hS⟩)
 ·refine T.seq ?_
  refine T.region ?_
  refine T.move .list rfl (wants0 rfl) rfl rfl ?_
  refine T.lenSlice .list rfl (wants0 rfl) rfl rfl ?_
  refine T.move .list rfl (wants0 rfl) rfl rfl ?_
  refine T.nil ?_
  refine T.then_normal ?_
  refine T.block ?_
  obtain ⟨e1, hl1, hr⟩ := inv_bind hr
  refine T.le (EnvLe.cons rfl (EnvLe.cons rfl (EnvLe.cons rfl (EnvLe.cons rfl EnvLe.nil)))) (T.pick [0] 1 rfl rfl nla rfl (T.loop (s0 := ()) (env := fun s2 x2 => [(0, .slice A0 l0.length c0), (1, .func (.func 32) #[] #[]), (7, .int .i64 ((l0.length : Int))), (8, .int .i64 0)]) (hs := fun (s2 : Unit) (x2 : Unit) => Ro (Elt.pair E64 (Elt.pair E64 (Elt.slice (Elt.pair E64 (Elt.pair EStr (Elt.pair (Elt.pair EStr (Elt.pair (Elt.slice (Elt.pair EStr (Elt.pair E64 E64))) (Elt.slice (Elt.pair E64 EBool)))) (Elt.pair (Elt.slice (Elt.pair E64 (Elt.pair E64 EStr))) (Elt.pair (Elt.pair E64 (Elt.pair E64 EStr)) (Elt.pair E64 (Elt.pair (Elt.pair E64 (Elt.pair E64 EStr)) (Elt.pair (Elt.pair E64 (Elt.pair E64 EStr)) E64))))))))))) A0 c0 l0 :: hs) hl1 () (fun K1 s2 x2 o1 he1 hm1 hx1 => ?_)))
  unfold slices_IndexFunc_api_Command_api_Command__entry_Right_1.st1 at he1
  refine T.seq ?_
  refine T.region ?_
  refine T.bin .list rfl (wants0 rfl) rfl rfl rfl rfl ?_
  refine T.nil ?_
  refine T.then_normal ?_
  refine T.seq ?_
  refine T.cond rfl (fun hb1 => ?_) (fun hb1 => ?_)
  ·replace he1 := inv_posB hb1 he1
   cases he1
  ·replace he1 := inv_negB hb1 he1
   refine T.exit ?_
   refine T.then_exit ?_
   refine T.then_exit ?_
   obtain rfl := inv_some he1
   obtain rfl := hx1 _ rfl
   refine T.in_hit ?_
   refine T.then_normal ?_
   exact T.le EnvLe.nil (T.pick [] 1 rfl rfl nla rfl (J1 () () hr))

noncomputable def slices_ContainsFunc_api_Command_api_Command__entry_Right_1.impl (l0 : List (Int × Int × (List (Int × (List UInt8) × ((List UInt8) × (List ((List UInt8) × Int × Int)) × (List (Int × Bool))) × (List (Int × Int × (List UInt8))) × (Int × Int × (List UInt8)) × Int × (Int × Int × (List UInt8)) × (Int × Int × (List UInt8)) × Int)))) : Option Bool :=
  (slices_IndexFunc_api_Command_api_Command__entry_Right_1.impl l0).bind fun r1 => some (decide ((0 : Int) ≤ r1))
set_option maxRecDepth 100000 in
set_option maxHeartbeats 4000000 in
theorem slices_ContainsFunc_api_Command_api_Command__entry_Right_1.c {B : World} {hs : List MP} {w : World} {i0 c0 : Nat} {A0 : Option Addr} {l0 : List (Int × Int × (List (Int × (List UInt8) × ((List UInt8) × (List ((List UInt8) × Int × Int)) × (List (Int × Bool))) × (List (Int × Int × (List UInt8))) × (Int × Int × (List UInt8)) × Int × (Int × Int × (List UInt8)) × (Int × Int × (List UInt8)) × Int)))} (hB : Base B) (hS : St B hs w) (h0 : (hs)[i0]? = some (Ro (Elt.pair E64 (Elt.pair E64 (Elt.slice (Elt.pair E64 (Elt.pair EStr (Elt.pair (Elt.pair EStr (Elt.pair (Elt.slice (Elt.pair EStr (Elt.pair E64 E64))) (Elt.slice (Elt.pair E64 EBool)))) (Elt.pair (Elt.slice (Elt.pair E64 (Elt.pair E64 EStr))) (Elt.pair (Elt.pair E64 (Elt.pair E64 EStr)) (Elt.pair E64 (Elt.pair (Elt.pair E64 (Elt.pair E64 EStr)) (Elt.pair (Elt.pair E64 (Elt.pair E64 EStr)) E64))))))))))) A0 c0 l0)) {r : Bool} (hr : slices_ContainsFunc_api_Command_api_Command__entry_Right_1.impl l0 = some r) :
    Calls Tryd.prog 31 #[.slice A0 l0.length c0, .func (.func 32) #[] #[]] w fun e w' => ∃ x : Unit, e = .returned (.bool r) ∧ St B hs w' := by
 unfold slices_ContainsFunc_api_Command_api_Command__entry_Right_1.impl at hr
 refine calls_T Tryd.func31 rfl rfl rfl hS ?_
 refine T.front i0 h0 ?_
 refine T.seq ?_
 refine T.region ?_
 refine T.assign .list rfl (wants0 rfl) rfl rfl ?_
 refine T.nil ?_
 refine T.then_normal ?_
 refine T.seq ?_
 refine T.region ?_
 refine T.move .list rfl (wants0 rfl) rfl rfl ?_
 refine T.move .list rfl (wants0 rfl) rfl rfl ?_
 obtain ⟨r1, hg1, hr⟩ := inv_bind hr
 refine T.call .list (wants0 rfl) rfl (run_callF (vs := [_, _]) rfl Tryd.func54 rfl (by decide) rfl) (fun w hS => slices_IndexFunc_api_Command_api_Command__entry_Right_1.c hB hS (i0 := 0) rfl hg1) (fun x1 => ?_)
 refine T.bin .list rfl (wants0 rfl) rfl rfl rfl rfl ?_
 refine T.assign .list rfl (wants0 rfl) rfl rfl ?_
 refine T.nil ?_
 refine T.then_normal ?_
 refine T.ret ?_
 obtain rfl := inv_some hr
 refine T.pick [] 1 rfl rfl nla rfl ?_
 refine T.ret1 rfl rfl (fun w hS => ⟨(), rfl, hS⟩)

noncomputable def entry_Right.k1 (a0 : Int × Int × (List (Int × Int × (List (Int × (List UInt8) × ((List UInt8) × (List ((List UInt8) × Int × Int)) × (List (Int × Bool))) × (List (Int × Int × (List UInt8))) × (Int × Int × (List UInt8)) × Int × (Int × Int × (List UInt8)) × (Int × Int × (List UInt8)) × Int)))) × Int) (s1 : Bool) : Option Bool :=
  (if s1 = true then some false else (if ((!(decide (a0.1 = 1)))) = true then some (decide ((((a0.2.2.1.length : Int))) = 0)) else (if ((decide ((1 : Int) ≤ ((a0.2.2.1.length : Int))))) = true then (if ((decide ((((a0.2.2.1.length : Int))) ≤ 3))) = true then (slices_ContainsFunc_api_Command_api_Command__entry_Right_1.impl a0.2.2.1).bind fun r2 => some (!r2) else some false) else some false)))
noncomputable def entry_Right.impl (a0 : Int × Int × (List (Int × Int × (List (Int × (List UInt8) × ((List UInt8) × (List ((List UInt8) × Int × Int)) × (List (Int × Bool))) × (List (Int × Int × (List UInt8))) × (Int × Int × (List UInt8)) × Int × (Int × Int × (List UInt8)) × (Int × Int × (List UInt8)) × Int)))) × Int) : Option Bool :=
  (entry_bounds.impl a0.1).bind fun r1 => (if r1.2.2 = true then (if ((decide (a0.2.1 < 0))) = true then entry_Right.k1 a0 true else (if ((decide ((4 : Int) ≤ a0.2.1))) = true then entry_Right.k1 a0 true else (if ((decide (a0.2.2.2 < r1.1))) = true then entry_Right.k1 a0 true else entry_Right.k1 a0 (decide (r1.2.1 < a0.2.2.2))))) else entry_Right.k1 a0 true)
set_option maxRecDepth 100000 in
set_option maxHeartbeats 4000000 in
theorem entry_Right.c {B : World} {hs : List MP} {w : World} {a0 : Int × Int × (List (Int × Int × (List (Int × (List UInt8) × ((List UInt8) × (List ((List UInt8) × Int × Int)) × (List (Int × Bool))) × (List (Int × Int × (List UInt8))) × (Int × Int × (List UInt8)) × Int × (Int × Int × (List UInt8)) × (Int × Int × (List UInt8)) × Int)))) × Int} {i0a c0a : Nat} {A0a : Option Addr} (hB : Base B) (hS : St B hs w) (h0a : (hs)[i0a]? = some (Ro (Elt.pair E64 (Elt.pair E64 (Elt.slice (Elt.pair E64 (Elt.pair EStr (Elt.pair (Elt.pair EStr (Elt.pair (Elt.slice (Elt.pair EStr (Elt.pair E64 E64))) (Elt.slice (Elt.pair E64 EBool)))) (Elt.pair (Elt.slice (Elt.pair E64 (Elt.pair E64 EStr))) (Elt.pair (Elt.pair E64 (Elt.pair E64 EStr)) (Elt.pair E64 (Elt.pair (Elt.pair E64 (Elt.pair E64 EStr)) (Elt.pair (Elt.pair E64 (Elt.pair E64 EStr)) E64))))))))))) A0a c0a a0.2.2.1)) {r : Bool} (hr : entry_Right.impl a0 = some r) :
    Calls Tryd.prog 13 #[.agg #[.int .i64 a0.1, .int .i64 a0.2.1, .slice A0a a0.2.2.1.length c0a, .int .i64 a0.2.2.2]] w fun e w' => ∃ x : Unit, e = .returned (.bool r) ∧ St B hs w' := by
 unfold entry_Right.impl at hr
 refine calls_T Tryd.func13 rfl rfl rfl hS ?_
 refine T.front i0a h0a ?_
 refine T.seq ?_
 refine T.region ?_
 refine T.boxS .list rfl (wants0 rfl) rfl rfl (cs := [.int .i64 a0.1, .int .i64 a0.2.1, .slice A0a a0.2.2.1.length c0a, .int .i64 a0.2.2.2]) rfl (fun b1 => ?_)
 refine T.assign .list rfl (wants0 rfl) rfl rfl ?_
 refine T.nil ?_
 refine T.then_normal ?_
 refine T.seq ?_
 refine T.region ?_
 refine T.field .list rfl (wants0 rfl) rfl rfl ?_
 refine T.load .list 0 rfl rfl (wants0 rfl) rfl rfl rfl ?_
 obtain ⟨r1, hg1, hr⟩ := inv_bind hr
 refine T.call .list (wants0 rfl) rfl (run_callF (vs := [_]) rfl Tryd.func30 rfl (by decide) rfl) (fun w hS => entry_bounds.c hB hS  hg1) (fun x1 => ?_)
 refine T.move .list rfl (wants0 rfl) rfl rfl ?_
 refine T.extract .list rfl (wants0 rfl) rfl rfl rfl ?_
 refine T.extract .list rfl (wants0 rfl) rfl rfl rfl ?_
 refine T.extract .list rfl (wants0 rfl) rfl rfl rfl ?_
 refine T.assign .list rfl (wants0 rfl) rfl rfl ?_
 refine T.assign .list rfl (wants0 rfl) rfl rfl ?_
 refine T.assign .list rfl (wants0 rfl) rfl rfl ?_
 refine T.nil ?_
 refine T.then_normal ?_
 refine T.seq ?_
 refine T.seqJ (fun (s1 : Bool) (x2 : Unit) => [(1, .pointer (some ⟨b1, 0, none⟩)), (36, .bool s1)]) (fun s1 x2 => Cl b1 36 [.int .i64 a0.1, .int .i64 a0.2.1, .slice A0a a0.2.2.1.length c0a, .int .i64 a0.2.2.2] :: Ro (Elt.pair E64 (Elt.pair E64 (Elt.slice (Elt.pair E64 (Elt.pair EStr (Elt.pair (Elt.pair EStr (Elt.pair (Elt.slice (Elt.pair EStr (Elt.pair E64 E64))) (Elt.slice (Elt.pair E64 EBool)))) (Elt.pair (Elt.slice (Elt.pair E64 (Elt.pair E64 EStr))) (Elt.pair (Elt.pair E64 (Elt.pair E64 EStr)) (Elt.pair E64 (Elt.pair (Elt.pair E64 (Elt.pair E64 EStr)) (Elt.pair (Elt.pair E64 (Elt.pair E64 EStr)) E64))))))))))) A0a c0a a0.2.2.1 :: hs) (fun s1 => entry_Right.k1 a0 s1 = some r) (fun s1 x2 hk1 => ?_) (fun J1 => ?_)
 ·unfold entry_Right.k1 at hk1
  refine T.cond rfl (fun hb1 => ?_) (fun hb1 => ?_)
  ·replace hk1 := inv_posB hb1 hk1
   refine T.seq ?_
   refine T.region ?_
   refine T.assign .list rfl (wants0 rfl) rfl rfl ?_
   refine T.nil ?_
   refine T.then_normal ?_
   refine T.ret ?_
   refine T.then_ret ?_
   obtain rfl := inv_some hk1
   refine T.pick [] 2 rfl rfl nla rfl ?_
   refine T.ret1 rfl rfl (fun w hS => ⟨(), rfl, hS⟩)
  ·replace hk1 := inv_negB hb1 hk1
   refine T.skip ?_
   refine T.then_normal ?_
   refine T.seq ?_
   refine T.seq ?_
   refine T.region ?_
   refine T.field .list rfl (wants0 rfl) rfl rfl ?_
   refine T.load .list 0 rfl rfl (wants0 rfl) rfl rfl rfl ?_
   refine T.bin .list rfl (wants0 rfl) rfl rfl rfl rfl ?_
   refine T.nil ?_
   refine T.then_normal ?_
   refine T.cond rfl (fun hb2 => ?_) (fun hb2 => ?_)
   ·replace hk1 := inv_posB hb2 hk1
    refine T.seq ?_
    refine T.region ?_
    refine T.field .list rfl (wants0 rfl) rfl rfl ?_
    refine T.load .list 0 rfl rfl (wants0 rfl) rfl rfl rfl ?_
    refine T.lenSlice .list rfl (wants0 rfl) rfl rfl ?_
    refine T.bin .list rfl (wants0 rfl) rfl rfl rfl rfl ?_
    refine T.assign .list rfl (wants0 rfl) rfl rfl ?_
    refine T.nil ?_
    refine T.then_normal ?_
    refine T.ret ?_
    refine T.then_ret ?_
    obtain rfl := inv_some hk1
    refine T.pick [] 2 rfl rfl nla rfl ?_
    refine T.ret1 rfl rfl (fun w hS => ⟨(), rfl, hS⟩)
   ·replace hk1 := inv_negB hb2 hk1
    refine T.skip ?_
    refine T.then_normal ?_
    refine T.seq ?_
    refine T.region ?_
    refine T.field .list rfl (wants0 rfl) rfl rfl ?_
    refine T.load .list 0 rfl rfl (wants0 rfl) rfl rfl rfl ?_
    refine T.lenSlice .list rfl (wants0 rfl) rfl rfl ?_
    refine T.bin .list rfl (wants0 rfl) rfl rfl rfl rfl ?_
    refine T.move .list rfl (wants0 rfl) rfl rfl ?_
    refine T.bool (b := (decide ((1 : Int) ≤ ((a0.2.2.1.length : Int))))) (fun hb3 => ?_) (fun hb3 => ?_)
    ·replace hk1 := inv_posB hb3 hk1
     refine T.field .list rfl (wants1 rfl rfl rfl hb3) rfl rfl ?_
     refine T.load .list 0 rfl rfl (wants1 rfl rfl rfl hb3) rfl rfl rfl ?_
     refine T.lenSlice .list rfl (wants1 rfl rfl rfl hb3) rfl rfl ?_
     refine T.bin .list rfl (wants1 rfl rfl rfl hb3) rfl rfl rfl rfl ?_
     refine T.pickT .list rfl (wants0 rfl) rfl rfl hb3 rfl ?_
     refine T.move .list rfl (wants0 rfl) rfl rfl ?_
     refine T.bool (b := (decide ((((a0.2.2.1.length : Int))) ≤ 3))) (fun hb4 => ?_) (fun hb4 => ?_)
     ·replace hk1 := inv_posB hb4 hk1
      refine T.field .list rfl (wants1 rfl rfl rfl hb4) rfl rfl ?_
      refine T.load .list 0 rfl rfl (wants1 rfl rfl rfl hb4) rfl rfl rfl ?_
      obtain ⟨r2, hg2, hk1⟩ := inv_bind hk1
      refine T.call .list (wants1 rfl rfl rfl hb4) rfl (run_callF (vs := [_, _]) rfl Tryd.func31 rfl (by decide) rfl) (fun w hS => slices_ContainsFunc_api_Command_api_Command__entry_Right_1.c hB hS (i0 := 1) rfl hg2) (fun x3 => ?_)
      refine T.not .list rfl (wants1 rfl rfl rfl hb4) rfl rfl ?_
      refine T.pickT .list rfl (wants0 rfl) rfl rfl hb4 rfl ?_
      refine T.assign .list rfl (wants0 rfl) rfl rfl ?_
      refine T.nil ?_
      refine T.then_normal ?_
      refine T.ret ?_
      obtain rfl := inv_some hk1
      refine T.pick [] 2 rfl rfl nla rfl ?_
      refine T.ret1 rfl rfl (fun w hS => ⟨(), rfl, hS⟩)
     ·replace hk1 := inv_negB hb4 hk1
      refine T.leave .list (wantsNot rfl rfl rfl hb4) rfl ?_
      refine T.leave .list (wantsNot rfl rfl rfl hb4) rfl ?_
      refine T.leave .list (wantsNot rfl rfl rfl hb4) rfl ?_
      refine T.leave .list (wantsNot rfl rfl rfl hb4) rfl ?_
      refine T.pickF .list rfl (wants0 rfl) rfl rfl hb4 rfl ?_
      refine T.assign .list rfl (wants0 rfl) rfl rfl ?_
      refine T.nil ?_
      refine T.then_normal ?_
      refine T.ret ?_
      obtain rfl := inv_some hk1
      refine T.pick [] 2 rfl rfl nla rfl ?_
      refine T.ret1 rfl rfl (fun w hS => ⟨(), rfl, hS⟩)
    ·replace hk1 := inv_negB hb3 hk1
     refine T.leave .list (wantsNot rfl rfl rfl hb3) rfl ?_
     refine T.leave .list (wantsNot rfl rfl rfl hb3) rfl ?_
     refine T.leave .list (wantsNot rfl rfl rfl hb3) rfl ?_
     refine T.leave .list (wantsNot rfl rfl rfl hb3) rfl ?_
     refine T.pickF .list rfl (wants0 rfl) rfl rfl hb3 rfl ?_
     refine T.move .list rfl (wants0 rfl) rfl rfl ?_
     refine T.leave .list (wantsNot rfl rfl rfl rfl) rfl ?_
     refine T.leave .list (wantsNot rfl rfl rfl rfl) rfl ?_
     refine T.leave .list (wantsNot rfl rfl rfl rfl) rfl ?_
     refine T.leave .list (wantsNot rfl rfl rfl rfl) rfl ?_
     refine T.pickF .list rfl (wants0 rfl) rfl rfl rfl rfl ?_
     refine T.assign .list rfl (wants0 rfl) rfl rfl ?_
     refine T.nil ?_
     refine T.then_normal ?_
     refine T.ret ?_
     obtain rfl := inv_some hk1
     refine T.pick [] 2 rfl rfl nla rfl ?_
     refine T.ret1 rfl rfl (fun w hS => ⟨(), rfl, hS⟩)
 ·refine T.region ?_
  refine T.move .list rfl (wants0 rfl) rfl rfl ?_
  refine T.not .list rfl (wants0 rfl) rfl rfl ?_
  refine T.move .list rfl (wants0 rfl) rfl rfl ?_
  refine T.bool (b := r1.2.2) (fun hb5 => ?_) (fun hb5 => ?_)
  ·replace hr := inv_posB hb5 hr
   refine T.field .list rfl (wants1 rfl rfl rfl (not_t hb5)) rfl rfl ?_
   refine T.load .list 0 rfl rfl (wants1 rfl rfl rfl (not_t hb5)) rfl rfl rfl ?_
   refine T.bin .list rfl (wants1 rfl rfl rfl (not_t hb5)) rfl rfl rfl rfl ?_
   refine T.pickF .list rfl (wants0 rfl) rfl rfl (not_t hb5) rfl ?_
   refine T.move .list rfl (wants0 rfl) rfl rfl ?_
   refine T.bool (b := (decide (a0.2.1 < 0))) (fun hb6 => ?_) (fun hb6 => ?_)
   ·replace hr := inv_posB hb6 hr
    refine T.leave .list (wantsNot rfl rfl rfl hb6) rfl ?_
    refine T.leave .list (wantsNot rfl rfl rfl hb6) rfl ?_
    refine T.leave .list (wantsNot rfl rfl rfl hb6) rfl ?_
    refine T.pickT .list rfl (wants0 rfl) rfl rfl hb6 rfl ?_
    refine T.move .list rfl (wants0 rfl) rfl rfl ?_
    refine T.leave .list (wantsNot rfl rfl rfl rfl) rfl ?_
    refine T.leave .list (wantsNot rfl rfl rfl rfl) rfl ?_
    refine T.leave .list (wantsNot rfl rfl rfl rfl) rfl ?_
    refine T.leave .list (wantsNot rfl rfl rfl rfl) rfl ?_
    refine T.pickT .list rfl (wants0 rfl) rfl rfl rfl rfl ?_
    refine T.move .list rfl (wants0 rfl) rfl rfl ?_
    refine T.leave .list (wantsNot rfl rfl rfl rfl) rfl ?_
    refine T.leave .list (wantsNot rfl rfl rfl rfl) rfl ?_
    refine T.leave .list (wantsNot rfl rfl rfl rfl) rfl ?_
    refine T.leave .list (wantsNot rfl rfl rfl rfl) rfl ?_
    refine T.pickT .list rfl (wants0 rfl) rfl rfl rfl rfl ?_
    refine T.nil ?_
    refine T.then_normal ?_
    exact T.le (EnvLe.cons rfl (EnvLe.cons rfl EnvLe.nil)) (T.pick [0, 1] 2 rfl rfl nla rfl (J1 true () hr))
   ·replace hr := inv_negB hb6 hr
    refine T.field .list rfl (wants1 rfl rfl rfl hb6) rfl rfl ?_
    refine T.load .list 0 rfl rfl (wants1 rfl rfl rfl hb6) rfl rfl rfl ?_
    refine T.bin .list rfl (wants1 rfl rfl rfl hb6) rfl rfl rfl rfl ?_
    refine T.pickF .list rfl (wants0 rfl) rfl rfl hb6 rfl ?_
    refine T.move .list rfl (wants0 rfl) rfl rfl ?_
    refine T.bool (b := (decide ((4 : Int) ≤ a0.2.1))) (fun hb7 => ?_) (fun hb7 => ?_)
    ·replace hr := inv_posB hb7 hr
     refine T.leave .list (wantsNot rfl rfl rfl hb7) rfl ?_
     refine T.leave .list (wantsNot rfl rfl rfl hb7) rfl ?_
     refine T.leave .list (wantsNot rfl rfl rfl hb7) rfl ?_
     refine T.leave .list (wantsNot rfl rfl rfl hb7) rfl ?_
     refine T.pickT .list rfl (wants0 rfl) rfl rfl hb7 rfl ?_
     refine T.move .list rfl (wants0 rfl) rfl rfl ?_
     refine T.leave .list (wantsNot rfl rfl rfl rfl) rfl ?_
     refine T.leave .list (wantsNot rfl rfl rfl rfl) rfl ?_
     refine T.leave .list (wantsNot rfl rfl rfl rfl) rfl ?_
     refine T.leave .list (wantsNot rfl rfl rfl rfl) rfl ?_
     refine T.pickT .list rfl (wants0 rfl) rfl rfl rfl rfl ?_
     refine T.nil ?_
     refine T.then_normal ?_
     exact T.le (EnvLe.cons rfl (EnvLe.cons rfl EnvLe.nil)) (T.pick [0, 1] 2 rfl rfl nla rfl (J1 true () hr))
    ·replace hr := inv_negB hb7 hr
     refine T.field .list rfl (wants1 rfl rfl rfl hb7) rfl rfl ?_
     refine T.load .list 0 rfl rfl (wants1 rfl rfl rfl hb7) rfl rfl rfl ?_
     refine T.move .list rfl (wants1 rfl rfl rfl hb7) rfl rfl ?_
     refine T.bin .list rfl (wants1 rfl rfl rfl hb7) rfl rfl rfl rfl ?_
     refine T.pickF .list rfl (wants0 rfl) rfl rfl hb7 rfl ?_
     refine T.move .list rfl (wants0 rfl) rfl rfl ?_
     refine T.bool (b := (decide (a0.2.2.2 < r1.1))) (fun hb8 => ?_) (fun hb8 => ?_)
     ·replace hr := inv_posB hb8 hr
      refine T.leave .list (wantsNot rfl rfl rfl hb8) rfl ?_
      refine T.leave .list (wantsNot rfl rfl rfl hb8) rfl ?_
      refine T.leave .list (wantsNot rfl rfl rfl hb8) rfl ?_
      refine T.leave .list (wantsNot rfl rfl rfl hb8) rfl ?_
      refine T.pickT .list rfl (wants0 rfl) rfl rfl hb8 rfl ?_
      refine T.nil ?_
      refine T.then_normal ?_
      exact T.le (EnvLe.cons rfl (EnvLe.cons rfl EnvLe.nil)) (T.pick [0, 1] 2 rfl rfl nla rfl (J1 true () hr))
     ·replace hr := inv_negB hb8 hr
      refine T.field .list rfl (wants1 rfl rfl rfl hb8) rfl rfl ?_
      refine T.load .list 0 rfl rfl (wants1 rfl rfl rfl hb8) rfl rfl rfl ?_
      refine T.move .list rfl (wants1 rfl rfl rfl hb8) rfl rfl ?_
      refine T.bin .list rfl (wants1 rfl rfl rfl hb8) rfl rfl rfl rfl ?_
      refine T.pickF .list rfl (wants0 rfl) rfl rfl hb8 rfl ?_
      refine T.nil ?_
      refine T.then_normal ?_
      exact T.le (EnvLe.cons rfl (EnvLe.cons rfl EnvLe.nil)) (T.pick [0, 1] 2 rfl rfl nla rfl (J1 (decide (r1.2.1 < a0.2.2.2)) () hr))
  ·replace hr := inv_negB hb5 hr
   refine T.leave .list (wantsNot rfl rfl rfl (not_f hb5)) rfl ?_
   refine T.leave .list (wantsNot rfl rfl rfl (not_f hb5)) rfl ?_
   refine T.leave .list (wantsNot rfl rfl rfl (not_f hb5)) rfl ?_
   refine T.pickT .list rfl (wants0 rfl) rfl rfl (not_f hb5) rfl ?_
   refine T.move .list rfl (wants0 rfl) rfl rfl ?_
   refine T.leave .list (wantsNot rfl rfl rfl rfl) rfl ?_
   refine T.leave .list (wantsNot rfl rfl rfl rfl) rfl ?_
   refine T.leave .list (wantsNot rfl rfl rfl rfl) rfl ?_
   refine T.pickT .list rfl (wants0 rfl) rfl rfl rfl rfl ?_
   refine T.move .list rfl (wants0 rfl) rfl rfl ?_
   refine T.leave .list (wantsNot rfl rfl rfl rfl) rfl ?_
   refine T.leave .list (wantsNot rfl rfl rfl rfl) rfl ?_
   refine T.leave .list (wantsNot rfl rfl rfl rfl) rfl ?_
   refine T.leave .list (wantsNot rfl rfl rfl rfl) rfl ?_
   refine T.pickT .list rfl (wants0 rfl) rfl rfl rfl rfl ?_
   refine T.move .list rfl (wants0 rfl) rfl rfl ?_
   refine T.leave .list (wantsNot rfl rfl rfl rfl) rfl ?_
   refine T.leave .list (wantsNot rfl rfl rfl rfl) rfl ?_
   refine T.leave .list (wantsNot rfl rfl rfl rfl) rfl ?_
   refine T.leave .list (wantsNot rfl rfl rfl rfl) rfl ?_
   refine T.pickT .list rfl (wants0 rfl) rfl rfl rfl rfl ?_
   refine T.nil ?_
   refine T.then_normal ?_
   exact T.le (EnvLe.cons rfl (EnvLe.cons rfl EnvLe.nil)) (T.pick [0, 1] 2 rfl rfl nla rfl (J1 true () hr))

noncomputable def entry_Encode.k2 (s2 : List UInt8) : Option (List UInt8 × Int) :=
  some (s2, 0)
noncomputable def entry_Encode.k3 (s3 : List UInt8 × Int) (s4 : List UInt8) : Option ((List UInt8 × Int) ⊕ (List UInt8)) :=
  some (.inl (s4, IntKind.i64.wrap (s3.2 + 1)))
noncomputable def entry_Encode.st2 (a0 : Int × Int × (List (Int × Int × (List (Int × (List UInt8) × ((List UInt8) × (List ((List UInt8) × Int × Int)) × (List (Int × Bool))) × (List (Int × Int × (List UInt8))) × (Int × Int × (List UInt8)) × Int × (Int × Int × (List UInt8)) × (Int × Int × (List UInt8)) × Int)))) × Int) (s3 : List UInt8 × Int) (r2 : List UInt8) (s5 : Unit) : Option (Unit ⊕ (List UInt8)) :=
  (if ((decide ((0 : Int) < (((((((a0.2.2.1).getD (s3.2 : Int).toNat default)).2.2)).length : Int))))) = true then none else some (.inr (((((s3.1 ++ (([(u8 (IntKind.u8.wrap (((((a0.2.2.1).getD (s3.2 : Int).toNat default)).1))))] : List UInt8)))) ++ r2)) ++ (([(u8 (IntKind.u8.wrap (((((((a0.2.2.1).getD (s3.2 : Int).toNat default)).2.2)).length : Int))))] : List UInt8)))))
noncomputable def entry_Encode.st1 (a0 : Int × Int × (List (Int × Int × (List (Int × (List UInt8) × ((List UInt8) × (List ((List UInt8) × Int × Int)) × (List (Int × Bool))) × (List (Int × Int × (List UInt8))) × (Int × Int × (List UInt8)) × Int × (Int × Int × (List UInt8)) × (Int × Int × (List UInt8)) × Int)))) × Int) (s3 : List UInt8 × Int) : Option ((List UInt8 × Int) ⊕ (List UInt8)) :=
  (if ((decide (s3.2 < ((a0.2.2.1.length : Int))))) = true then chk (0 ≤ s3.2 ∧ s3.2 < (a0.2.2.1.length : Int)) (chk ((s3.1.length + (([(u8 (IntKind.u8.wrap (((((a0.2.2.1).getD (s3.2 : Int).toNat default)).1))))] : List UInt8)).length) * 1 ≤ 140737488355328) ((wire_Uint.impl (((((a0.2.2.1).getD (s3.2 : Int).toNat default)).2.1))).bind fun r2 => chk ((((s3.1 ++ (([(u8 (IntKind.u8.wrap (((((a0.2.2.1).getD (s3.2 : Int).toNat default)).1))))] : List UInt8)))).length + r2.length) * 1 ≤ 140737488355328) (chk ((((((s3.1 ++ (([(u8 (IntKind.u8.wrap (((((a0.2.2.1).getD (s3.2 : Int).toNat default)).1))))] : List UInt8)))) ++ r2)).length + (([(u8 (IntKind.u8.wrap (((((((a0.2.2.1).getD (s3.2 : Int).toNat default)).2.2)).length : Int))))] : List UInt8)).length) * 1 ≤ 140737488355328) ((loop (entry_Encode.st2 a0 s3 r2) ()).bind (fun e2 => entry_Encode.k3 s3 e2))))) else some (.inr s3.1))
noncomputable def entry_Encode.k1 (a0 : Int × Int × (List (Int × Int × (List (Int × (List UInt8) × ((List UInt8) × (List ((List UInt8) × Int × Int)) × (List (Int × Bool))) × (List (Int × Int × (List UInt8))) × (Int × Int × (List UInt8)) × Int × (Int × Int × (List UInt8)) × (Int × Int × (List UInt8)) × Int)))) × Int) (s1 : List UInt8) : Option (List UInt8 × Int) :=
  (loop (entry_Encode.st1 a0) (s1, 0)).bind (fun e1 => entry_Encode.k2 e1)
noncomputable def entry_Encode.impl (a0 : Int × Int × (List (Int × Int × (List (Int × (List UInt8) × ((List UInt8) × (List ((List UInt8) × Int × Int)) × (List (Int × Bool))) × (List (Int × Int × (List UInt8))) × (Int × Int × (List UInt8)) × Int × (Int × Int × (List UInt8)) × (Int × Int × (List UInt8)) × Int)))) × Int) : Option (List UInt8 × Int) :=
  (entry_Right.impl a0).bind fun r1 => (if ((!r1)) = true then some (([] : List UInt8), 1) else (wire_Uint.impl a0.2.2.2).bind fun r3 => chk (((([(u8 (IntKind.u8.wrap a0.1)), (u8 (IntKind.u8.wrap a0.2.1))] : List UInt8)).length + r3.length) * 1 ≤ 140737488355328) (entry_Encode.k1 a0 ((([(u8 (IntKind.u8.wrap a0.1)), (u8 (IntKind.u8.wrap a0.2.1))] : List UInt8)) ++ r3)))
set_option maxRecDepth 100000 in
set_option maxHeartbeats 4000000 in
theorem entry_Encode.c {B : World} {hs : List MP} {w : World} {a0 : Int × Int × (List (Int × Int × (List (Int × (List UInt8) × ((List UInt8) × (List ((List UInt8) × Int × Int)) × (List (Int × Bool))) × (List (Int × Int × (List UInt8))) × (Int × Int × (List UInt8)) × Int × (Int × Int × (List UInt8)) × (Int × Int × (List UInt8)) × Int)))) × Int} {i0a c0a : Nat} {A0a : Option Addr} (hB : Base B) (hS : St B hs w) (h0a : (hs)[i0a]? = some (Ro (Elt.pair E64 (Elt.pair E64 (Elt.slice (Elt.pair E64 (Elt.pair EStr (Elt.pair (Elt.pair EStr (Elt.pair (Elt.slice (Elt.pair EStr (Elt.pair E64 E64))) (Elt.slice (Elt.pair E64 EBool)))) (Elt.pair (Elt.slice (Elt.pair E64 (Elt.pair E64 EStr))) (Elt.pair (Elt.pair E64 (Elt.pair E64 EStr)) (Elt.pair E64 (Elt.pair (Elt.pair E64 (Elt.pair E64 EStr)) (Elt.pair (Elt.pair E64 (Elt.pair E64 EStr)) E64))))))))))) A0a c0a a0.2.2.1)) {r : List UInt8 × Int} (hr : entry_Encode.impl a0 = some r) :
    Calls Tryd.prog 12 #[.agg #[.int .i64 a0.1, .int .i64 a0.2.1, .slice A0a a0.2.2.1.length c0a, .int .i64 a0.2.2.2]] w fun e w' => ∃ x : (Option Addr × Nat), e = .returned (.tuple #[.slice x.1 r.1.length x.2, .int .i64 r.2]) ∧ St B (Bf E8 5 x.1 x.2 r.1 :: hs) w' := by
 unfold entry_Encode.impl at hr
 refine calls_TD Tryd.func12 rfl rfl rfl hS ?_
 refine T.front i0a h0a ?_
 refine T.seq ?_
 refine T.region ?_
 refine T.boxS .list rfl (wants0 rfl) rfl rfl (cs := [.int .i64 a0.1, .int .i64 a0.2.1, .slice A0a a0.2.2.1.length c0a, .int .i64 a0.2.2.2]) rfl (fun b1 => ?_)
 refine T.allocS .list rfl (wants0 rfl) rfl (cs := [.slice none 0 0]) rfl (fun b2 => ?_)
 refine T.allocS .list rfl (wants0 rfl) rfl (cs := [.int .i64 0]) rfl (fun b3 => ?_)
 refine T.nil ?_
 refine T.then_normal ?_
 refine T.seq ?_
 refine T.seq ?_
 refine T.region ?_
 refine T.loadN .list 2 rfl rfl (wants0 rfl) rfl rfl (vs := [.int .i64 a0.1, .int .i64 a0.2.1, .slice A0a a0.2.2.1.length c0a, .int .i64 a0.2.2.2]) rfl rfl ?_
 obtain ⟨r1, hg1, hr⟩ := inv_bind hr
 refine T.call .list (wants0 rfl) rfl (run_callF (vs := [_]) rfl Tryd.func13 rfl (by decide) rfl) (fun w hS => entry_Right.c hB hS (i0a := 3) (a0 := a0) rfl hg1) (fun x1 => ?_)
 refine T.not .list rfl (wants0 rfl) rfl rfl ?_
 refine T.nil ?_
 refine T.then_normal ?_
 refine T.cond rfl (fun hb1 => ?_) (fun hb1 => ?_)
 ·replace hr := inv_posB hb1 hr
  refine T.seq ?_
  refine T.region ?_
  refine T.store .list 1 rfl rfl (wants0 rfl) rfl rfl rfl rfl (Nat.le_of_ble_eq_true rfl) rfl (cs' := [.slice none 0 0]) rfl rfl ?_
  refine T.store .list 0 rfl rfl (wants0 rfl) rfl rfl rfl rfl (Nat.le_of_ble_eq_true rfl) rfl (cs' := [.int .i64 1]) rfl rfl ?_
  refine T.nil ?_
  refine T.then_normal ?_
  refine T.ret ?_
  refine T.then_ret ?_
  refine T.retD ?_
  obtain rfl := inv_some hr
  refine T.nilBf E8 5 ?_
  refine T.lvOut2 rfl (OutRun.cell1 2 rfl rfl rfl) (OutRun.cell1 1 rfl rfl rfl) (fun w hS => ⟨(none, 0), rfl, hS.pick [0] 5 rfl rfl nla rfl⟩)
 ·replace hr := inv_negB hb1 hr
  refine T.skip ?_
  refine T.then_normal ?_
  refine T.seq ?_
  refine T.region ?_
  refine T.makeFunc .list (f := 28) (vs := [.pointer (some ⟨b2, 0, none⟩), .pointer (some ⟨b3, 0, none⟩)]) rfl (wants0 rfl) rfl rfl ?_
  refine T.defer .list (run_deferV (vs := []) (caps := [.pointer (some ⟨b2, 0, none⟩), .pointer (some ⟨b3, 0, none⟩)]) rfl rfl rfl) (wants0 rfl) rfl ?_
  refine T.nil ?_
  refine T.then_normal ?_
  refine T.seqJ (fun (s1 : List UInt8) (x2 : (Option Addr × Nat)) => [(1, .pointer (some ⟨b1, 0, none⟩)), (2, .pointer (some ⟨b2, 0, none⟩)), (3, .pointer (some ⟨b3, 0, none⟩))]) (fun s1 x2 => Cl b1 36 [.int .i64 a0.1, .int .i64 a0.2.1, .slice A0a a0.2.2.1.length c0a, .int .i64 a0.2.2.2] :: Ro (Elt.pair E64 (Elt.pair E64 (Elt.slice (Elt.pair E64 (Elt.pair EStr (Elt.pair (Elt.pair EStr (Elt.pair (Elt.slice (Elt.pair EStr (Elt.pair E64 E64))) (Elt.slice (Elt.pair E64 EBool)))) (Elt.pair (Elt.slice (Elt.pair E64 (Elt.pair E64 EStr))) (Elt.pair (Elt.pair E64 (Elt.pair E64 EStr)) (Elt.pair E64 (Elt.pair (Elt.pair E64 (Elt.pair E64 EStr)) (Elt.pair (Elt.pair E64 (Elt.pair E64 EStr)) E64))))))))))) A0a c0a a0.2.2.1 :: Cl b2 26 [.slice x2.1 s1.length x2.2] :: Bf E8 5 x2.1 x2.2 s1 :: Cl b3 22 [.int .i64 0] :: hs) (fun s1 => entry_Encode.k1 a0 s1 = some r) (fun s1 x2 hk1 => ?_) (fun J1 => ?_)
  ·unfold entry_Encode.k1 at hk1
   refine T.seqJ (fun (s2 : List UInt8) (x3 : (Option Addr × Nat)) => [(2, .pointer (some ⟨b2, 0, none⟩)), (3, .pointer (some ⟨b3, 0, none⟩))]) (fun s2 x3 => Cl b2 26 [.slice x3.1 s2.length x3.2] :: Bf E8 5 x3.1 x3.2 s2 :: Cl b3 22 [.int .i64 0] :: hs) (fun s2 => entry_Encode.k2 s2 = some r) (fun s2 x3 hk2 => ?_) (fun J2 => ?_)
   ·unfold entry_Encode.k2 at hk2
    refine T.seq ?_
    refine T.region ?_
    refine T.load .list 0 rfl rfl (wants0 rfl) rfl rfl rfl ?_
    refine T.store .list 0 rfl rfl (wants0 rfl) rfl rfl rfl rfl (Nat.le_of_ble_eq_true rfl) rfl (cs' := [.slice x3.1 s2.length x3.2]) rfl rfl ?_
    refine T.store .list 2 rfl rfl (wants0 rfl) rfl rfl rfl rfl (Nat.le_of_ble_eq_true rfl) rfl (cs' := [.int .i64 0]) rfl rfl ?_
    refine T.nil ?_
    refine T.then_normal ?_
    refine T.ret ?_
    refine T.retD ?_
    refine T.lvCons (args := []) (caps := [.pointer (some ⟨b2, 0, none⟩), .pointer (some ⟨b3, 0, none⟩)]) (vs := [.pointer (some ⟨b2, 0, none⟩), .pointer (some ⟨b3, 0, none⟩)]) (v := .tuple #[]) Tryd.func28 rfl (by decide) rfl (fun w hS => entry_Encode_1.d hB hS) (fun (_ : Unit) => ?_)
    obtain rfl := inv_some hk2
    refine T.lvOut2 rfl (OutRun.cell1 0 rfl rfl rfl) (OutRun.cell1 2 rfl rfl rfl) (fun w hS => ⟨x3, rfl, hS.pick [1] 3 rfl rfl nla rfl⟩)
   ·refine T.seq ?_
    refine T.region ?_
    refine T.field .list rfl (wants0 rfl) rfl rfl ?_
    refine T.load .list 0 rfl rfl (wants0 rfl) rfl rfl rfl ?_
    refine T.lenSlice .list rfl (wants0 rfl) rfl rfl ?_
    refine T.move .list rfl (wants0 rfl) rfl rfl ?_
    refine T.nil ?_
    refine T.then_normal ?_
    refine T.block ?_
    obtain ⟨e1, hl1, hk1⟩ := inv_bind hk1
    refine T.le (EnvLe.cons rfl (EnvLe.cons rfl (EnvLe.cons rfl (EnvLe.cons rfl (EnvLe.cons rfl EnvLe.nil))))) (T.pick [2, 3, 4, 1] 5 rfl rfl nla rfl (T.loop (s0 := (s1, 0)) (env := fun s3 x4 => [(2, .pointer (some ⟨b2, 0, none⟩)), (3, .pointer (some ⟨b3, 0, none⟩)), (24, .slice A0a a0.2.2.1.length c0a), (25, .int .i64 ((a0.2.2.1.length : Int))), (26, .int .i64 s3.2)]) (hs := fun (s3 : List UInt8 × Int) (x4 : (Option Addr × Nat)) => Cl b2 26 [.slice x4.1 s3.1.length x4.2] :: Bf E8 5 x4.1 x4.2 s3.1 :: Cl b3 22 [.int .i64 0] :: Ro (Elt.pair E64 (Elt.pair E64 (Elt.slice (Elt.pair E64 (Elt.pair EStr (Elt.pair (Elt.pair EStr (Elt.pair (Elt.slice (Elt.pair EStr (Elt.pair E64 E64))) (Elt.slice (Elt.pair E64 EBool)))) (Elt.pair (Elt.slice (Elt.pair E64 (Elt.pair E64 EStr))) (Elt.pair (Elt.pair E64 (Elt.pair E64 EStr)) (Elt.pair E64 (Elt.pair (Elt.pair E64 (Elt.pair E64 EStr)) (Elt.pair (Elt.pair E64 (Elt.pair E64 EStr)) E64))))))))))) A0a c0a a0.2.2.1 :: hs) hl1 x2 (fun K1 s3 x4 o1 he1 hm1 hx1 => ?_)))
    unfold entry_Encode.st1 at he1
    refine T.seq ?_
    refine T.region ?_
    refine T.bin .list rfl (wants0 rfl) rfl rfl rfl rfl ?_
    refine T.nil ?_
    refine T.then_normal ?_
    refine T.seq ?_
    refine T.cond rfl (fun hb2 => ?_) (fun hb2 => ?_)
    ·replace he1 := inv_posB hb2 he1
     refine T.skip ?_
     refine T.then_normal ?_
     refine T.seqJ (fun (s4 : List UInt8) (x5 : (Option Addr × Nat)) => [(2, .pointer (some ⟨b2, 0, none⟩)), (3, .pointer (some ⟨b3, 0, none⟩)), (24, .slice A0a a0.2.2.1.length c0a), (25, .int .i64 ((a0.2.2.1.length : Int))), (26, .int .i64 s3.2)]) (fun s4 x5 => Cl b2 26 [.slice x5.1 s4.length x5.2] :: Bf E8 5 x5.1 x5.2 s4 :: Cl b3 22 [.int .i64 0] :: Ro (Elt.pair E64 (Elt.pair E64 (Elt.slice (Elt.pair E64 (Elt.pair EStr (Elt.pair (Elt.pair EStr (Elt.pair (Elt.slice (Elt.pair EStr (Elt.pair E64 E64))) (Elt.slice (Elt.pair E64 EBool)))) (Elt.pair (Elt.slice (Elt.pair E64 (Elt.pair E64 EStr))) (Elt.pair (Elt.pair E64 (Elt.pair E64 EStr)) (Elt.pair E64 (Elt.pair (Elt.pair E64 (Elt.pair E64 EStr)) (Elt.pair (Elt.pair E64 (Elt.pair E64 EStr)) E64))))))))))) A0a c0a a0.2.2.1 :: hs) (fun s4 => entry_Encode.k3 s3 s4 = some o1) (fun s4 x5 hk3 => ?_) (fun J3 => ?_)
     ·unfold entry_Encode.k3 at hk3
      refine T.region ?_
      refine T.bin .list rfl (wants0 rfl) rfl rfl rfl rfl ?_
      refine T.move .list rfl (wants0 rfl) rfl rfl ?_
      refine T.nil ?_
      refine T.then_normal ?_
      obtain rfl := inv_some hk3
      exact T.le (EnvLe.cons rfl (EnvLe.cons rfl (EnvLe.cons rfl (EnvLe.cons rfl (EnvLe.cons rfl EnvLe.nil))))) (T.pick [0, 1, 2, 3] 4 rfl rfl nla rfl (hm1 (s4, IntKind.i64.wrap (s3.2 + 1)) rfl x5))
     ·refine T.block ?_
      refine T.seq ?_
      refine T.region ?_
      obtain ⟨hc1, he1⟩ := inv_chk he1
      refine T.idxRo .list 3 rfl rfl (wants0 rfl) rfl rfl rfl hc1.1 hc1.2 (Nat.le_refl _) ?_
      refine T.ldFRo 3 .list Fd.self (Sh.pair Sh.sc (Sh.pair Sh.sc Sh.slice)) rfl (.inl rfl) rfl rfl hc1.1 hc1.2 rfl (wants0 rfl) rfl rfl rfl (v := fun x6 => .agg #[.int .i64 (((((a0.2.2.1).getD (s3.2 : Int).toNat default)).1)), .int .i64 (((((a0.2.2.1).getD (s3.2 : Int).toNat default)).2.1)), .slice x6.2.2.1 ((((((a0.2.2.1).getD (s3.2 : Int).toNat default)).2.2)).length) x6.2.2.2]) (hs' := fun x6 => Ro (Elt.pair E64 (Elt.pair EStr (Elt.pair (Elt.pair EStr (Elt.pair (Elt.slice (Elt.pair EStr (Elt.pair E64 E64))) (Elt.slice (Elt.pair E64 EBool)))) (Elt.pair (Elt.slice (Elt.pair E64 (Elt.pair E64 EStr))) (Elt.pair (Elt.pair E64 (Elt.pair E64 EStr)) (Elt.pair E64 (Elt.pair (Elt.pair E64 (Elt.pair E64 EStr)) (Elt.pair (Elt.pair E64 (Elt.pair E64 EStr)) E64)))))))) x6.2.2.1 x6.2.2.2 (((((a0.2.2.1).getD (s3.2 : Int).toNat default)).2.2)) :: Cl b2 26 [.slice x4.1 s3.1.length x4.2] :: Bf E8 5 x4.1 x4.2 s3.1 :: Cl b3 22 [.int .i64 0] :: Ro (Elt.pair E64 (Elt.pair E64 (Elt.slice (Elt.pair E64 (Elt.pair EStr (Elt.pair (Elt.pair EStr (Elt.pair (Elt.slice (Elt.pair EStr (Elt.pair E64 E64))) (Elt.slice (Elt.pair E64 EBool)))) (Elt.pair (Elt.slice (Elt.pair E64 (Elt.pair E64 EStr))) (Elt.pair (Elt.pair E64 (Elt.pair E64 EStr)) (Elt.pair E64 (Elt.pair (Elt.pair E64 (Elt.pair E64 EStr)) (Elt.pair (Elt.pair E64 (Elt.pair E64 EStr)) E64))))))))))) A0a c0a a0.2.2.1 :: hs) (fun _ => rfl) (fun _ => rfl) (fun x6 => ?_)
      refine T.allocS .list rfl (wants0 rfl) rfl (cs := [.int .i64 0, .int .i64 0, .slice none 0 0]) rfl (fun b4 => ?_)
      refine T.store .list 0 rfl rfl (wants0 rfl) rfl rfl rfl rfl (Nat.le_of_ble_eq_true rfl) rfl (cs' := [.int .i64 (((((a0.2.2.1).getD (s3.2 : Int).toNat default)).1)), .int .i64 (((((a0.2.2.1).getD (s3.2 : Int).toNat default)).2.1)), .slice x6.2.2.1 ((((((a0.2.2.1).getD (s3.2 : Int).toNat default)).2.2)).length) x6.2.2.2]) rfl rfl ?_
      refine T.nil ?_
      refine T.then_normal ?_
      refine T.seq ?_
      refine T.dStart mixed ?_
      refine T.field (.dPure (i := 1) rfl (by kernel_rfl) (fun d _ _ _ _ h => by cases d <;> exact h)) rfl (wants0 rfl) rfl rfl ?_
      refine T.field (.dPure (i := 6) rfl (by kernel_rfl) (fun d _ _ _ _ h => by cases d <;> exact h)) rfl (wants0 rfl) rfl rfl ?_
      refine T.dAdd 10 (fun w => w.heap[b2]? = some (.cells [.slice x4.1 s3.1.length x4.2].toArray 26 (0, 0))) (Cl.stays 2 rfl) ?_
      refine T.valS 0 (i := 0) (.slice x4.1 s3.1.length x4.2) rfl rfl (by kernel_rfl) (by kernel_rfl) (fun d _ _ _ _ h => by cases d <;> exact h) (wants0 rfl) rfl (run_ldCl rfl rfl rfl) ?_
      refine T.dAdd 11 (fun w => w.heap[b4]? = some (.cells [.int .i64 (((((a0.2.2.1).getD (s3.2 : Int).toNat default)).1)), .int .i64 (((((a0.2.2.1).getD (s3.2 : Int).toNat default)).2.1)), .slice x6.2.2.1 ((((((a0.2.2.1).getD (s3.2 : Int).toNat default)).2.2)).length) x6.2.2.2].toArray 58 (0, 0))) (Cl.stays 0 rfl) ?_
      refine T.valS 0 (i := 2) (.int .i64 (((((a0.2.2.1).getD (s3.2 : Int).toNat default)).1))) rfl rfl (by kernel_rfl) (by kernel_rfl) (fun d _ _ _ _ h => by cases d <;> exact h) (wants0 rfl) rfl (run_ldCl rfl rfl rfl) ?_
      refine T.conv (.dPure (i := 3) rfl (by kernel_rfl) (fun d _ _ _ _ h => by cases d <;> exact h)) rfl (wants0 rfl) rfl rfl rfl ?_
      refine T.valS 0 (i := 7) (.int .i64 (((((a0.2.2.1).getD (s3.2 : Int).toNat default)).2.1))) rfl rfl (by kernel_rfl) (by kernel_rfl) (fun d _ _ _ _ h => by cases d <;> exact h) (wants0 rfl) rfl (run_ldCl rfl rfl rfl) ?_
      refine T.dOnly (i := 4) (by kernel_rfl) ?_
      refine T.lit (E := E8) (.dOne rfl (by kernel_rfl)) (vals := [(0, .int .u8 (IntKind.u8.wrap (((((a0.2.2.1).getD (s3.2 : Int).toNat default)).1))))]) (cells := #[.int .u8 (IntKind.u8.wrap (((((a0.2.2.1).getD (s3.2 : Int).toNat default)).1)))]) rfl (wants0 rfl) rfl rfl rfl rfl rfl (by kernel_rfl) ([(u8 (IntKind.u8.wrap (((((a0.2.2.1).getD (s3.2 : Int).toNat default)).1))))] : List UInt8) rfl (fun _ _ _ _ _ => (Encs.c1 (enc := b8) (h1 := fun _ => rfl) (b8_wrap _) rfl)) (fun b5 => ?_)
      refine T.dNext (phi_cons (.inr (Cl.stays 1 rfl)) (phi_cons (.inr (Cl.stays 3 rfl)) phi_nil)) ?_
      obtain ⟨hc2, he1⟩ := inv_chk he1
      refine T.dOnly (i := 5) (by kernel_rfl) ?_
      refine T.appBf (.dOne rfl (by kernel_rfl)) 4 0 rfl rfl rfl rfl rfl (wants0 rfl) rfl rfl rfl rfl rfl rfl hc2 (fun _ _ => rfl) (fun A2 c2 => ?_)
      refine T.dNext (phi_cons (.inr (Cl.stays 1 rfl)) (phi_cons (.inr (Cl.stays 3 rfl)) phi_nil)) ?_
      obtain ⟨r2, hg2, he1⟩ := inv_bind he1
      refine T.dOnly (i := 8) (by kernel_rfl) ?_
      refine T.call (.dOne rfl (by kernel_rfl)) (wants0 rfl) rfl (run_callF (vs := [_]) rfl Tryd.func18 rfl (by decide) rfl) (fun w hS => wire_Uint.c hB hS  hg2) (fun x7 => ?_)
      refine T.dNext (phi_cons (.inr (Cl.stays 2 rfl)) (phi_cons (.inr (Cl.stays 4 rfl)) phi_nil)) ?_
      obtain ⟨hc3, he1⟩ := inv_chk he1
      refine T.dOnly (i := 9) (by kernel_rfl) ?_
      refine T.appBf (.dOne rfl (by kernel_rfl)) 5 0 rfl rfl rfl rfl rfl (wants0 rfl) rfl rfl rfl rfl rfl rfl hc3 (fun _ _ => rfl) (fun A3 c3 => ?_)
      refine T.dNext (phi_cons (.inr (Cl.stays 2 rfl)) (phi_cons (.inr (Cl.stays 4 rfl)) phi_nil)) ?_
      refine T.dOnly (i := 10) (by kernel_rfl) ?_
      refine T.store (.dOne rfl (by kernel_rfl)) 4 rfl rfl (wants0 rfl) rfl rfl rfl rfl (Nat.le_of_ble_eq_true rfl) rfl (cs' := [.slice A3 (((((s3.1 ++ (([(u8 (IntKind.u8.wrap (((((a0.2.2.1).getD (s3.2 : Int).toNat default)).1))))] : List UInt8)))) ++ r2)).length) c3]) rfl rfl ?_
      refine T.dNext (phi_cons (.inr (Cl.stays 2 rfl)) (phi_cons (.inl (by kernel_rfl)) phi_nil)) ?_
      refine T.dDone (by kernel_rfl) ?_
      refine T.then_normal ?_
      refine T.seq ?_
      refine T.region ?_
      refine T.load .list 4 rfl rfl (wants0 rfl) rfl rfl rfl ?_
      refine T.field .list rfl (wants0 rfl) rfl rfl ?_
      refine T.load .list 2 rfl rfl (wants0 rfl) rfl rfl rfl ?_
      refine T.lenSlice .list rfl (wants0 rfl) rfl rfl ?_
      refine T.conv .list rfl (wants0 rfl) rfl rfl rfl ?_
      refine T.lit (E := E8) .list (vals := [(0, .int .u8 (IntKind.u8.wrap (((((((a0.2.2.1).getD (s3.2 : Int).toNat default)).2.2)).length : Int))))]) (cells := #[.int .u8 (IntKind.u8.wrap (((((((a0.2.2.1).getD (s3.2 : Int).toNat default)).2.2)).length : Int)))]) rfl (wants0 rfl) rfl rfl rfl rfl rfl (by kernel_rfl) ([(u8 (IntKind.u8.wrap (((((((a0.2.2.1).getD (s3.2 : Int).toNat default)).2.2)).length : Int))))] : List UInt8) rfl (fun _ _ _ _ _ => (Encs.c1 (enc := b8) (h1 := fun _ => rfl) (b8_wrap _) rfl)) (fun b6 => ?_)
      obtain ⟨hc4, he1⟩ := inv_chk he1
      refine T.appBf .list 6 0 rfl rfl rfl rfl rfl (wants0 rfl) rfl rfl rfl rfl rfl rfl hc4 (fun _ _ => rfl) (fun A4 c4 => ?_)
      refine T.store .list 5 rfl rfl (wants0 rfl) rfl rfl rfl rfl (Nat.le_of_ble_eq_true rfl) rfl (cs' := [.slice A4 (((((((s3.1 ++ (([(u8 (IntKind.u8.wrap (((((a0.2.2.1).getD (s3.2 : Int).toNat default)).1))))] : List UInt8)))) ++ r2)) ++ (([(u8 (IntKind.u8.wrap (((((((a0.2.2.1).getD (s3.2 : Int).toNat default)).2.2)).length : Int))))] : List UInt8)))).length) c4]) rfl rfl ?_
      refine T.nil ?_
      refine T.then_normal ?_
      refine T.seq ?_
      refine T.region ?_
      refine T.field .list rfl (wants0 rfl) rfl rfl ?_
      refine T.load .list 3 rfl rfl (wants0 rfl) rfl rfl rfl ?_
      refine T.lenSlice .list rfl (wants0 rfl) rfl rfl ?_
      refine T.move .list rfl (wants0 rfl) rfl rfl ?_
      refine T.nil ?_
      refine T.then_normal ?_
      refine T.block ?_
      obtain ⟨e2, hl2, he1⟩ := inv_bind he1
      refine T.le (EnvLe.cons rfl (EnvLe.cons rfl (EnvLe.cons rfl (EnvLe.cons rfl (EnvLe.cons rfl (EnvLe.cons rfl (EnvLe.cons rfl (EnvLe.cons rfl EnvLe.nil)))))))) (T.pick [5, 6, 7, 8, 4] 9 rfl rfl nla rfl (T.loop (s0 := ()) (env := fun s5 x8 => [(2, .pointer (some ⟨b2, 0, none⟩)), (3, .pointer (some ⟨b3, 0, none⟩)), (24, .slice A0a a0.2.2.1.length c0a), (25, .int .i64 ((a0.2.2.1.length : Int))), (26, .int .i64 s3.2), (48, .slice x6.2.2.1 ((((((a0.2.2.1).getD (s3.2 : Int).toNat default)).2.2)).length) x6.2.2.2), (49, .int .i64 (((((((a0.2.2.1).getD (s3.2 : Int).toNat default)).2.2)).length : Int))), (50, .int .i64 0)]) (hs := fun (s5 : Unit) (x8 : Unit) => Cl b2 26 [.slice A4 (((((((s3.1 ++ (([(u8 (IntKind.u8.wrap (((((a0.2.2.1).getD (s3.2 : Int).toNat default)).1))))] : List UInt8)))) ++ r2)) ++ (([(u8 (IntKind.u8.wrap (((((((a0.2.2.1).getD (s3.2 : Int).toNat default)).2.2)).length : Int))))] : List UInt8)))).length) c4] :: Bf E8 5 A4 c4 ((((((s3.1 ++ (([(u8 (IntKind.u8.wrap (((((a0.2.2.1).getD (s3.2 : Int).toNat default)).1))))] : List UInt8)))) ++ r2)) ++ (([(u8 (IntKind.u8.wrap (((((((a0.2.2.1).getD (s3.2 : Int).toNat default)).2.2)).length : Int))))] : List UInt8)))) :: Cl b3 22 [.int .i64 0] :: Ro (Elt.pair E64 (Elt.pair E64 (Elt.slice (Elt.pair E64 (Elt.pair EStr (Elt.pair (Elt.pair EStr (Elt.pair (Elt.slice (Elt.pair EStr (Elt.pair E64 E64))) (Elt.slice (Elt.pair E64 EBool)))) (Elt.pair (Elt.slice (Elt.pair E64 (Elt.pair E64 EStr))) (Elt.pair (Elt.pair E64 (Elt.pair E64 EStr)) (Elt.pair E64 (Elt.pair (Elt.pair E64 (Elt.pair E64 EStr)) (Elt.pair (Elt.pair E64 (Elt.pair E64 EStr)) E64))))))))))) A0a c0a a0.2.2.1 :: Ro (Elt.pair E64 (Elt.pair EStr (Elt.pair (Elt.pair EStr (Elt.pair (Elt.slice (Elt.pair EStr (Elt.pair E64 E64))) (Elt.slice (Elt.pair E64 EBool)))) (Elt.pair (Elt.slice (Elt.pair E64 (Elt.pair E64 EStr))) (Elt.pair (Elt.pair E64 (Elt.pair E64 EStr)) (Elt.pair E64 (Elt.pair (Elt.pair E64 (Elt.pair E64 EStr)) (Elt.pair (Elt.pair E64 (Elt.pair E64 EStr)) E64)))))))) x6.2.2.1 x6.2.2.2 (((((a0.2.2.1).getD (s3.2 : Int).toNat default)).2.2)) :: hs) hl2 () (fun K2 s5 x8 o2 he2 hm2 hx2 => ?_)))
      unfold entry_Encode.st2 at he2
      refine T.seq ?_
      refine T.region ?_
      refine T.bin .list rfl (wants0 rfl) rfl rfl rfl rfl ?_
      refine T.nil ?_
      refine T.then_normal ?_
      refine T.seq ?_
      refine T.cond rfl (fun hb3 => ?_) (fun hb3 => ?_)
      ·replace he2 := inv_posB hb3 he2
       cases he2
      ·replace he2 := inv_negB hb3 he2
       refine T.exit ?_
       refine T.then_exit ?_
       refine T.then_exit ?_
       obtain rfl := inv_some he2
       obtain rfl := hx2 _ rfl
       refine T.in_hit ?_
       refine T.in_normal ?_
       refine T.then_normal ?_
       exact T.le (EnvLe.cons rfl (EnvLe.cons rfl (EnvLe.cons rfl (EnvLe.cons rfl (EnvLe.cons rfl EnvLe.nil))))) (T.pick [0, 1, 2, 3] 5 rfl rfl nla rfl (J3 (((((s3.1 ++ (([(u8 (IntKind.u8.wrap (((((a0.2.2.1).getD (s3.2 : Int).toNat default)).1))))] : List UInt8)))) ++ r2)) ++ (([(u8 (IntKind.u8.wrap (((((((a0.2.2.1).getD (s3.2 : Int).toNat default)).2.2)).length : Int))))] : List UInt8))) (A4, c4) he1))
    ·replace he1 := inv_negB hb2 he1
     refine T.exit ?_
     refine T.then_exit ?_
     refine T.then_exit ?_
     obtain rfl := inv_some he1
     obtain rfl := hx1 _ rfl
     refine T.in_hit ?_
     refine T.then_normal ?_
     exact T.le (EnvLe.cons rfl (EnvLe.cons rfl EnvLe.nil)) (T.pick [0, 1, 2] 4 rfl rfl nla rfl (J2 s3.1 x4 hk1))
  ·refine T.dStart mixed ?_
   refine T.field (.dPure (i := 0) rfl (by kernel_rfl) (fun d _ _ _ _ h => by cases d <;> exact h)) rfl (wants0 rfl) rfl rfl ?_
   refine T.field (.dPure (i := 3) rfl (by kernel_rfl) (fun d _ _ _ _ h => by cases d <;> exact h)) rfl (wants0 rfl) rfl rfl ?_
   refine T.field (.dPure (i := 7) rfl (by kernel_rfl) (fun d _ _ _ _ h => by cases d <;> exact h)) rfl (wants0 rfl) rfl rfl ?_
   refine T.dAdd 12 (fun w => w.heap[b1]? = some (.cells [.int .i64 a0.1, .int .i64 a0.2.1, .slice A0a a0.2.2.1.length c0a, .int .i64 a0.2.2.2].toArray 36 (0, 0))) (Cl.stays 2 rfl) ?_
   refine T.valS 0 (i := 1) (.int .i64 a0.1) rfl rfl (by kernel_rfl) (by kernel_rfl) (fun d _ _ _ _ h => by cases d <;> exact h) (wants0 rfl) rfl (run_ldCl rfl rfl rfl) ?_
   refine T.conv (.dPure (i := 2) rfl (by kernel_rfl) (fun d _ _ _ _ h => by cases d <;> exact h)) rfl (wants0 rfl) rfl rfl rfl ?_
   refine T.valS 0 (i := 4) (.int .i64 a0.2.1) rfl rfl (by kernel_rfl) (by kernel_rfl) (fun d _ _ _ _ h => by cases d <;> exact h) (wants0 rfl) rfl (run_ldCl rfl rfl rfl) ?_
   refine T.conv (.dPure (i := 5) rfl (by kernel_rfl) (fun d _ _ _ _ h => by cases d <;> exact h)) rfl (wants0 rfl) rfl rfl rfl ?_
   refine T.valS 0 (i := 8) (.int .i64 a0.2.2.2) rfl rfl (by kernel_rfl) (by kernel_rfl) (fun d _ _ _ _ h => by cases d <;> exact h) (wants0 rfl) rfl (run_ldCl rfl rfl rfl) ?_
   obtain ⟨r3, hg3, hr⟩ := inv_bind hr
   obtain ⟨hc5, hr⟩ := inv_chk hr
   refine T.d2 (i := 6) (j := 9) (by kernel_rfl) ?_ ?_ 
   ·refine T.lit (E := E8) (.dOne rfl (by kernel_rfl)) (vals := [(0, .int .u8 (IntKind.u8.wrap a0.1)), (1, .int .u8 (IntKind.u8.wrap a0.2.1))]) (cells := #[.int .u8 (IntKind.u8.wrap a0.1), .int .u8 (IntKind.u8.wrap a0.2.1)]) rfl (wants0 rfl) rfl rfl rfl rfl rfl (by kernel_rfl) ([(u8 (IntKind.u8.wrap a0.1)), (u8 (IntKind.u8.wrap a0.2.1))] : List UInt8) rfl (fun _ _ _ _ _ => (Encs.c1 (enc := b8) (h1 := fun _ => rfl) (b8_wrap _) (Encs.c1 (enc := b8) (h1 := fun _ => rfl) (b8_wrap _) rfl))) (fun b7 => ?_)
    refine T.dNext (phi_cons (.inr (Cl.stays 3 rfl)) phi_nil) ?_
    refine T.dOnly (i := 9) (by kernel_rfl) ?_
    refine T.call (.dOne rfl (by kernel_rfl)) (wants0 rfl) rfl (run_callF (vs := [_]) rfl Tryd.func18 rfl (by decide) rfl) (fun w hS => wire_Uint.c hB hS  hg3) (fun x9 => ?_)
    refine T.dNext (phi_cons (.inr (Cl.stays 4 rfl)) phi_nil) ?_
    refine T.dOnly (i := 10) (by kernel_rfl) ?_
    refine T.appBf (.dOne rfl (by kernel_rfl)) 1 0 rfl rfl rfl rfl rfl (wants0 rfl) rfl rfl rfl rfl rfl rfl hc5 (fun _ _ => rfl) (fun A5 c5 => ?_)
    refine T.dNext (phi_cons (.inr (Cl.stays 4 rfl)) phi_nil) ?_
    refine T.dOnly (i := 11) (by kernel_rfl) ?_
    refine T.store (.dOne rfl (by kernel_rfl)) 3 rfl rfl (wants0 rfl) rfl rfl rfl rfl (Nat.le_of_ble_eq_true rfl) rfl (cs' := [.slice A5 ((((([(u8 (IntKind.u8.wrap a0.1)), (u8 (IntKind.u8.wrap a0.2.1))] : List UInt8)) ++ r3)).length) c5]) rfl rfl ?_
    refine T.dNext (phi_cons (.inr (Cl.stays 4 rfl)) phi_nil) ?_
    refine T.dDone (by kernel_rfl) ?_
    refine T.then_normal ?_
    exact T.le (EnvLe.cons rfl (EnvLe.cons rfl (EnvLe.cons rfl EnvLe.nil))) (T.pick [4, 5, 3, 1, 2] 6 rfl rfl nla rfl (J1 ((([(u8 (IntKind.u8.wrap a0.1)), (u8 (IntKind.u8.wrap a0.2.1))] : List UInt8)) ++ r3) (A5, c5) hr))
   ·refine T.call (.dOne rfl (by kernel_rfl)) (wants0 rfl) rfl (run_callF (vs := [_]) rfl Tryd.func18 rfl (by decide) rfl) (fun w hS => wire_Uint.c hB hS  hg3) (fun x9 => ?_)
    refine T.dNext (phi_cons (.inr (Cl.stays 3 rfl)) phi_nil) ?_
    refine T.dOnly (i := 6) (by kernel_rfl) ?_
    refine T.lit (E := E8) (.dOne rfl (by kernel_rfl)) (vals := [(0, .int .u8 (IntKind.u8.wrap a0.1)), (1, .int .u8 (IntKind.u8.wrap a0.2.1))]) (cells := #[.int .u8 (IntKind.u8.wrap a0.1), .int .u8 (IntKind.u8.wrap a0.2.1)]) rfl (wants0 rfl) rfl rfl rfl rfl rfl (by kernel_rfl) ([(u8 (IntKind.u8.wrap a0.1)), (u8 (IntKind.u8.wrap a0.2.1))] : List UInt8) rfl (fun _ _ _ _ _ => (Encs.c1 (enc := b8) (h1 := fun _ => rfl) (b8_wrap _) (Encs.c1 (enc := b8) (h1 := fun _ => rfl) (b8_wrap _) rfl))) (fun b7 => ?_)
    refine T.dNext (phi_cons (.inr (Cl.stays 4 rfl)) phi_nil) ?_
    refine T.dOnly (i := 10) (by kernel_rfl) ?_
    refine T.appBf (.dOne rfl (by kernel_rfl)) 0 1 rfl rfl rfl rfl rfl (wants0 rfl) rfl rfl rfl rfl rfl rfl hc5 (fun _ _ => rfl) (fun A5 c5 => ?_)
    refine T.dNext (phi_cons (.inr (Cl.stays 4 rfl)) phi_nil) ?_
    refine T.dOnly (i := 11) (by kernel_rfl) ?_
    refine T.store (.dOne rfl (by kernel_rfl)) 3 rfl rfl (wants0 rfl) rfl rfl rfl rfl (Nat.le_of_ble_eq_true rfl) rfl (cs' := [.slice A5 ((((([(u8 (IntKind.u8.wrap a0.1)), (u8 (IntKind.u8.wrap a0.2.1))] : List UInt8)) ++ r3)).length) c5]) rfl rfl ?_
    refine T.dNext (phi_cons (.inr (Cl.stays 4 rfl)) phi_nil) ?_
    refine T.dDone (by kernel_rfl) ?_
    refine T.then_normal ?_
    exact T.le (EnvLe.cons rfl (EnvLe.cons rfl (EnvLe.cons rfl EnvLe.nil))) (T.pick [4, 5, 3, 0, 2] 6 rfl rfl nla rfl (J1 ((([(u8 (IntKind.u8.wrap a0.1)), (u8 (IntKind.u8.wrap a0.2.1))] : List UInt8)) ++ r3) (A5, c5) hr))

noncomputable def entry_Decode.k2 (r1 : Int × (List UInt8 × Int × Bool)) (r2 : Int × (List UInt8 × Int × Bool)) (s1 : Int × Bool × (List (Int × Int × (List (Int × (List UInt8) × ((List UInt8) × (List ((List UInt8) × Int × Int)) × (List (Int × Bool))) × (List (Int × Int × (List UInt8))) × (Int × Int × (List UInt8)) × Int × (Int × Int × (List UInt8)) × (Int × Int × (List UInt8)) × Int))))) (r3 : Int × (List UInt8 × Int × Bool)) (s2 : Bool) : Option ((Int × Int × (List (Int × Int × (List (Int × (List UInt8) × ((List UInt8) × (List ((List UInt8) × Int × Int)) × (List (Int × Bool))) × (List (Int × Int × (List UInt8))) × (Int × Int × (List UInt8)) × Int × (Int × Int × (List UInt8)) × (Int × Int × (List UInt8)) × Int)))) × Int) × Int) :=
  (if s2 = true then some ((0, 0, ([] : List (Int × Int × (List (Int × (List UInt8) × ((List UInt8) × (List ((List UInt8) × Int × Int)) × (List (Int × Bool))) × (List (Int × Int × (List UInt8))) × (Int × Int × (List UInt8)) × Int × (Int × Int × (List UInt8)) × (Int × Int × (List UInt8)) × Int)))), 0), 11) else some ((r1.1, r2.1, s1.2.2, r3.1), 0))
noncomputable def entry_Decode.k1 (r1 : Int × (List UInt8 × Int × Bool)) (r2 : Int × (List UInt8 × Int × Bool)) (r3 : Int × (List UInt8 × Int × Bool)) (l0 : List UInt8) (s1 : Int × Bool × (List (Int × Int × (List (Int × (List UInt8) × ((List UInt8) × (List ((List UInt8) × Int × Int)) × (List (Int × Bool))) × (List (Int × Int × (List UInt8))) × (Int × Int × (List UInt8)) × Int × (Int × Int × (List UInt8)) × (Int × Int × (List UInt8)) × Int))))) : Option ((Int × Int × (List (Int × Int × (List (Int × (List UInt8) × ((List UInt8) × (List ((List UInt8) × Int × Int)) × (List (Int × Bool))) × (List (Int × Int × (List UInt8))) × (Int × Int × (List UInt8)) × Int × (Int × Int × (List UInt8)) × (Int × Int × (List UInt8)) × Int)))) × Int) × Int) :=
  (entry_Encode.impl ((r1.1, r2.1, s1.2.2, r3.1))).bind fun r4 => (if s1.2.1 = true then entry_Decode.k2 r1 r2 s1 r3 true else (if ((decide (r4.2 = 0))) = true then (bytes_Equal.impl r4.1 l0).bind fun r5 => entry_Decode.k2 r1 r2 s1 r3 (!r5) else entry_Decode.k2 r1 r2 s1 r3 true))
noncomputable def entry_Decode.k4 (s3 : Int × Bool × (List (Int × Int × (List (Int × (List UInt8) × ((List UInt8) × (List ((List UInt8) × Int × Int)) × (List (Int × Bool))) × (List (Int × Int × (List UInt8))) × (Int × Int × (List UInt8)) × Int × (Int × Int × (List UInt8)) × (Int × Int × (List UInt8)) × Int))))) (r6 : Int × (List UInt8 × Int × Bool)) (r7 : Int × (List UInt8 × Int × Bool)) (s5 : Int × Bool) : Option ((Int × Bool × (List (Int × Int × (List (Int × (List UInt8) × ((List UInt8) × (List ((List UInt8) × Int × Int)) × (List (Int × Bool))) × (List (Int × Int × (List UInt8))) × (Int × Int × (List UInt8)) × Int × (Int × Int × (List UInt8)) × (Int × Int × (List UInt8)) × Int))))) ⊕ (Int × Bool × (List (Int × Int × (List (Int × (List UInt8) × ((List UInt8) × (List ((List UInt8) × Int × Int)) × (List (Int × Bool))) × (List (Int × Int × (List UInt8))) × (Int × Int × (List UInt8)) × Int × (Int × Int × (List UInt8)) × (Int × Int × (List UInt8)) × Int)))))) :=
  chk ((s3.2.2.length + (([(r6.1, r7.1, ([] : List (Int × (List UInt8) × ((List UInt8) × (List ((List UInt8) × Int × Int)) × (List (Int × Bool))) × (List (Int × Int × (List UInt8))) × (Int × Int × (List UInt8)) × Int × (Int × Int × (List UInt8)) × (Int × Int × (List UInt8)) × Int)))] : List (Int × Int × (List (Int × (List UInt8) × ((List UInt8) × (List ((List UInt8) × Int × Int)) × (List (Int × Bool))) × (List (Int × Int × (List UInt8))) × (Int × Int × (List UInt8)) × Int × (Int × Int × (List UInt8)) × (Int × Int × (List UInt8)) × Int))))).length) * 40 ≤ 140737488355328) (some (.inl (s5.1, s5.2, (s3.2.2 ++ (([(r6.1, r7.1, ([] : List (Int × (List UInt8) × ((List UInt8) × (List ((List UInt8) × Int × Int)) × (List (Int × Bool))) × (List (Int × Int × (List UInt8))) × (Int × Int × (List UInt8)) × Int × (Int × Int × (List UInt8)) × (Int × Int × (List UInt8)) × Int)))] : List (Int × Int × (List (Int × (List UInt8) × ((List UInt8) × (List ((List UInt8) × Int × Int)) × (List (Int × Bool))) × (List (Int × Int × (List UInt8))) × (Int × Int × (List UInt8)) × Int × (Int × Int × (List UInt8)) × (Int × Int × (List UInt8)) × Int)))))))))
noncomputable def entry_Decode.k5 (r8 : Int × (List UInt8 × Int × Bool)) (s7 : Bool) : Option (Unit ⊕ (Int × Bool)) :=
  (if s7 = true then none else some (.inr r8.2.2))
noncomputable def entry_Decode.st2 (r8 : Int × (List UInt8 × Int × Bool)) (s6 : Unit) : Option (Unit ⊕ (Int × Bool)) :=
  (if ((decide ((0 : Int) < r8.1))) = true then entry_Decode.k5 r8 (!r8.2.2.2) else entry_Decode.k5 r8 false)
noncomputable def entry_Decode.k3 (l0 : List UInt8) (s3 : Int × Bool × (List (Int × Int × (List (Int × (List UInt8) × ((List UInt8) × (List ((List UInt8) × Int × Int)) × (List (Int × Bool))) × (List (Int × Int × (List UInt8))) × (Int × Int × (List UInt8)) × Int × (Int × Int × (List UInt8)) × (Int × Int × (List UInt8)) × Int))))) (s4 : Bool) : Option ((Int × Bool × (List (Int × Int × (List (Int × (List UInt8) × ((List UInt8) × (List ((List UInt8) × Int × Int)) × (List (Int × Bool))) × (List (Int × Int × (List UInt8))) × (Int × Int × (List UInt8)) × Int × (Int × Int × (List UInt8)) × (Int × Int × (List UInt8)) × Int))))) ⊕ (Int × Bool × (List (Int × Int × (List (Int × (List UInt8) × ((List UInt8) × (List ((List UInt8) × Int × Int)) × (List (Int × Bool))) × (List (Int × Int × (List UInt8))) × (Int × Int × (List UInt8)) × Int × (Int × Int × (List UInt8)) × (Int × Int × (List UInt8)) × Int)))))) :=
  (if s4 = true then (entry_reader_byte.impl ((l0, s3.1, s3.2.1))).bind fun r6 => (entry_reader_uint.impl ((l0, r6.2.2.1, r6.2.2.2))).bind fun r7 => (entry_reader_byte.impl ((l0, r7.2.2.1, r7.2.2.2))).bind fun r8 => (loop (entry_Decode.st2 r8) ()).bind (fun e2 => entry_Decode.k4 s3 r6 r7 e2) else some (.inr s3))
noncomputable def entry_Decode.st1 (l0 : List UInt8) (s3 : Int × Bool × (List (Int × Int × (List (Int × (List UInt8) × ((List UInt8) × (List ((List UInt8) × Int × Int)) × (List (Int × Bool))) × (List (Int × Int × (List UInt8))) × (Int × Int × (List UInt8)) × Int × (Int × Int × (List UInt8)) × (Int × Int × (List UInt8)) × Int))))) : Option ((Int × Bool × (List (Int × Int × (List (Int × (List UInt8) × ((List UInt8) × (List ((List UInt8) × Int × Int)) × (List (Int × Bool))) × (List (Int × Int × (List UInt8))) × (Int × Int × (List UInt8)) × Int × (Int × Int × (List UInt8)) × (Int × Int × (List UInt8)) × Int))))) ⊕ (Int × Bool × (List (Int × Int × (List (Int × (List UInt8) × ((List UInt8) × (List ((List UInt8) × Int × Int)) × (List (Int × Bool))) × (List (Int × Int × (List UInt8))) × (Int × Int × (List UInt8)) × Int × (Int × Int × (List UInt8)) × (Int × Int × (List UInt8)) × Int)))))) :=
  (if s3.2.1 = true then entry_Decode.k3 l0 s3 false else (if ((decide (s3.1 < ((l0.length : Int))))) = true then entry_Decode.k3 l0 s3 (decide ((((s3.2.2.length : Int))) ≤ 3)) else entry_Decode.k3 l0 s3 false))
noncomputable def entry_Decode.impl (l0 : List UInt8) : Option ((Int × Int × (List (Int × Int × (List (Int × (List UInt8) × ((List UInt8) × (List ((List UInt8) × Int × Int)) × (List (Int × Bool))) × (List (Int × Int × (List UInt8))) × (Int × Int × (List UInt8)) × Int × (Int × Int × (List UInt8)) × (Int × Int × (List UInt8)) × Int)))) × Int) × Int) :=
  (entry_reader_byte.impl ((l0, 0, false))).bind fun r1 => (entry_reader_byte.impl ((l0, r1.2.2.1, r1.2.2.2))).bind fun r2 => (entry_reader_uint.impl ((l0, r2.2.2.1, r2.2.2.2))).bind fun r3 => (loop (entry_Decode.st1 l0) (r3.2.2.1, r3.2.2.2, ([] : List (Int × Int × (List (Int × (List UInt8) × ((List UInt8) × (List ((List UInt8) × Int × Int)) × (List (Int × Bool))) × (List (Int × Int × (List UInt8))) × (Int × Int × (List UInt8)) × Int × (Int × Int × (List UInt8)) × (Int × Int × (List UInt8)) × Int)))))).bind (fun e1 => entry_Decode.k1 r1 r2 r3 l0 e1)
set_option maxRecDepth 100000 in
set_option maxHeartbeats 4000000 in
theorem entry_Decode.c {B : World} {hs : List MP} {w : World} {i0 c0 : Nat} {A0 : Option Addr} {l0 : List UInt8} (hB : Base B) (hS : St B hs w) (h0 : (hs)[i0]? = some (Ro E8 A0 c0 l0)) {r : (Int × Int × (List (Int × Int × (List (Int × (List UInt8) × ((List UInt8) × (List ((List UInt8) × Int × Int)) × (List (Int × Bool))) × (List (Int × Int × (List UInt8))) × (Int × Int × (List UInt8)) × Int × (Int × Int × (List UInt8)) × (Int × Int × (List UInt8)) × Int)))) × Int) × Int} (hr : entry_Decode.impl l0 = some r) :
    Calls Tryd.prog 11 #[.slice A0 l0.length c0] w fun e w' => ∃ x : (Option Addr × Nat), e = .returned (.tuple #[.agg #[.int .i64 r.1.1, .int .i64 r.1.2.1, .slice x.1 r.1.2.2.1.length x.2, .int .i64 r.1.2.2.2], .int .i64 r.2]) ∧ St B (Ro (Elt.pair E64 (Elt.pair E64 (Elt.slice (Elt.pair E64 (Elt.pair EStr (Elt.pair (Elt.pair EStr (Elt.pair (Elt.slice (Elt.pair EStr (Elt.pair E64 E64))) (Elt.slice (Elt.pair E64 EBool)))) (Elt.pair (Elt.slice (Elt.pair E64 (Elt.pair E64 EStr))) (Elt.pair (Elt.pair E64 (Elt.pair E64 EStr)) (Elt.pair E64 (Elt.pair (Elt.pair E64 (Elt.pair E64 EStr)) (Elt.pair (Elt.pair E64 (Elt.pair E64 EStr)) E64))))))))))) x.1 x.2 r.1.2.2.1 :: hs) w' := by
 unfold entry_Decode.impl at hr
 refine calls_T Tryd.func11 rfl rfl rfl hS ?_
 refine T.front i0 h0 ?_
 refine T.seq ?_
 refine T.region ?_
 refine T.allocS .list rfl (wants0 rfl) rfl (cs := [.int .i64 0, .int .i64 0, .slice none 0 0, .int .i64 0]) rfl (fun b1 => ?_)
 refine T.assign .list rfl (wants0 rfl) rfl rfl ?_
 refine T.nil ?_
 refine T.then_normal ?_
 refine T.seq ?_
 refine T.region ?_
 refine T.move .list rfl (wants0 rfl) rfl rfl ?_
 refine T.build .list (vals := [(0, .slice A0 l0.length c0)]) (cells := #[.slice A0 l0.length c0, .int .i64 0, .bool false]) rfl (wants0 rfl) rfl rfl (run_buildStruct (sizes := [1, 1, 1]) (by kernel_rfl) (by kernel_rfl)) ?_
 refine T.boxS .list rfl (wants0 rfl) rfl rfl (cs := [.slice A0 l0.length c0, .int .i64 0, .bool false]) rfl (fun b2 => ?_)
 refine T.assign .list rfl (wants0 rfl) rfl rfl ?_
 refine T.nil ?_
 refine T.then_normal ?_
 refine T.seq ?_
 refine T.region ?_
 refine T.move .list rfl (wants0 rfl) rfl rfl ?_
 refine T.pick [0, 1, 2] 3 rfl rfl nla (hs' := Cl b2 51 [.slice A0 l0.length c0, .int .i64 0, .bool false] :: Cl b1 36 [.int .i64 0, .int .i64 0, .slice none 0 0, .int .i64 0] :: Ro E8 A0 c0 l0 :: hs) rfl ?_
 obtain ⟨r1, hg1, hr⟩ := inv_bind hr
 refine T.call .list (wants0 rfl) rfl (run_callF (vs := [_]) rfl Tryd.func23 rfl (by decide) rfl) (fun w hS => entry_reader_byte.c hB hS (i0a := 2) (o0 := (l0, 0, false)) rfl hg1) (fun x1 => ?_)
 refine T.move .list rfl (wants0 rfl) rfl rfl ?_
 refine T.pick [0, 1, 2] 3 rfl rfl nla (hs' := Cl b2 51 [.slice A0 l0.length c0, .int .i64 r1.2.2.1, .bool r1.2.2.2] :: Cl b1 36 [.int .i64 0, .int .i64 0, .slice none 0 0, .int .i64 0] :: Ro E8 A0 c0 l0 :: hs) rfl ?_
 obtain ⟨r2, hg2, hr⟩ := inv_bind hr
 refine T.call .list (wants0 rfl) rfl (run_callF (vs := [_]) rfl Tryd.func23 rfl (by decide) rfl) (fun w hS => entry_reader_byte.c hB hS (i0a := 2) (o0 := (l0, r1.2.2.1, r1.2.2.2)) rfl hg2) (fun x2 => ?_)
 refine T.move .list rfl (wants0 rfl) rfl rfl ?_
 refine T.pick [0, 1, 2] 3 rfl rfl nla (hs' := Cl b2 51 [.slice A0 l0.length c0, .int .i64 r2.2.2.1, .bool r2.2.2.2] :: Cl b1 36 [.int .i64 0, .int .i64 0, .slice none 0 0, .int .i64 0] :: Ro E8 A0 c0 l0 :: hs) rfl ?_
 obtain ⟨r3, hg3, hr⟩ := inv_bind hr
 refine T.call .list (wants0 rfl) rfl (run_callF (vs := [_]) rfl Tryd.func22 rfl (by decide) rfl) (fun w hS => entry_reader_uint.c hB hS (i0a := 2) (o0 := (l0, r2.2.2.1, r2.2.2.2)) rfl hg3) (fun x3 => ?_)
 refine T.build .list (vals := [(0, .int .i64 r1.1), (1, .int .i64 r2.1), (3, .int .i64 r3.1)]) (cells := #[.int .i64 r1.1, .int .i64 r2.1, .slice none 0 0, .int .i64 r3.1]) rfl (wants0 rfl) rfl rfl (run_buildStruct (sizes := [1, 1, 1, 1]) (by kernel_rfl) (by kernel_rfl)) ?_
 refine T.allocS .list rfl (wants0 rfl) rfl (cs := [.int .i64 0, .int .i64 0, .slice none 0 0, .int .i64 0]) rfl (fun b3 => ?_)
 refine T.store .list 0 rfl rfl (wants0 rfl) rfl rfl rfl rfl (Nat.le_of_ble_eq_true rfl) rfl (cs' := [.int .i64 r1.1, .int .i64 r2.1, .slice none 0 0, .int .i64 r3.1]) rfl rfl ?_
 refine T.nil ?_
 refine T.then_normal ?_
 refine T.seqJ (fun (s1 : Int × Bool × (List (Int × Int × (List (Int × (List UInt8) × ((List UInt8) × (List ((List UInt8) × Int × Int)) × (List (Int × Bool))) × (List (Int × Int × (List UInt8))) × (Int × Int × (List UInt8)) × Int × (Int × Int × (List UInt8)) × (Int × Int × (List UInt8)) × Int))))) (x4 : (Option Addr × Nat)) => [(0, .slice A0 l0.length c0), (2, .pointer (some ⟨b1, 0, none⟩)), (4, .pointer (some ⟨b2, 0, none⟩)), (5, .pointer (some ⟨b3, 0, none⟩))]) (fun s1 x4 => Ro E8 A0 c0 l0 :: Cl b1 36 [.int .i64 0, .int .i64 0, .slice none 0 0, .int .i64 0] :: Cl b2 51 [.slice A0 l0.length c0, .int .i64 s1.1, .bool s1.2.1] :: Cl b3 36 [.int .i64 r1.1, .int .i64 r2.1, .slice x4.1 s1.2.2.length x4.2, .int .i64 r3.1] :: Bf (Elt.pair E64 (Elt.pair E64 (Elt.slice (Elt.pair E64 (Elt.pair EStr (Elt.pair (Elt.pair EStr (Elt.pair (Elt.slice (Elt.pair EStr (Elt.pair E64 E64))) (Elt.slice (Elt.pair E64 EBool)))) (Elt.pair (Elt.slice (Elt.pair E64 (Elt.pair E64 EStr))) (Elt.pair (Elt.pair E64 (Elt.pair E64 EStr)) (Elt.pair E64 (Elt.pair (Elt.pair E64 (Elt.pair E64 EStr)) (Elt.pair (Elt.pair E64 (Elt.pair E64 EStr)) E64))))))))))) 58 x4.1 x4.2 s1.2.2 :: hs) (fun s1 => entry_Decode.k1 r1 r2 r3 l0 s1 = some r) (fun s1 x4 hk1 => ?_) (fun J1 => ?_)
 ·unfold entry_Decode.k1 at hk1
  refine T.seq ?_
  refine T.region ?_
  refine T.loadN .list 3 rfl rfl (wants0 rfl) rfl rfl (vs := [.int .i64 r1.1, .int .i64 r2.1, .slice x4.1 s1.2.2.length x4.2, .int .i64 r3.1]) rfl rfl ?_
  obtain ⟨r4, hg4, hk1⟩ := inv_bind hk1
  refine T.call .list (wants0 rfl) rfl (run_callF (vs := [_]) rfl Tryd.func12 rfl (by decide) rfl) (fun w hS => (entry_Encode.c (hB.up hS) (St.borrow (ros := [Ro (Elt.pair E64 (Elt.pair E64 (Elt.slice (Elt.pair E64 (Elt.pair EStr (Elt.pair (Elt.pair EStr (Elt.pair (Elt.slice (Elt.pair EStr (Elt.pair E64 E64))) (Elt.slice (Elt.pair E64 EBool)))) (Elt.pair (Elt.slice (Elt.pair E64 (Elt.pair E64 EStr))) (Elt.pair (Elt.pair E64 (Elt.pair E64 EStr)) (Elt.pair E64 (Elt.pair (Elt.pair E64 (Elt.pair E64 EStr)) (Elt.pair (Elt.pair E64 (Elt.pair E64 EStr)) E64))))))))))) x4.1 x4.2 s1.2.2]) (Ros.cons (hS.roBf 4 rfl rfl) Ros.nil)) (i0a := 0) (a0 := (r1.1, r2.1, s1.2.2, r3.1)) rfl hg4).mono fun e w' ⟨x, he, h1⟩ => ⟨x, he, hS.unborrow (post := [Bf E8 5 x.1 x.2 r4.1]) h1 (Frees.cons (Bf.free .sc) Frees.nil)⟩) (fun x5 => ?_)
  refine T.move .list rfl (wants0 rfl) rfl rfl ?_
  refine T.extract .list rfl (wants0 rfl) rfl rfl rfl ?_
  refine T.extract .list rfl (wants0 rfl) rfl rfl rfl ?_
  refine T.assign .list rfl (wants0 rfl) rfl rfl ?_
  refine T.assign .list rfl (wants0 rfl) rfl rfl ?_
  refine T.nil ?_
  refine T.then_normal ?_
  refine T.seq ?_
  refine T.seqJ (fun (s2 : Bool) (x6 : Unit) => [(2, .pointer (some ⟨b1, 0, none⟩)), (5, .pointer (some ⟨b3, 0, none⟩)), (89, .bool s2)]) (fun s2 x6 => Cl b1 36 [.int .i64 0, .int .i64 0, .slice none 0 0, .int .i64 0] :: Cl b3 36 [.int .i64 r1.1, .int .i64 r2.1, .slice x4.1 s1.2.2.length x4.2, .int .i64 r3.1] :: Bf (Elt.pair E64 (Elt.pair E64 (Elt.slice (Elt.pair E64 (Elt.pair EStr (Elt.pair (Elt.pair EStr (Elt.pair (Elt.slice (Elt.pair EStr (Elt.pair E64 E64))) (Elt.slice (Elt.pair E64 EBool)))) (Elt.pair (Elt.slice (Elt.pair E64 (Elt.pair E64 EStr))) (Elt.pair (Elt.pair E64 (Elt.pair E64 EStr)) (Elt.pair E64 (Elt.pair (Elt.pair E64 (Elt.pair E64 EStr)) (Elt.pair (Elt.pair E64 (Elt.pair E64 EStr)) E64))))))))))) 58 x4.1 x4.2 s1.2.2 :: hs) (fun s2 => entry_Decode.k2 r1 r2 s1 r3 s2 = some r) (fun s2 x6 hk2 => ?_) (fun J2 => ?_)
  ·unfold entry_Decode.k2 at hk2
   refine T.cond rfl (fun hb1 => ?_) (fun hb1 => ?_)
   ·replace hk2 := inv_posB hb1 hk2
    refine T.seq ?_
    refine T.region ?_
    refine T.build .list (vals := []) (cells := #[.int .i64 0, .int .i64 0, .slice none 0 0, .int .i64 0]) rfl (wants0 rfl) rfl rfl (run_buildStruct (sizes := [1, 1, 1, 1]) (by kernel_rfl) (by kernel_rfl)) ?_
    refine T.store .list 0 rfl rfl (wants0 rfl) rfl rfl rfl rfl (Nat.le_of_ble_eq_true rfl) rfl (cs' := [.int .i64 0, .int .i64 0, .slice none 0 0, .int .i64 0]) rfl rfl ?_
    refine T.assign .list rfl (wants0 rfl) rfl rfl ?_
    refine T.nil ?_
    refine T.then_normal ?_
    refine T.ret ?_
    refine T.then_ret ?_
    obtain rfl := inv_some hk2
    refine T.nilRo (Elt.pair E64 (Elt.pair E64 (Elt.slice (Elt.pair E64 (Elt.pair EStr (Elt.pair (Elt.pair EStr (Elt.pair (Elt.slice (Elt.pair EStr (Elt.pair E64 E64))) (Elt.slice (Elt.pair E64 EBool)))) (Elt.pair (Elt.slice (Elt.pair E64 (Elt.pair E64 EStr))) (Elt.pair (Elt.pair E64 (Elt.pair E64 EStr)) (Elt.pair E64 (Elt.pair (Elt.pair E64 (Elt.pair E64 EStr)) (Elt.pair (Elt.pair E64 (Elt.pair E64 EStr)) E64))))))))))) none 0 ?_
    refine T.out2 rfl (OutRun.cellN 1 rfl rfl (vs := [.int .i64 0, .int .i64 0, .slice none 0 0, .int .i64 0]) rfl rfl) (OutRun.tmp rfl) (fun w hS => ⟨(none, 0), rfl, hS.pick [0] 4 rfl rfl nla rfl⟩)
   ·replace hk2 := inv_negB hb1 hk2
    refine T.skip ?_
    refine T.then_normal ?_
    refine T.seq ?_
    refine T.region ?_
    refine T.loadN .list 1 rfl rfl (wants0 rfl) rfl rfl (vs := [.int .i64 r1.1, .int .i64 r2.1, .slice x4.1 s1.2.2.length x4.2, .int .i64 r3.1]) rfl rfl ?_
    refine T.store .list 0 rfl rfl (wants0 rfl) rfl rfl rfl rfl (Nat.le_of_ble_eq_true rfl) rfl (cs' := [.int .i64 r1.1, .int .i64 r2.1, .slice x4.1 s1.2.2.length x4.2, .int .i64 r3.1]) rfl rfl ?_
    refine T.assign .list rfl (wants0 rfl) rfl rfl ?_
    refine T.nil ?_
    refine T.then_normal ?_
    refine T.ret ?_
    obtain rfl := inv_some hk2
    refine T.freeze 2 rfl rfl rfl ?_
    refine T.out2 rfl (OutRun.cellN 0 rfl rfl (vs := [.int .i64 r1.1, .int .i64 r2.1, .slice x4.1 s1.2.2.length x4.2, .int .i64 r3.1]) rfl rfl) (OutRun.tmp rfl) (fun w hS => ⟨x4, rfl, hS.pick [2] 3 rfl rfl nla rfl⟩)
  ·refine T.region ?_
   refine T.move .list rfl (wants0 rfl) rfl rfl ?_
   refine T.nilCheck .list rfl (wants0 rfl) rfl rfl ?_
   refine T.field .list rfl (wants0 rfl) rfl rfl ?_
   refine T.load .list 3 rfl rfl (wants0 rfl) rfl rfl rfl ?_
   refine T.move .list rfl (wants0 rfl) rfl rfl ?_
   refine T.bool (b := s1.2.1) (fun hb2 => ?_) (fun hb2 => ?_)
   ·replace hk1 := inv_posB hb2 hk1
    refine T.leave .list (wantsNot rfl rfl rfl hb2) rfl ?_
    refine T.leave .list (wantsNot rfl rfl rfl hb2) rfl ?_
    refine T.pickT .list rfl (wants0 rfl) rfl rfl hb2 rfl ?_
    refine T.move .list rfl (wants0 rfl) rfl rfl ?_
    refine T.leave .list (wantsNot rfl rfl rfl rfl) rfl ?_
    refine T.leave .list (wantsNot rfl rfl rfl rfl) rfl ?_
    refine T.leave .list (wantsNot rfl rfl rfl rfl) rfl ?_
    refine T.leave .list (wantsNot rfl rfl rfl rfl) rfl ?_
    refine T.pickT .list rfl (wants0 rfl) rfl rfl rfl rfl ?_
    refine T.nil ?_
    refine T.then_normal ?_
    exact T.le (EnvLe.cons rfl (EnvLe.cons rfl (EnvLe.cons rfl EnvLe.nil))) (T.pick [2, 4, 5] 6 rfl rfl nla rfl (J2 true () hk1))
   ·replace hk1 := inv_negB hb2 hk1
    refine T.move .list rfl (wants1 rfl rfl rfl hb2) rfl rfl ?_
    refine T.bin .list rfl (wants1 rfl rfl rfl hb2) rfl rfl rfl rfl ?_
    refine T.pickF .list rfl (wants0 rfl) rfl rfl hb2 rfl ?_
    refine T.move .list rfl (wants0 rfl) rfl rfl ?_
    refine T.bool (b := (decide (r4.2 = 0))) (fun hb3 => ?_) (fun hb3 => ?_)
    ·replace hk1 := inv_posB hb3 hk1
     refine T.move .list rfl (wants1 rfl rfl rfl (not_t hb3)) rfl rfl ?_
     refine T.move .list rfl (wants1 rfl rfl rfl (not_t hb3)) rfl rfl ?_
     obtain ⟨r5, hg5, hk1⟩ := inv_bind hk1
     refine T.call .list (wants1 rfl rfl rfl (not_t hb3)) rfl (run_callF (vs := [_, _]) rfl Tryd.func25 rfl (by decide) rfl) (fun w hS => (bytes_Equal.c (hB.up hS) (St.borrow (ros := [Ro E8 x5.1 x5.2 r4.1, Ro E8 A0 c0 l0]) (Ros.cons (hS.roBf 0 rfl rfl) (Ros.cons (hS.roRo 1 rfl) Ros.nil))) (i0 := 0) (i1 := 1) rfl rfl hg5).mono fun e w' ⟨x, he, h1⟩ => ⟨x, he, hS.unborrow (post := []) h1 Frees.nil⟩) (fun x7 => ?_)
     refine T.not .list rfl (wants1 rfl rfl rfl (not_t hb3)) rfl rfl ?_
     refine T.pickF .list rfl (wants0 rfl) rfl rfl (not_t hb3) rfl ?_
     refine T.nil ?_
     refine T.then_normal ?_
     exact T.le (EnvLe.cons rfl (EnvLe.cons rfl (EnvLe.cons rfl EnvLe.nil))) (T.pick [2, 4, 5] 6 rfl rfl nla rfl (J2 (!r5) () hk1))
    ·replace hk1 := inv_negB hb3 hk1
     refine T.leave .list (wantsNot rfl rfl rfl (not_f hb3)) rfl ?_
     refine T.leave .list (wantsNot rfl rfl rfl (not_f hb3)) rfl ?_
     refine T.leave .list (wantsNot rfl rfl rfl (not_f hb3)) rfl ?_
     refine T.leave .list (wantsNot rfl rfl rfl (not_f hb3)) rfl ?_
     refine T.pickT .list rfl (wants0 rfl) rfl rfl (not_f hb3) rfl ?_
     refine T.nil ?_
     refine T.then_normal ?_
     exact T.le (EnvLe.cons rfl (EnvLe.cons rfl (EnvLe.cons rfl EnvLe.nil))) (T.pick [2, 4, 5] 6 rfl rfl nla rfl (J2 true () hk1))
 ·refine T.block ?_
  obtain ⟨e1, hl1, hr⟩ := inv_bind hr
  refine T.nilBf (Elt.pair E64 (Elt.pair E64 (Elt.slice (Elt.pair E64 (Elt.pair EStr (Elt.pair (Elt.pair EStr (Elt.pair (Elt.slice (Elt.pair EStr (Elt.pair E64 E64))) (Elt.slice (Elt.pair E64 EBool)))) (Elt.pair (Elt.slice (Elt.pair E64 (Elt.pair E64 EStr))) (Elt.pair (Elt.pair E64 (Elt.pair E64 EStr)) (Elt.pair E64 (Elt.pair (Elt.pair E64 (Elt.pair E64 EStr)) (Elt.pair (Elt.pair E64 (Elt.pair E64 EStr)) E64))))))))))) 58 ?_
  refine T.le (EnvLe.cons rfl (EnvLe.cons rfl (EnvLe.cons rfl (EnvLe.cons rfl EnvLe.nil)))) (T.pick [4, 3, 2, 1, 0] 5 rfl rfl nla rfl (T.loop (s0 := (r3.2.2.1, r3.2.2.2, ([] : List (Int × Int × (List (Int × (List UInt8) × ((List UInt8) × (List ((List UInt8) × Int × Int)) × (List (Int × Bool))) × (List (Int × Int × (List UInt8))) × (Int × Int × (List UInt8)) × Int × (Int × Int × (List UInt8)) × (Int × Int × (List UInt8)) × Int)))))) (env := fun s3 x8 => [(0, .slice A0 l0.length c0), (2, .pointer (some ⟨b1, 0, none⟩)), (4, .pointer (some ⟨b2, 0, none⟩)), (5, .pointer (some ⟨b3, 0, none⟩))]) (hs := fun (s3 : Int × Bool × (List (Int × Int × (List (Int × (List UInt8) × ((List UInt8) × (List ((List UInt8) × Int × Int)) × (List (Int × Bool))) × (List (Int × Int × (List UInt8))) × (Int × Int × (List UInt8)) × Int × (Int × Int × (List UInt8)) × (Int × Int × (List UInt8)) × Int))))) (x8 : (Option Addr × Nat)) => Ro E8 A0 c0 l0 :: Cl b1 36 [.int .i64 0, .int .i64 0, .slice none 0 0, .int .i64 0] :: Cl b2 51 [.slice A0 l0.length c0, .int .i64 s3.1, .bool s3.2.1] :: Cl b3 36 [.int .i64 r1.1, .int .i64 r2.1, .slice x8.1 s3.2.2.length x8.2, .int .i64 r3.1] :: Bf (Elt.pair E64 (Elt.pair E64 (Elt.slice (Elt.pair E64 (Elt.pair EStr (Elt.pair (Elt.pair EStr (Elt.pair (Elt.slice (Elt.pair EStr (Elt.pair E64 E64))) (Elt.slice (Elt.pair E64 EBool)))) (Elt.pair (Elt.slice (Elt.pair E64 (Elt.pair E64 EStr))) (Elt.pair (Elt.pair E64 (Elt.pair E64 EStr)) (Elt.pair E64 (Elt.pair (Elt.pair E64 (Elt.pair E64 EStr)) (Elt.pair (Elt.pair E64 (Elt.pair E64 EStr)) E64))))))))))) 58 x8.1 x8.2 s3.2.2 :: hs) hl1 (none, 0) (fun K1 s3 x8 o1 he1 hm1 hx1 => ?_)))
  unfold entry_Decode.st1 at he1
  refine T.seq ?_
  refine T.seqJ (fun (s4 : Bool) (x9 : Unit) => [(0, .slice A0 l0.length c0), (2, .pointer (some ⟨b1, 0, none⟩)), (4, .pointer (some ⟨b2, 0, none⟩)), (5, .pointer (some ⟨b3, 0, none⟩)), (39, .bool s4)]) (fun s4 x9 => Ro E8 A0 c0 l0 :: Cl b1 36 [.int .i64 0, .int .i64 0, .slice none 0 0, .int .i64 0] :: Cl b2 51 [.slice A0 l0.length c0, .int .i64 s3.1, .bool s3.2.1] :: Cl b3 36 [.int .i64 r1.1, .int .i64 r2.1, .slice x8.1 s3.2.2.length x8.2, .int .i64 r3.1] :: Bf (Elt.pair E64 (Elt.pair E64 (Elt.slice (Elt.pair E64 (Elt.pair EStr (Elt.pair (Elt.pair EStr (Elt.pair (Elt.slice (Elt.pair EStr (Elt.pair E64 E64))) (Elt.slice (Elt.pair E64 EBool)))) (Elt.pair (Elt.slice (Elt.pair E64 (Elt.pair E64 EStr))) (Elt.pair (Elt.pair E64 (Elt.pair E64 EStr)) (Elt.pair E64 (Elt.pair (Elt.pair E64 (Elt.pair E64 EStr)) (Elt.pair (Elt.pair E64 (Elt.pair E64 EStr)) E64))))))))))) 58 x8.1 x8.2 s3.2.2 :: hs) (fun s4 => entry_Decode.k3 l0 s3 s4 = some o1) (fun s4 x9 hk3 => ?_) (fun J3 => ?_)
  ·unfold entry_Decode.k3 at hk3
   refine T.cond rfl (fun hb4 => ?_) (fun hb4 => ?_)
   ·replace hk3 := inv_posB hb4 hk3
    refine T.skip ?_
    refine T.then_normal ?_
    refine T.block ?_
    refine T.seq ?_
    refine T.region ?_
    refine T.move .list rfl (wants0 rfl) rfl rfl ?_
    refine T.pick [2, 0, 1, 3, 4] 5 rfl rfl nla (hs' := Cl b2 51 [.slice A0 l0.length c0, .int .i64 s3.1, .bool s3.2.1] :: Ro E8 A0 c0 l0 :: Cl b1 36 [.int .i64 0, .int .i64 0, .slice none 0 0, .int .i64 0] :: Cl b3 36 [.int .i64 r1.1, .int .i64 r2.1, .slice x8.1 s3.2.2.length x8.2, .int .i64 r3.1] :: Bf (Elt.pair E64 (Elt.pair E64 (Elt.slice (Elt.pair E64 (Elt.pair EStr (Elt.pair (Elt.pair EStr (Elt.pair (Elt.slice (Elt.pair EStr (Elt.pair E64 E64))) (Elt.slice (Elt.pair E64 EBool)))) (Elt.pair (Elt.slice (Elt.pair E64 (Elt.pair E64 EStr))) (Elt.pair (Elt.pair E64 (Elt.pair E64 EStr)) (Elt.pair E64 (Elt.pair (Elt.pair E64 (Elt.pair E64 EStr)) (Elt.pair (Elt.pair E64 (Elt.pair E64 EStr)) E64))))))))))) 58 x8.1 x8.2 s3.2.2 :: hs) rfl ?_
    obtain ⟨r6, hg6, hk3⟩ := inv_bind hk3
    refine T.call .list (wants0 rfl) rfl (run_callF (vs := [_]) rfl Tryd.func23 rfl (by decide) rfl) (fun w hS => entry_reader_byte.c hB hS (i0a := 1) (o0 := (l0, s3.1, s3.2.1)) rfl hg6) (fun x10 => ?_)
    refine T.move .list rfl (wants0 rfl) rfl rfl ?_
    refine T.pick [0, 1, 2, 3, 4] 5 rfl rfl nla (hs' := Cl b2 51 [.slice A0 l0.length c0, .int .i64 r6.2.2.1, .bool r6.2.2.2] :: Ro E8 A0 c0 l0 :: Cl b1 36 [.int .i64 0, .int .i64 0, .slice none 0 0, .int .i64 0] :: Cl b3 36 [.int .i64 r1.1, .int .i64 r2.1, .slice x8.1 s3.2.2.length x8.2, .int .i64 r3.1] :: Bf (Elt.pair E64 (Elt.pair E64 (Elt.slice (Elt.pair E64 (Elt.pair EStr (Elt.pair (Elt.pair EStr (Elt.pair (Elt.slice (Elt.pair EStr (Elt.pair E64 E64))) (Elt.slice (Elt.pair E64 EBool)))) (Elt.pair (Elt.slice (Elt.pair E64 (Elt.pair E64 EStr))) (Elt.pair (Elt.pair E64 (Elt.pair E64 EStr)) (Elt.pair E64 (Elt.pair (Elt.pair E64 (Elt.pair E64 EStr)) (Elt.pair (Elt.pair E64 (Elt.pair E64 EStr)) E64))))))))))) 58 x8.1 x8.2 s3.2.2 :: hs) rfl ?_
    obtain ⟨r7, hg7, hk3⟩ := inv_bind hk3
    refine T.call .list (wants0 rfl) rfl (run_callF (vs := [_]) rfl Tryd.func22 rfl (by decide) rfl) (fun w hS => entry_reader_uint.c hB hS (i0a := 1) (o0 := (l0, r6.2.2.1, r6.2.2.2)) rfl hg7) (fun x11 => ?_)
    refine T.build .list (vals := [(0, .int .i64 r6.1), (1, .int .i64 r7.1)]) (cells := #[.int .i64 r6.1, .int .i64 r7.1, .slice none 0 0]) rfl (wants0 rfl) rfl rfl (run_buildStruct (sizes := [1, 1, 1]) (by kernel_rfl) (by kernel_rfl)) ?_
    refine T.allocS .list rfl (wants0 rfl) rfl (cs := [.int .i64 0, .int .i64 0, .slice none 0 0]) rfl (fun b4 => ?_)
    refine T.store .list 0 rfl rfl (wants0 rfl) rfl rfl rfl rfl (Nat.le_of_ble_eq_true rfl) rfl (cs' := [.int .i64 r6.1, .int .i64 r7.1, .slice none 0 0]) rfl rfl ?_
    refine T.nil ?_
    refine T.then_normal ?_
    refine T.seqJ (fun (s5 : Int × Bool) (x12 : Unit) => [(0, .slice A0 l0.length c0), (2, .pointer (some ⟨b1, 0, none⟩)), (4, .pointer (some ⟨b2, 0, none⟩)), (5, .pointer (some ⟨b3, 0, none⟩)), (6, .pointer (some ⟨b4, 0, none⟩))]) (fun s5 x12 => Ro E8 A0 c0 l0 :: Cl b1 36 [.int .i64 0, .int .i64 0, .slice none 0 0, .int .i64 0] :: Cl b2 51 [.slice A0 l0.length c0, .int .i64 s5.1, .bool s5.2] :: Cl b3 36 [.int .i64 r1.1, .int .i64 r2.1, .slice x8.1 s3.2.2.length x8.2, .int .i64 r3.1] :: Bf (Elt.pair E64 (Elt.pair E64 (Elt.slice (Elt.pair E64 (Elt.pair EStr (Elt.pair (Elt.pair EStr (Elt.pair (Elt.slice (Elt.pair EStr (Elt.pair E64 E64))) (Elt.slice (Elt.pair E64 EBool)))) (Elt.pair (Elt.slice (Elt.pair E64 (Elt.pair E64 EStr))) (Elt.pair (Elt.pair E64 (Elt.pair E64 EStr)) (Elt.pair E64 (Elt.pair (Elt.pair E64 (Elt.pair E64 EStr)) (Elt.pair (Elt.pair E64 (Elt.pair E64 EStr)) E64))))))))))) 58 x8.1 x8.2 s3.2.2 :: Cl b4 58 [.int .i64 r6.1, .int .i64 r7.1, .slice none 0 0] :: hs) (fun s5 => entry_Decode.k4 s3 r6 r7 s5 = some o1) (fun s5 x12 hk4 => ?_) (fun J4 => ?_)
    ·unfold entry_Decode.k4 at hk4
     refine T.region ?_
     refine T.field .list rfl (wants0 rfl) rfl rfl ?_
     refine T.load .list 3 rfl rfl (wants0 rfl) rfl rfl rfl ?_
     refine T.loadN .list 5 rfl rfl (wants0 rfl) rfl rfl (vs := [.int .i64 r6.1, .int .i64 r7.1, .slice none 0 0]) rfl rfl ?_
     refine T.nilRo (Elt.pair E64 (Elt.pair EStr (Elt.pair (Elt.pair EStr (Elt.pair (Elt.slice (Elt.pair EStr (Elt.pair E64 E64))) (Elt.slice (Elt.pair E64 EBool)))) (Elt.pair (Elt.slice (Elt.pair E64 (Elt.pair E64 EStr))) (Elt.pair (Elt.pair E64 (Elt.pair E64 EStr)) (Elt.pair E64 (Elt.pair (Elt.pair E64 (Elt.pair E64 EStr)) (Elt.pair (Elt.pair E64 (Elt.pair E64 EStr)) E64)))))))) none 0 ?_
     refine T.lit (E := Elt.pair E64 (Elt.pair E64 (Elt.slice (Elt.pair E64 (Elt.pair EStr (Elt.pair (Elt.pair EStr (Elt.pair (Elt.slice (Elt.pair EStr (Elt.pair E64 E64))) (Elt.slice (Elt.pair E64 EBool)))) (Elt.pair (Elt.slice (Elt.pair E64 (Elt.pair E64 EStr))) (Elt.pair (Elt.pair E64 (Elt.pair E64 EStr)) (Elt.pair E64 (Elt.pair (Elt.pair E64 (Elt.pair E64 EStr)) (Elt.pair (Elt.pair E64 (Elt.pair E64 EStr)) E64))))))))))) .list (vals := [(0, .agg #[.int .i64 r6.1, .int .i64 r7.1, .slice none ((([] : List (Int × (List UInt8) × ((List UInt8) × (List ((List UInt8) × Int × Int)) × (List (Int × Bool))) × (List (Int × Int × (List UInt8))) × (Int × Int × (List UInt8)) × Int × (Int × Int × (List UInt8)) × (Int × Int × (List UInt8)) × Int))).length) 0])]) (cells := #[.int .i64 r6.1, .int .i64 r7.1, .slice none ((([] : List (Int × (List UInt8) × ((List UInt8) × (List ((List UInt8) × Int × Int)) × (List (Int × Bool))) × (List (Int × Int × (List UInt8))) × (Int × Int × (List UInt8)) × Int × (Int × Int × (List UInt8)) × (Int × Int × (List UInt8)) × Int))).length) 0]) rfl (wants0 rfl) rfl rfl rfl rfl rfl (by kernel_rfl) ([(r6.1, r7.1, ([] : List (Int × (List UInt8) × ((List UInt8) × (List ((List UInt8) × Int × Int)) × (List (Int × Bool))) × (List (Int × Int × (List UInt8))) × (Int × Int × (List UInt8)) × Int × (Int × Int × (List UInt8)) × (Int × Int × (List UInt8)) × Int)))] : List (Int × Int × (List (Int × (List UInt8) × ((List UInt8) × (List ((List UInt8) × Int × Int)) × (List (Int × Bool))) × (List (Int × Int × (List UInt8))) × (Int × Int × (List UInt8)) × Int × (Int × Int × (List UInt8)) × (Int × Int × (List UInt8)) × Int)))) rfl (fun _ _ _ _ ho => (Has.encs ho (Has.pair (Has.sc rfl) (Has.pair (Has.sc rfl) (Has.slice 0 rfl rfl) rfl) rfl) rfl rfl)) (fun b5 => ?_)
     obtain ⟨hc1, hk4⟩ := inv_chk hk4
     refine T.appBf .list 6 0 rfl rfl rfl rfl rfl (wants0 rfl) rfl rfl rfl rfl rfl rfl hc1 (fun _ _ => rfl) (fun A2 c2 => ?_)
     refine T.field .list rfl (wants0 rfl) rfl rfl ?_
     refine T.store .list 5 rfl rfl (wants0 rfl) rfl rfl rfl rfl (Nat.le_of_ble_eq_true rfl) rfl (cs' := [.int .i64 r1.1, .int .i64 r2.1, .slice A2 (((s3.2.2 ++ (([(r6.1, r7.1, ([] : List (Int × (List UInt8) × ((List UInt8) × (List ((List UInt8) × Int × Int)) × (List (Int × Bool))) × (List (Int × Int × (List UInt8))) × (Int × Int × (List UInt8)) × Int × (Int × Int × (List UInt8)) × (Int × Int × (List UInt8)) × Int)))] : List (Int × Int × (List (Int × (List UInt8) × ((List UInt8) × (List ((List UInt8) × Int × Int)) × (List (Int × Bool))) × (List (Int × Int × (List UInt8))) × (Int × Int × (List UInt8)) × Int × (Int × Int × (List UInt8)) × (Int × Int × (List UInt8)) × Int))))))).length) c2, .int .i64 r3.1]) rfl rfl ?_
     refine T.nil ?_
     refine T.in_normal ?_
     refine T.then_normal ?_
     obtain rfl := inv_some hk4
     exact T.le (EnvLe.cons rfl (EnvLe.cons rfl (EnvLe.cons rfl (EnvLe.cons rfl EnvLe.nil)))) (T.pick [2, 3, 4, 5, 6] 8 rfl rfl nla rfl (hm1 (s5.1, s5.2, (s3.2.2 ++ (([(r6.1, r7.1, ([] : List (Int × (List UInt8) × ((List UInt8) × (List ((List UInt8) × Int × Int)) × (List (Int × Bool))) × (List (Int × Int × (List UInt8))) × (Int × Int × (List UInt8)) × Int × (Int × Int × (List UInt8)) × (Int × Int × (List UInt8)) × Int)))] : List (Int × Int × (List (Int × (List UInt8) × ((List UInt8) × (List ((List UInt8) × Int × Int)) × (List (Int × Bool))) × (List (Int × Int × (List UInt8))) × (Int × Int × (List UInt8)) × Int × (Int × Int × (List UInt8)) × (Int × Int × (List UInt8)) × Int))))))) rfl (A2, c2)))
    ·refine T.seq ?_
     refine T.region ?_
     refine T.move .list rfl (wants0 rfl) rfl rfl ?_
     refine T.pick [1, 0, 2, 3, 4, 5] 6 rfl rfl nla (hs' := Cl b2 51 [.slice A0 l0.length c0, .int .i64 r7.2.2.1, .bool r7.2.2.2] :: Cl b4 58 [.int .i64 r6.1, .int .i64 r7.1, .slice none 0 0] :: Ro E8 A0 c0 l0 :: Cl b1 36 [.int .i64 0, .int .i64 0, .slice none 0 0, .int .i64 0] :: Cl b3 36 [.int .i64 r1.1, .int .i64 r2.1, .slice x8.1 s3.2.2.length x8.2, .int .i64 r3.1] :: Bf (Elt.pair E64 (Elt.pair E64 (Elt.slice (Elt.pair E64 (Elt.pair EStr (Elt.pair (Elt.pair EStr (Elt.pair (Elt.slice (Elt.pair EStr (Elt.pair E64 E64))) (Elt.slice (Elt.pair E64 EBool)))) (Elt.pair (Elt.slice (Elt.pair E64 (Elt.pair E64 EStr))) (Elt.pair (Elt.pair E64 (Elt.pair E64 EStr)) (Elt.pair E64 (Elt.pair (Elt.pair E64 (Elt.pair E64 EStr)) (Elt.pair (Elt.pair E64 (Elt.pair E64 EStr)) E64))))))))))) 58 x8.1 x8.2 s3.2.2 :: hs) rfl ?_
     obtain ⟨r8, hg8, hk3⟩ := inv_bind hk3
     refine T.call .list (wants0 rfl) rfl (run_callF (vs := [_]) rfl Tryd.func23 rfl (by decide) rfl) (fun w hS => entry_reader_byte.c hB hS (i0a := 2) (o0 := (l0, r7.2.2.1, r7.2.2.2)) rfl hg8) (fun x13 => ?_)
     refine T.assign .list rfl (wants0 rfl) rfl rfl ?_
     refine T.nil ?_
     refine T.then_normal ?_
     refine T.block ?_
     obtain ⟨e2, hl2, hk3⟩ := inv_bind hk3
     refine T.le (EnvLe.cons rfl (EnvLe.cons rfl (EnvLe.cons rfl (EnvLe.cons rfl (EnvLe.cons rfl (EnvLe.cons rfl EnvLe.nil)))))) (T.pick [2, 3, 0, 4, 5, 1] 6 rfl rfl nla rfl (T.loop (s0 := ()) (env := fun s6 x14 => [(0, .slice A0 l0.length c0), (2, .pointer (some ⟨b1, 0, none⟩)), (4, .pointer (some ⟨b2, 0, none⟩)), (5, .pointer (some ⟨b3, 0, none⟩)), (6, .pointer (some ⟨b4, 0, none⟩)), (7, .int .i64 r8.1)]) (hs := fun (s6 : Unit) (x14 : Unit) => Ro E8 A0 c0 l0 :: Cl b1 36 [.int .i64 0, .int .i64 0, .slice none 0 0, .int .i64 0] :: Cl b2 51 [.slice A0 l0.length c0, .int .i64 r8.2.2.1, .bool r8.2.2.2] :: Cl b3 36 [.int .i64 r1.1, .int .i64 r2.1, .slice x8.1 s3.2.2.length x8.2, .int .i64 r3.1] :: Bf (Elt.pair E64 (Elt.pair E64 (Elt.slice (Elt.pair E64 (Elt.pair EStr (Elt.pair (Elt.pair EStr (Elt.pair (Elt.slice (Elt.pair EStr (Elt.pair E64 E64))) (Elt.slice (Elt.pair E64 EBool)))) (Elt.pair (Elt.slice (Elt.pair E64 (Elt.pair E64 EStr))) (Elt.pair (Elt.pair E64 (Elt.pair E64 EStr)) (Elt.pair E64 (Elt.pair (Elt.pair E64 (Elt.pair E64 EStr)) (Elt.pair (Elt.pair E64 (Elt.pair E64 EStr)) E64))))))))))) 58 x8.1 x8.2 s3.2.2 :: Cl b4 58 [.int .i64 r6.1, .int .i64 r7.1, .slice none 0 0] :: hs) hl2 () (fun K2 s6 x14 o2 he2 hm2 hx2 => ?_)))
     unfold entry_Decode.st2 at he2
     refine T.seq ?_
     refine T.seqJ (fun (s7 : Bool) (x15 : Unit) => [(0, .slice A0 l0.length c0), (2, .pointer (some ⟨b1, 0, none⟩)), (4, .pointer (some ⟨b2, 0, none⟩)), (5, .pointer (some ⟨b3, 0, none⟩)), (6, .pointer (some ⟨b4, 0, none⟩)), (7, .int .i64 r8.1), (55, .bool s7)]) (fun s7 x15 => Ro E8 A0 c0 l0 :: Cl b1 36 [.int .i64 0, .int .i64 0, .slice none 0 0, .int .i64 0] :: Cl b2 51 [.slice A0 l0.length c0, .int .i64 r8.2.2.1, .bool r8.2.2.2] :: Cl b3 36 [.int .i64 r1.1, .int .i64 r2.1, .slice x8.1 s3.2.2.length x8.2, .int .i64 r3.1] :: Bf (Elt.pair E64 (Elt.pair E64 (Elt.slice (Elt.pair E64 (Elt.pair EStr (Elt.pair (Elt.pair EStr (Elt.pair (Elt.slice (Elt.pair EStr (Elt.pair E64 E64))) (Elt.slice (Elt.pair E64 EBool)))) (Elt.pair (Elt.slice (Elt.pair E64 (Elt.pair E64 EStr))) (Elt.pair (Elt.pair E64 (Elt.pair E64 EStr)) (Elt.pair E64 (Elt.pair (Elt.pair E64 (Elt.pair E64 EStr)) (Elt.pair (Elt.pair E64 (Elt.pair E64 EStr)) E64))))))))))) 58 x8.1 x8.2 s3.2.2 :: Cl b4 58 [.int .i64 r6.1, .int .i64 r7.1, .slice none 0 0] :: hs) (fun s7 => entry_Decode.k5 r8 s7 = some o2) (fun s7 x15 hk5 => ?_) (fun J5 => ?_)
     ·unfold entry_Decode.k5 at hk5
      refine T.cond rfl (fun hb5 => ?_) (fun hb5 => ?_)
      ·replace hk5 := inv_posB hb5 hk5
       cases hk5
      ·replace hk5 := inv_negB hb5 hk5
       refine T.exit ?_
       refine T.then_exit ?_
       refine T.then_exit ?_
       obtain rfl := inv_some hk5
       obtain rfl := hx2 _ rfl
       refine T.in_hit ?_
       refine T.then_normal ?_
       exact T.le (EnvLe.cons rfl (EnvLe.cons rfl (EnvLe.cons rfl (EnvLe.cons rfl (EnvLe.cons rfl EnvLe.nil))))) (T.pick [0, 1, 2, 3, 4, 5] 6 rfl rfl nla rfl (J4 r8.2.2 () hk3))
     ·refine T.region ?_
      refine T.move .list rfl (wants0 rfl) rfl rfl ?_
      refine T.bin .list rfl (wants0 rfl) rfl rfl rfl rfl ?_
      refine T.move .list rfl (wants0 rfl) rfl rfl ?_
      refine T.bool (b := (decide ((0 : Int) < r8.1))) (fun hb6 => ?_) (fun hb6 => ?_)
      ·replace he2 := inv_posB hb6 he2
       refine T.move .list rfl (wants1 rfl rfl rfl hb6) rfl rfl ?_
       refine T.nilCheck .list rfl (wants1 rfl rfl rfl hb6) rfl rfl ?_
       refine T.field .list rfl (wants1 rfl rfl rfl hb6) rfl rfl ?_
       refine T.load .list 2 rfl rfl (wants1 rfl rfl rfl hb6) rfl rfl rfl ?_
       refine T.not .list rfl (wants1 rfl rfl rfl hb6) rfl rfl ?_
       refine T.pickT .list rfl (wants0 rfl) rfl rfl hb6 rfl ?_
       refine T.nil ?_
       refine T.then_normal ?_
       exact T.le (EnvLe.cons rfl (EnvLe.cons rfl (EnvLe.cons rfl (EnvLe.cons rfl (EnvLe.cons rfl (EnvLe.cons rfl (EnvLe.cons rfl EnvLe.nil))))))) (T.pick [0, 1, 2, 3, 4, 5] 6 rfl rfl nla rfl (J5 (!r8.2.2.2) () he2))
      ·replace he2 := inv_negB hb6 he2
       refine T.leave .list (wantsNot rfl rfl rfl hb6) rfl ?_
       refine T.leave .list (wantsNot rfl rfl rfl hb6) rfl ?_
       refine T.leave .list (wantsNot rfl rfl rfl hb6) rfl ?_
       refine T.leave .list (wantsNot rfl rfl rfl hb6) rfl ?_
       refine T.leave .list (wantsNot rfl rfl rfl hb6) rfl ?_
       refine T.pickF .list rfl (wants0 rfl) rfl rfl hb6 rfl ?_
       refine T.nil ?_
       refine T.then_normal ?_
       exact T.le (EnvLe.cons rfl (EnvLe.cons rfl (EnvLe.cons rfl (EnvLe.cons rfl (EnvLe.cons rfl (EnvLe.cons rfl (EnvLe.cons rfl EnvLe.nil))))))) (T.pick [0, 1, 2, 3, 4, 5] 6 rfl rfl nla rfl (J5 false () he2))
   ·replace hk3 := inv_negB hb4 hk3
    refine T.exit ?_
    refine T.then_exit ?_
    refine T.then_exit ?_
    obtain rfl := inv_some hk3
    obtain rfl := hx1 _ rfl
    refine T.in_hit ?_
    refine T.then_normal ?_
    exact T.le (EnvLe.cons rfl (EnvLe.cons rfl (EnvLe.cons rfl (EnvLe.cons rfl EnvLe.nil)))) (T.pick [0, 1, 2, 3, 4] 5 rfl rfl nla rfl (J1 s3 x8 hr))
  ·refine T.region ?_
   refine T.move .list rfl (wants0 rfl) rfl rfl ?_
   refine T.nilCheck .list rfl (wants0 rfl) rfl rfl ?_
   refine T.field .list rfl (wants0 rfl) rfl rfl ?_
   refine T.load .list 2 rfl rfl (wants0 rfl) rfl rfl rfl ?_
   refine T.not .list rfl (wants0 rfl) rfl rfl ?_
   refine T.move .list rfl (wants0 rfl) rfl rfl ?_
   refine T.bool (b := s3.2.1) (fun hb7 => ?_) (fun hb7 => ?_)
   ·replace he1 := inv_posB hb7 he1
    refine T.leave .list (wantsNot rfl rfl rfl (not_t hb7)) rfl ?_
    refine T.leave .list (wantsNot rfl rfl rfl (not_t hb7)) rfl ?_
    refine T.leave .list (wantsNot rfl rfl rfl (not_t hb7)) rfl ?_
    refine T.leave .list (wantsNot rfl rfl rfl (not_t hb7)) rfl ?_
    refine T.leave .list (wantsNot rfl rfl rfl (not_t hb7)) rfl ?_
    refine T.leave .list (wantsNot rfl rfl rfl (not_t hb7)) rfl ?_
    refine T.leave .list (wantsNot rfl rfl rfl (not_t hb7)) rfl ?_
    refine T.pickF .list rfl (wants0 rfl) rfl rfl (not_t hb7) rfl ?_
    refine T.move .list rfl (wants0 rfl) rfl rfl ?_
    refine T.leave .list (wantsNot rfl rfl rfl rfl) rfl ?_
    refine T.leave .list (wantsNot rfl rfl rfl rfl) rfl ?_
    refine T.leave .list (wantsNot rfl rfl rfl rfl) rfl ?_
    refine T.leave .list (wantsNot rfl rfl rfl rfl) rfl ?_
    refine T.pickF .list rfl (wants0 rfl) rfl rfl rfl rfl ?_
    refine T.nil ?_
    refine T.then_normal ?_
    exact T.le (EnvLe.cons rfl (EnvLe.cons rfl (EnvLe.cons rfl (EnvLe.cons rfl (EnvLe.cons rfl EnvLe.nil))))) (T.pick [0, 1, 2, 3, 4] 5 rfl rfl nla rfl (J3 false () he1))
   ·replace he1 := inv_negB hb7 he1
    refine T.move .list rfl (wants1 rfl rfl rfl (not_f hb7)) rfl rfl ?_
    refine T.nilCheck .list rfl (wants1 rfl rfl rfl (not_f hb7)) rfl rfl ?_
    refine T.field .list rfl (wants1 rfl rfl rfl (not_f hb7)) rfl rfl ?_
    refine T.load .list 2 rfl rfl (wants1 rfl rfl rfl (not_f hb7)) rfl rfl rfl ?_
    refine T.move .list rfl (wants1 rfl rfl rfl (not_f hb7)) rfl rfl ?_
    refine T.lenSlice .list rfl (wants1 rfl rfl rfl (not_f hb7)) rfl rfl ?_
    refine T.bin .list rfl (wants1 rfl rfl rfl (not_f hb7)) rfl rfl rfl rfl ?_
    refine T.pickT .list rfl (wants0 rfl) rfl rfl (not_f hb7) rfl ?_
    refine T.move .list rfl (wants0 rfl) rfl rfl ?_
    refine T.bool (b := (decide (s3.1 < ((l0.length : Int))))) (fun hb8 => ?_) (fun hb8 => ?_)
    ·replace he1 := inv_posB hb8 he1
     refine T.field .list rfl (wants1 rfl rfl rfl hb8) rfl rfl ?_
     refine T.load .list 3 rfl rfl (wants1 rfl rfl rfl hb8) rfl rfl rfl ?_
     refine T.lenSlice .list rfl (wants1 rfl rfl rfl hb8) rfl rfl ?_
     refine T.bin .list rfl (wants1 rfl rfl rfl hb8) rfl rfl rfl rfl ?_
     refine T.pickT .list rfl (wants0 rfl) rfl rfl hb8 rfl ?_
     refine T.nil ?_
     refine T.then_normal ?_
     exact T.le (EnvLe.cons rfl (EnvLe.cons rfl (EnvLe.cons rfl (EnvLe.cons rfl (EnvLe.cons rfl EnvLe.nil))))) (T.pick [0, 1, 2, 3, 4] 5 rfl rfl nla rfl (J3 (decide ((((s3.2.2.length : Int))) ≤ 3)) () he1))
    ·replace he1 := inv_negB hb8 he1
     refine T.leave .list (wantsNot rfl rfl rfl hb8) rfl ?_
     refine T.leave .list (wantsNot rfl rfl rfl hb8) rfl ?_
     refine T.leave .list (wantsNot rfl rfl rfl hb8) rfl ?_
     refine T.leave .list (wantsNot rfl rfl rfl hb8) rfl ?_
     refine T.pickF .list rfl (wants0 rfl) rfl rfl hb8 rfl ?_
     refine T.nil ?_
     refine T.then_normal ?_
     exact T.le (EnvLe.cons rfl (EnvLe.cons rfl (EnvLe.cons rfl (EnvLe.cons rfl (EnvLe.cons rfl EnvLe.nil))))) (T.pick [0, 1, 2, 3, 4] 5 rfl rfl nla rfl (J3 false () he1))
end Go.Proofs.YtpogdeibkghhaaaDoor
