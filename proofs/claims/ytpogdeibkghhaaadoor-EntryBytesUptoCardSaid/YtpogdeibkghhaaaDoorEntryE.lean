/- EntryE: what the functions compute, and that the program computes it; printed by a program of ours. -/
import Derived.Test.YtpogdeibkghhaaaDoorEntry
import Derived.Test.YtpogdeibkghhaaaDoorNam
import Derived.Test.YtpogdeibkghhaaaDoorEnc
import Derived.Test.YtpogdeibkghhaaaDoorIfc
set_option linter.unusedVariables false
set_option linter.unusedSimpArgs false
namespace Go.Proofs.YtpogdeibkghhaaaDoor
open Go.RowKit
set_option maxRecDepth 100000
set_option maxHeartbeats 4000000
variable {B : World} {hs : List MP} {w : World}
noncomputable def entry_bounds.k1 (a0 : Int) (s1 : Bool) : Option (Int × ty0) :=
  (if s1 = true then some (0, 2147483647, true) else (if ((decide (a0 = 3))) = true then some (1, 1048576, true) else (if ((decide (a0 = 5))) = true then some (1, 2, true) else some (0, 0, false))))
noncomputable def entry_bounds.impl (a0 : Int) : Option (Int × ty0) :=
  (if ((decide (a0 = 1))) = true then some (0, 0, true) else (if ((decide (a0 = 2))) = true then entry_bounds.k1 a0 (decide (a0 = 2)) else entry_bounds.k1 a0 (decide (a0 = 4))))
theorem entry_bounds.c {a0 : Int} (hB : Base B) (hS : St B (hs) w) {r : Int × ty0} (hr : entry_bounds.impl a0 = some r) :
    Calls Tryd.prog 30 #[.int .i64 a0] w fun e w' => ∃ x : Unit, e = .returned (.tuple #[.int .i64 r.1, .int .i64 r.2.1, .bool r.2.2]) ∧ St B (hs) w' := by
 unfold entry_bounds.impl at hr
 refine calls_T Tryd.func30 rfl rfl rfl hS ?_
 refine sq ?_
 refine A.cd hr rfl (fun hb1 hr => ?_) (fun hb1 hr => ?_)
 ·refine sq ?_
  obtain rfl := inv_some hr
  refine pk [] 0 ?_
  refine T.ret3 rfl rfl rfl rfl (fun w hS => ⟨(), rfl, hS⟩)
 ·refine T.seqJ (fun (s1 : Bool) (x1 : Unit) => [(5, .int .i64 a0), (8, .bool s1)]) (fun s1 x1 => hs) (fun s1 => entry_bounds.k1 a0 s1 = some r) (fun s1 x1 hk1 => ?_) (fun J1 => ?_)
  ·unfold entry_bounds.k1 at hk1
   refine A.cd hk1 rfl (fun hb2 hk1 => ?_) (fun hb2 hk1 => ?_)
   ·refine sq ?_
    obtain rfl := inv_some hk1
    refine pk [] 0 ?_
    refine T.ret3 rfl rfl rfl rfl (fun w hS => ⟨(), rfl, hS⟩)
   ·refine sq ?_
    refine A.cd hk1 rfl (fun hb3 hk1 => ?_) (fun hb3 hk1 => ?_)
    ·refine sq ?_
     obtain rfl := inv_some hk1
     refine pk [] 0 ?_
     refine T.ret3 rfl rfl rfl rfl (fun w hS => ⟨(), rfl, hS⟩)
    ·refine sq ?_
     refine A.cd hk1 rfl (fun hb4 hk1 => ?_) (fun hb4 hk1 => ?_)
     ·refine sq ?_
      obtain rfl := inv_some hk1
      refine pk [] 0 ?_
      refine T.ret3 rfl rfl rfl rfl (fun w hS => ⟨(), rfl, hS⟩)
     ·refine sq ?_
      obtain rfl := inv_some hk1
      refine pk [] 0 ?_
      refine T.ret3 rfl rfl rfl rfl (fun w hS => ⟨(), rfl, hS⟩)
  ·refine sq ?_
   refine A.cd hr rfl (fun hb5 hr => ?_) (fun hb5 hr => ?_)
   ·refine T.skip ?_
    refine sx ?_
    exact jn [] 0 (J1 (decide (a0 = 2)) () hr)
   ·refine T.region ?_
    refine sx ?_
    exact jn [] 0 (J1 (decide (a0 = 4)) () hr)

noncomputable def entry_command.impl (a0 : ty8) : Option Bool :=
  (if ((decide ((0 : Int) ≤ a0.1))) = true then (if ((decide (a0.1 < 8))) = true then (if ((decide ((1 : Int) ≤ a0.2.1))) = true then (if ((decide (a0.2.1 ≤ 2147483647))) = true then (txn_Right.impl a0.2.2).bind fun r1 => some r1 else some false) else some false) else some false) else some false)
theorem entry_command.c {a0 : ty8} {i0a c0a : Nat} {A0a : Option Addr} (hB : Base B) (hS : St B (hs) w) (h0a : (hs)[i0a]? = some (Ro el17 A0a c0a a0.2.2)) {r : Bool} (hr : entry_command.impl a0 = some r) :
    Calls Tryd.prog 33 #[.agg #[.int .i64 a0.1, .int .i64 a0.2.1, .slice A0a a0.2.2.length c0a]] w fun e w' => ∃ x : Unit, e = .returned (.bool r) ∧ St B (hs) w' := by
 unfold entry_command.impl at hr
 refine calls_T Tryd.func33 rfl rfl rfl hS ?_
 refine T.front i0a h0a ?_
 refine sq ?_
 refine A.bx rfl rfl (fun b1 => ?_)
 refine sq ?_
 refine br hr (fun hb1 hr => ?_) (fun hb1 hr => ?_)
 ·refine st ?_
  refine br hr (fun hb2 hr => ?_) (fun hb2 hr => ?_)
  ·refine st ?_
   refine br hr (fun hb3 hr => ?_) (fun hb3 hr => ?_)
   ·refine st ?_
    refine br hr (fun hb4 hr => ?_) (fun hb4 hr => ?_)
    ·refine st ?_
     obtain ⟨r1, hg1, hr⟩ := inv_bind hr
     refine A.c1g rfl rfl hb4 rfl rfl Tryd.func55 rfl (fun w hS => txn_Right.c hB hS (i0 := 1) rfl hg1) (fun x1 => ?_)
     refine st ?_
     obtain rfl := inv_some hr
     refine pk [] 2 ?_
     refine T.ret1 rfl rfl (fun w hS => ⟨(), rfl, hS⟩)
    ·refine st ?_
     obtain rfl := inv_some hr
     refine pk [] 2 ?_
     refine T.ret1 rfl rfl (fun w hS => ⟨(), rfl, hS⟩)
   ·refine st ?_
    obtain rfl := inv_some hr
    refine pk [] 2 ?_
    refine T.ret1 rfl rfl (fun w hS => ⟨(), rfl, hS⟩)
  ·refine st ?_
   obtain rfl := inv_some hr
   refine pk [] 2 ?_
   refine T.ret1 rfl rfl (fun w hS => ⟨(), rfl, hS⟩)
 ·refine st ?_
  obtain rfl := inv_some hr
  refine pk [] 2 ?_
  refine T.ret1 rfl rfl (fun w hS => ⟨(), rfl, hS⟩)

noncomputable def entry_Right_1.impl (a0 : ty8) : Option Bool :=
  (entry_command.impl a0).bind fun r1 => some (!r1)
theorem entry_Right_1.c {a0 : ty8} {i0a c0a : Nat} {A0a : Option Addr} (hB : Base B) (hS : St B (hs) w) (h0a : (hs)[i0a]? = some (Ro el17 A0a c0a a0.2.2)) {r : Bool} (hr : entry_Right_1.impl a0 = some r) :
    Calls Tryd.prog 32 #[.agg #[.int .i64 a0.1, .int .i64 a0.2.1, .slice A0a a0.2.2.length c0a]] w fun e w' => ∃ x : Unit, e = .returned (.bool r) ∧ St B (hs) w' := by
 unfold entry_Right_1.impl at hr
 refine calls_T Tryd.func32 rfl rfl rfl hS ?_
 refine T.front i0a h0a ?_
 refine sq ?_
 refine A.bx rfl rfl (fun b1 => ?_)
 refine sq ?_
 obtain ⟨r1, hg1, hr⟩ := inv_bind hr
 refine A.c1 rfl rfl Tryd.func33 rfl (fun w hS => entry_command.c hB hS (i0a := 1) (a0 := a0) rfl hg1) (fun x1 => ?_)
 refine T.not .list rfl (wants0 rfl) rfl rfl ?_
 refine st ?_
 obtain rfl := inv_some hr
 refine pk [] 2 ?_
 refine T.ret1 rfl rfl (fun w hS => ⟨(), rfl, hS⟩)

noncomputable def slices_IndexFunc_api_Command_api_Command__entry_Right_1.k1 (s1 : Unit) : Option Int :=
  some (-1)
noncomputable def slices_IndexFunc_api_Command_api_Command__entry_Right_1.st1 (l0 : List ty8) (s2 : Int) : Option (Int ⊕ (Int ⊕ Unit)) :=
  (if ((decide (s2 < ((l0.length : Int))))) = true then chk (0 ≤ s2 ∧ s2 < (l0.length : Int)) ((entry_Right_1.impl ((l0.getD (s2 : Int).toNat default))).bind fun r1 => (if r1 = true then some (.inr (.inl s2)) else some (.inl (IntKind.i64.wrap (s2 + 1))))) else some (.inr (.inr ())))
noncomputable def slices_IndexFunc_api_Command_api_Command__entry_Right_1.impl (l0 : List ty8) : Option Int :=
  (loop (slices_IndexFunc_api_Command_api_Command__entry_Right_1.st1 l0) 0).bind (fun e1 => match e1 with | .inl v => some v | .inr v => slices_IndexFunc_api_Command_api_Command__entry_Right_1.k1 v)
theorem slices_IndexFunc_api_Command_api_Command__entry_Right_1.c {i0 c0 : Nat} {A0 : Option Addr} {l0 : List ty8} (hB : Base B) (hS : St B (hs) w) (h0 : (hs)[i0]? = some (Ro el20 A0 c0 l0)) {r : Int} (hr : slices_IndexFunc_api_Command_api_Command__entry_Right_1.impl l0 = some r) :
    Calls Tryd.prog 54 #[.slice A0 l0.length c0, .func (.func 32) #[] #[]] w fun e w' => ∃ x : Unit, e = .returned (.int .i64 r) ∧ St B (hs) w' := by
 unfold slices_IndexFunc_api_Command_api_Command__entry_Right_1.impl at hr
 refine calls_T Tryd.func54 rfl rfl rfl hS ?_
 refine T.front i0 h0 ?_
 refine T.seq ?_
 refine st ?_
 refine T.seqJ (fun (s1 : Unit) (x1 : Unit) => []) (fun s1 x1 => hs) (fun s1 => slices_IndexFunc_api_Command_api_Command__entry_Right_1.k1 s1 = some r) (fun s1 x1 hk1 => ?_) (fun J1 => ?_)
 ·unfold slices_IndexFunc_api_Command_api_Command__entry_Right_1.k1 at hk1
  refine sq ?_
  obtain rfl := inv_some hk1
  refine pk [] 0 ?_
  refine T.ret1 rfl rfl (fun w hS => ⟨(), rfl, hS⟩)
 ·refine sq ?_
  obtain ⟨e1, hl1, hr⟩ := inv_bind hr
  refine jn [0] 1 (T.loop (s0 := 0) (env := fun s2 x2 => [(0, .slice A0 l0.length c0), (1, .func (.func 32) #[] #[]), (7, .int .i64 ((l0.length : Int))), (8, .int .i64 s2)]) (hs := fun (s2 : Int) (x2 : Unit) => Ro el20 A0 c0 l0 :: hs) hl1 () (fun K1 s2 x2 o1 he1 hm1 hx1 => ?_))
  unfold slices_IndexFunc_api_Command_api_Command__entry_Right_1.st1 at he1
  refine sq ?_
  refine A.cd he1 rfl (fun hb1 he1 => ?_) (fun hb1 he1 => ?_)
  ·refine sq ?_
   obtain ⟨hc1, he1⟩ := inv_chk he1
   refine T.idxRo .list 0 rfl rfl (wants0 rfl) rfl rfl rfl hc1.1 hc1.2 (Nat.le_refl _) ?_
   refine T.ldFRo 0 .list Fd.self (Sh.pair Sh.sc (Sh.pair Sh.sc Sh.slice)) rfl (.inl rfl) rfl rfl hc1.1 hc1.2 rfl (wants0 rfl) rfl rfl rfl (v := fun x3 => .agg #[.int .i64 ((((l0.getD (s2 : Int).toNat default)).1)), .int .i64 ((((l0.getD (s2 : Int).toNat default)).2.1)), .slice x3.2.2.1 (((((l0.getD (s2 : Int).toNat default)).2.2)).length) x3.2.2.2]) (hs' := fun x3 => Ro el17 x3.2.2.1 x3.2.2.2 ((((l0.getD (s2 : Int).toNat default)).2.2)) :: Ro el20 A0 c0 l0 :: hs) (fun _ => rfl) (fun _ => rfl) (fun x3 => ?_)
   obtain ⟨r1, hg1, he1⟩ := inv_bind he1
   refine T.call .list (wants0 rfl) rfl (run_callV (vs := [_]) (caps := []) (args := [_]) rfl rfl Tryd.func32 rfl (by decide) rfl rfl) (fun w hS => entry_Right_1.c hB hS (i0a := 0) (a0 := (l0.getD (s2 : Int).toNat default)) rfl hg1) (fun x4 => ?_)
   refine st ?_
   refine A.cd he1 rfl (fun hb2 he1 => ?_) (fun hb2 he1 => ?_)
   ·refine sq ?_
    obtain rfl := inv_some he1
    obtain rfl := hx1 _ rfl
    refine st ?_
    obtain rfl := inv_some hr
    refine pk [] 2 ?_
    refine T.ret1 rfl rfl (fun w hS => ⟨(), rfl, hS⟩)
   ·refine T.skip ?_
    refine sx ?_
    refine T.region ?_
    refine sx ?_
    obtain rfl := inv_some he1
    exact jn [1] 2 (hm1 (IntKind.i64.wrap (s2 + 1)) rfl ())
  ·refine T.exit ?_
   refine sx ?_
   obtain rfl := inv_some he1
   obtain rfl := hx1 _ rfl
   refine sx ?_
   exact T.le EnvLe.nil (T.pick [] 1 rfl rfl nla rfl (J1 () () hr))

noncomputable def slices_ContainsFunc_api_Command_api_Command__entry_Right_1.impl (l0 : List ty8) : Option Bool :=
  (slices_IndexFunc_api_Command_api_Command__entry_Right_1.impl l0).bind fun r1 => some (decide ((0 : Int) ≤ r1))
theorem slices_ContainsFunc_api_Command_api_Command__entry_Right_1.c {i0 c0 : Nat} {A0 : Option Addr} {l0 : List ty8} (hB : Base B) (hS : St B (hs) w) (h0 : (hs)[i0]? = some (Ro el20 A0 c0 l0)) {r : Bool} (hr : slices_ContainsFunc_api_Command_api_Command__entry_Right_1.impl l0 = some r) :
    Calls Tryd.prog 31 #[.slice A0 l0.length c0, .func (.func 32) #[] #[]] w fun e w' => ∃ x : Unit, e = .returned (.bool r) ∧ St B (hs) w' := by
 unfold slices_ContainsFunc_api_Command_api_Command__entry_Right_1.impl at hr
 refine calls_T Tryd.func31 rfl rfl rfl hS ?_
 refine T.front i0 h0 ?_
 refine sq ?_
 obtain ⟨r1, hg1, hr⟩ := inv_bind hr
 refine A.c2 rfl rfl rfl Tryd.func54 rfl (fun w hS => slices_IndexFunc_api_Command_api_Command__entry_Right_1.c hB hS (i0 := 0) rfl hg1) (fun x1 => ?_)
 refine st ?_
 obtain rfl := inv_some hr
 refine pk [] 1 ?_
 refine T.ret1 rfl rfl (fun w hS => ⟨(), rfl, hS⟩)

noncomputable def entry_Right.k1 (a0 : Int × Int × (List ty8) × Int) (s1 : Bool) : Option Bool :=
  (if s1 = true then some false else (if ((!(decide (a0.1 = 1)))) = true then some (decide ((((a0.2.2.1.length : Int))) = 0)) else (if ((decide ((1 : Int) ≤ ((a0.2.2.1.length : Int))))) = true then (if ((decide ((((a0.2.2.1.length : Int))) ≤ 3))) = true then (slices_ContainsFunc_api_Command_api_Command__entry_Right_1.impl a0.2.2.1).bind fun r2 => some (!r2) else some false) else some false)))
noncomputable def entry_Right.impl (a0 : Int × Int × (List ty8) × Int) : Option Bool :=
  (entry_bounds.impl a0.1).bind fun r1 => (if r1.2.2 = true then (if ((decide (a0.2.1 < 0))) = true then entry_Right.k1 a0 true else (if ((decide ((4 : Int) ≤ a0.2.1))) = true then entry_Right.k1 a0 true else (if ((decide (a0.2.2.2 < r1.1))) = true then entry_Right.k1 a0 true else entry_Right.k1 a0 (decide (r1.2.1 < a0.2.2.2))))) else entry_Right.k1 a0 true)
theorem entry_Right.c {a0 : Int × Int × (List ty8) × Int} {i0a c0a : Nat} {A0a : Option Addr} (hB : Base B) (hS : St B (hs) w) (h0a : (hs)[i0a]? = some (Ro el20 A0a c0a a0.2.2.1)) {r : Bool} (hr : entry_Right.impl a0 = some r) :
    Calls Tryd.prog 13 #[.agg #[.int .i64 a0.1, .int .i64 a0.2.1, .slice A0a a0.2.2.1.length c0a, .int .i64 a0.2.2.2]] w fun e w' => ∃ x : Unit, e = .returned (.bool r) ∧ St B (hs) w' := by
 unfold entry_Right.impl at hr
 refine calls_T Tryd.func13 rfl rfl rfl hS ?_
 refine T.front i0a h0a ?_
 refine sq ?_
 refine A.bx rfl rfl (fun b1 => ?_)
 refine sq ?_
 obtain ⟨r1, hg1, hr⟩ := inv_bind hr
 refine A.c1 rfl rfl Tryd.func30 rfl (fun w hS => entry_bounds.c hB hS  hg1) (fun x1 => ?_)
 refine st ?_
 refine T.seq ?_
 refine T.seqJ (fun (s1 : Bool) (x2 : Unit) => [(1, .pointer (some ⟨b1, 0, none⟩)), (36, .bool s1)]) (fun s1 x2 => Cl b1 36 [.int .i64 a0.1, .int .i64 a0.2.1, .slice A0a a0.2.2.1.length c0a, .int .i64 a0.2.2.2] :: Ro el20 A0a c0a a0.2.2.1 :: hs) (fun s1 => entry_Right.k1 a0 s1 = some r) (fun s1 x2 hk1 => ?_) (fun J1 => ?_)
 ·unfold entry_Right.k1 at hk1
  refine A.cd hk1 rfl (fun hb1 hk1 => ?_) (fun hb1 hk1 => ?_)
  ·refine sq ?_
   obtain rfl := inv_some hk1
   refine pk [] 2 ?_
   refine T.ret1 rfl rfl (fun w hS => ⟨(), rfl, hS⟩)
  ·refine sq ?_
   refine A.cd hk1 rfl (fun hb2 hk1 => ?_) (fun hb2 hk1 => ?_)
   ·refine sq ?_
    obtain rfl := inv_some hk1
    refine pk [] 2 ?_
    refine T.ret1 rfl rfl (fun w hS => ⟨(), rfl, hS⟩)
   ·refine sq ?_
    refine br hk1 (fun hb3 hk1 => ?_) (fun hb3 hk1 => ?_)
    ·refine st ?_
     refine br hk1 (fun hb4 hk1 => ?_) (fun hb4 hk1 => ?_)
     ·refine st ?_
      obtain ⟨r2, hg2, hk1⟩ := inv_bind hk1
      refine A.c2g rfl rfl hb4 rfl rfl rfl Tryd.func31 rfl (fun w hS => slices_ContainsFunc_api_Command_api_Command__entry_Right_1.c hB hS (i0 := 1) rfl hg2) (fun x3 => ?_)
      refine T.not .list rfl (wants1 rfl rfl rfl hb4) rfl rfl ?_
      refine st ?_
      obtain rfl := inv_some hk1
      refine pk [] 2 ?_
      refine T.ret1 rfl rfl (fun w hS => ⟨(), rfl, hS⟩)
     ·refine st ?_
      obtain rfl := inv_some hk1
      refine pk [] 2 ?_
      refine T.ret1 rfl rfl (fun w hS => ⟨(), rfl, hS⟩)
    ·refine st ?_
     obtain rfl := inv_some hk1
     refine pk [] 2 ?_
     refine T.ret1 rfl rfl (fun w hS => ⟨(), rfl, hS⟩)
 ·refine st ?_
  refine T.not .list rfl (wants0 rfl) rfl rfl ?_
  refine st ?_
  refine br hr (fun hb5 hr => ?_) (fun hb5 hr => ?_)
  ·refine st ?_
   refine br hr (fun hb6 hr => ?_) (fun hb6 hr => ?_)
   ·refine sx ?_
    exact jn [0, 1] 2 (J1 true () hr)
   ·refine st ?_
    refine br hr (fun hb7 hr => ?_) (fun hb7 hr => ?_)
    ·refine sx ?_
     exact jn [0, 1] 2 (J1 true () hr)
    ·refine st ?_
     refine br hr (fun hb8 hr => ?_) (fun hb8 hr => ?_)
     ·refine sx ?_
      exact jn [0, 1] 2 (J1 true () hr)
     ·refine sx ?_
      exact jn [0, 1] 2 (J1 (decide (r1.2.1 < a0.2.2.2)) () hr)
  ·refine sx ?_
   exact jn [0, 1] 2 (J1 true () hr)

noncomputable def entry_value.impl (a0 : ty4) : Option (List UInt8) :=
  (keys_Key.impl (([a0] : List ty4))).bind fun r1 => (wire_Bytes.impl r1.1).bind fun r2 => some r2
theorem entry_value.c {a0 : ty4} (hB : Base B) (hS : St B (hs) w) {r : List UInt8} (hr : entry_value.impl a0 = some r) :
    Calls Tryd.prog 53 #[.agg #[.int .i64 a0.1, .int .i64 a0.2.1, str a0.2.2]] w fun e w' => ∃ x : ty3, e = .returned (.slice x.1 r.length x.2) ∧ St B (Bf E8 5 x.1 x.2 r :: hs) w' := by
 unfold entry_value.impl at hr
 refine calls_T Tryd.func53 rfl rfl rfl hS ?_
 refine sq ?_
 refine A.bx rfl rfl (fun b1 => ?_)
 refine sq ?_
 refine T.lit (E := Elt.pair E64 el1) .list (vals := [(0, .agg #[.int .i64 a0.1, .int .i64 a0.2.1, str a0.2.2])]) (cells := #[.int .i64 a0.1, .int .i64 a0.2.1, str a0.2.2]) rfl (wants0 rfl) rfl rfl rfl rfl rfl (by kernel_rfl) ([a0] : List ty4) rfl (fun _ _ _ _ ho => (Has.encs ho (Has.pair (Has.sc rfl) (Has.pair (Has.sc rfl) (Has.sc rfl) rfl) rfl) rfl rfl)) (fun b2 => ?_)
 obtain ⟨r1, hg1, hr⟩ := inv_bind hr
 refine A.c1 rfl rfl Tryd.func43 rfl (fun w hS => (keys_Key.c (hB.up hS) (St.borrow (ros := [Ro el2 (some ⟨b2, 0, none⟩) 1 (([a0] : List ty4))]) (Ros.cons (hS.roBf 0 rfl rfl) Ros.nil)) (i0 := 0) rfl hg1).mono fun e w' ⟨x, he, h1⟩ => ⟨x, he, hS.unborrow (post := [Bf E8 5 x.1 x.2 r1.1]) h1 (Frees.cons (Bf.free .sc) Frees.nil)⟩) (fun x1 => ?_)
 refine sq ?_
 obtain ⟨r2, hg2, hr⟩ := inv_bind hr
 refine A.c1 rfl rfl Tryd.func20 rfl (fun w hS => (wire_Bytes.c (hB.up hS) (St.borrow (ros := [Ro E8 x1.1 x1.2 r1.1]) (Ros.cons (hS.roBf 0 rfl rfl) Ros.nil)) (i0 := 0) rfl hg2).mono fun e w' ⟨x, he, h1⟩ => ⟨x, he, hS.unborrow (post := [Bf E8 5 x.1 x.2 r2]) h1 (Frees.cons (Bf.free .sc) Frees.nil)⟩) (fun x2 => ?_)
 refine st ?_
 obtain rfl := inv_some hr
 refine pk [0] 4 ?_
 refine T.ret1 rfl rfl (fun w hS => ⟨(x2.1, x2.2), rfl, hS⟩)

noncomputable def entry_inside_k1.impl (a0 : ty7) : Option Unit :=
  some ()
theorem entry_inside_k1.c {a0 : ty7} {i0a c0a : Nat} {A0a : Option Addr} {i0b c0b : Nat} {A0b : Option Addr} {i0c c0c : Nat} {A0c : Option Addr} (hB : Base B) (hS : St B (hs) w) (h0a : (hs)[i0a]? = some (Ro el9 A0a c0a a0.2.2.1.2.1)) (h0b : (hs)[i0b]? = some (Ro el11 A0b c0b a0.2.2.1.2.2)) (h0c : (hs)[i0c]? = some (Ro el2 A0c c0c a0.2.2.2.1)) (hkd0 : (decide (a0.1 = 1)) = true) {r : Unit} (hr : entry_inside_k1.impl a0 = some r) :
    Calls Tryd.prog 51 #[.agg #[.int .i64 a0.1, str a0.2.1, str a0.2.2.1.1, .slice A0a a0.2.2.1.2.1.length c0a, .slice A0b a0.2.2.1.2.2.length c0b, .slice A0c a0.2.2.2.1.length c0c, .int .i64 a0.2.2.2.2.1.1, .int .i64 a0.2.2.2.2.1.2.1, str a0.2.2.2.2.1.2.2, .int .i64 a0.2.2.2.2.2.1, .int .i64 a0.2.2.2.2.2.2.1.1, .int .i64 a0.2.2.2.2.2.2.1.2.1, str a0.2.2.2.2.2.2.1.2.2, .int .i64 a0.2.2.2.2.2.2.2.1.1, .int .i64 a0.2.2.2.2.2.2.2.1.2.1, str a0.2.2.2.2.2.2.2.1.2.2, .int .i64 a0.2.2.2.2.2.2.2.2]] w fun e w' => ∃ x : Unit, e = .returned (.iface 96 (.agg #[.int .i64 a0.1, str a0.2.1, str a0.2.2.1.1, .slice A0a a0.2.2.1.2.1.length c0a, .slice A0b a0.2.2.1.2.2.length c0b, .slice A0c a0.2.2.2.1.length c0c, .int .i64 a0.2.2.2.2.1.1, .int .i64 a0.2.2.2.2.1.2.1, str a0.2.2.2.2.1.2.2, .int .i64 a0.2.2.2.2.2.1, .int .i64 a0.2.2.2.2.2.2.1.1, .int .i64 a0.2.2.2.2.2.2.1.2.1, str a0.2.2.2.2.2.2.1.2.2, .int .i64 a0.2.2.2.2.2.2.2.1.1, .int .i64 a0.2.2.2.2.2.2.2.1.2.1, str a0.2.2.2.2.2.2.2.1.2.2, .int .i64 a0.2.2.2.2.2.2.2.2])) ∧ St B (hs) w' := by
 unfold entry_inside_k1.impl at hr
 refine calls_T Tryd.func51 rfl rfl rfl hS ?_
 refine T.front i0a h0a ?_
 refine T.front (i0b + 1) h0b ?_
 refine T.front (i0c + 2) h0c ?_
 refine sq ?_
 refine A.bx rfl rfl (fun b1 => ?_)
 refine sq ?_
 refine T.condT rfl hkd0 ?_
 refine sq ?_
 refine T.build .list (vals := [(0, .agg #[.int .i64 a0.1, str a0.2.1, str a0.2.2.1.1, .slice A0a a0.2.2.1.2.1.length c0a, .slice A0b a0.2.2.1.2.2.length c0b, .slice A0c a0.2.2.2.1.length c0c, .int .i64 a0.2.2.2.2.1.1, .int .i64 a0.2.2.2.2.1.2.1, str a0.2.2.2.2.1.2.2, .int .i64 a0.2.2.2.2.2.1, .int .i64 a0.2.2.2.2.2.2.1.1, .int .i64 a0.2.2.2.2.2.2.1.2.1, str a0.2.2.2.2.2.2.1.2.2, .int .i64 a0.2.2.2.2.2.2.2.1.1, .int .i64 a0.2.2.2.2.2.2.2.1.2.1, str a0.2.2.2.2.2.2.2.1.2.2, .int .i64 a0.2.2.2.2.2.2.2.2])]) (cells := #[.int .i64 a0.1, str a0.2.1, str a0.2.2.1.1, .slice A0a a0.2.2.1.2.1.length c0a, .slice A0b a0.2.2.1.2.2.length c0b, .slice A0c a0.2.2.2.1.length c0c, .int .i64 a0.2.2.2.2.1.1, .int .i64 a0.2.2.2.2.1.2.1, str a0.2.2.2.2.1.2.2, .int .i64 a0.2.2.2.2.2.1, .int .i64 a0.2.2.2.2.2.2.1.1, .int .i64 a0.2.2.2.2.2.2.1.2.1, str a0.2.2.2.2.2.2.1.2.2, .int .i64 a0.2.2.2.2.2.2.2.1.1, .int .i64 a0.2.2.2.2.2.2.2.1.2.1, str a0.2.2.2.2.2.2.2.1.2.2, .int .i64 a0.2.2.2.2.2.2.2.2]) rfl (wants0 rfl) rfl rfl (run_buildStruct (sizes := [17]) (by kernel_rfl) (by kernel_rfl)) ?_
 refine T.mkIfc .list (by kernel_rfl) rfl (wants0 rfl) rfl rfl ?_
 refine st ?_
 obtain rfl := inv_some hr
 refine pk [] 4 ?_
 refine T.ret1 rfl rfl (fun w hS => ⟨(), rfl, hS⟩)

noncomputable def entry_inside_k2.impl (a0 : ty7) : Option Unit :=
  some ()
theorem entry_inside_k2.c {a0 : ty7} {i0a c0a : Nat} {A0a : Option Addr} {i0b c0b : Nat} {A0b : Option Addr} {i0c c0c : Nat} {A0c : Option Addr} (hB : Base B) (hS : St B (hs) w) (h0a : (hs)[i0a]? = some (Ro el9 A0a c0a a0.2.2.1.2.1)) (h0b : (hs)[i0b]? = some (Ro el11 A0b c0b a0.2.2.1.2.2)) (h0c : (hs)[i0c]? = some (Ro el2 A0c c0c a0.2.2.2.1)) (hkd0 : (decide (a0.1 = 1)) = false) (hkd1 : (decide (a0.1 = 2)) = true) {r : Unit} (hr : entry_inside_k2.impl a0 = some r) :
    Calls Tryd.prog 51 #[.agg #[.int .i64 a0.1, str a0.2.1, str a0.2.2.1.1, .slice A0a a0.2.2.1.2.1.length c0a, .slice A0b a0.2.2.1.2.2.length c0b, .slice A0c a0.2.2.2.1.length c0c, .int .i64 a0.2.2.2.2.1.1, .int .i64 a0.2.2.2.2.1.2.1, str a0.2.2.2.2.1.2.2, .int .i64 a0.2.2.2.2.2.1, .int .i64 a0.2.2.2.2.2.2.1.1, .int .i64 a0.2.2.2.2.2.2.1.2.1, str a0.2.2.2.2.2.2.1.2.2, .int .i64 a0.2.2.2.2.2.2.2.1.1, .int .i64 a0.2.2.2.2.2.2.2.1.2.1, str a0.2.2.2.2.2.2.2.1.2.2, .int .i64 a0.2.2.2.2.2.2.2.2]] w fun e w' => ∃ x : Unit, e = .returned (.iface 99 (.agg #[.int .i64 a0.1, str a0.2.1, str a0.2.2.1.1, .slice A0a a0.2.2.1.2.1.length c0a, .slice A0b a0.2.2.1.2.2.length c0b, .slice A0c a0.2.2.2.1.length c0c, .int .i64 a0.2.2.2.2.1.1, .int .i64 a0.2.2.2.2.1.2.1, str a0.2.2.2.2.1.2.2, .int .i64 a0.2.2.2.2.2.1, .int .i64 a0.2.2.2.2.2.2.1.1, .int .i64 a0.2.2.2.2.2.2.1.2.1, str a0.2.2.2.2.2.2.1.2.2, .int .i64 a0.2.2.2.2.2.2.2.1.1, .int .i64 a0.2.2.2.2.2.2.2.1.2.1, str a0.2.2.2.2.2.2.2.1.2.2, .int .i64 a0.2.2.2.2.2.2.2.2])) ∧ St B (hs) w' := by
 unfold entry_inside_k2.impl at hr
 refine calls_T Tryd.func51 rfl rfl rfl hS ?_
 refine T.front i0a h0a ?_
 refine T.front (i0b + 1) h0b ?_
 refine T.front (i0c + 2) h0c ?_
 refine sq ?_
 refine A.bx rfl rfl (fun b1 => ?_)
 refine sq ?_
 refine T.condF rfl hkd0 ?_
 refine sq ?_
 refine T.condT rfl hkd1 ?_
 refine st ?_
 refine T.condT rfl hkd1 ?_
 refine sq ?_
 refine T.build .list (vals := [(0, .agg #[.int .i64 a0.1, str a0.2.1, str a0.2.2.1.1, .slice A0a a0.2.2.1.2.1.length c0a, .slice A0b a0.2.2.1.2.2.length c0b, .slice A0c a0.2.2.2.1.length c0c, .int .i64 a0.2.2.2.2.1.1, .int .i64 a0.2.2.2.2.1.2.1, str a0.2.2.2.2.1.2.2, .int .i64 a0.2.2.2.2.2.1, .int .i64 a0.2.2.2.2.2.2.1.1, .int .i64 a0.2.2.2.2.2.2.1.2.1, str a0.2.2.2.2.2.2.1.2.2, .int .i64 a0.2.2.2.2.2.2.2.1.1, .int .i64 a0.2.2.2.2.2.2.2.1.2.1, str a0.2.2.2.2.2.2.2.1.2.2, .int .i64 a0.2.2.2.2.2.2.2.2])]) (cells := #[.int .i64 a0.1, str a0.2.1, str a0.2.2.1.1, .slice A0a a0.2.2.1.2.1.length c0a, .slice A0b a0.2.2.1.2.2.length c0b, .slice A0c a0.2.2.2.1.length c0c, .int .i64 a0.2.2.2.2.1.1, .int .i64 a0.2.2.2.2.1.2.1, str a0.2.2.2.2.1.2.2, .int .i64 a0.2.2.2.2.2.1, .int .i64 a0.2.2.2.2.2.2.1.1, .int .i64 a0.2.2.2.2.2.2.1.2.1, str a0.2.2.2.2.2.2.1.2.2, .int .i64 a0.2.2.2.2.2.2.2.1.1, .int .i64 a0.2.2.2.2.2.2.2.1.2.1, str a0.2.2.2.2.2.2.2.1.2.2, .int .i64 a0.2.2.2.2.2.2.2.2]) rfl (wants0 rfl) rfl rfl (run_buildStruct (sizes := [17]) (by kernel_rfl) (by kernel_rfl)) ?_
 refine T.mkIfc .list (by kernel_rfl) rfl (wants0 rfl) rfl rfl ?_
 refine st ?_
 obtain rfl := inv_some hr
 refine pk [] 4 ?_
 refine T.ret1 rfl rfl (fun w hS => ⟨(), rfl, hS⟩)

noncomputable def entry_inside_k3.impl (a0 : ty7) : Option Unit :=
  some ()
theorem entry_inside_k3.c {a0 : ty7} {i0a c0a : Nat} {A0a : Option Addr} {i0b c0b : Nat} {A0b : Option Addr} {i0c c0c : Nat} {A0c : Option Addr} (hB : Base B) (hS : St B (hs) w) (h0a : (hs)[i0a]? = some (Ro el9 A0a c0a a0.2.2.1.2.1)) (h0b : (hs)[i0b]? = some (Ro el11 A0b c0b a0.2.2.1.2.2)) (h0c : (hs)[i0c]? = some (Ro el2 A0c c0c a0.2.2.2.1)) (hkd0 : (decide (a0.1 = 1)) = false) (hkd1 : (decide (a0.1 = 2)) = false) (hkd2 : (decide (a0.1 = 3)) = true) {r : Unit} (hr : entry_inside_k3.impl a0 = some r) :
    Calls Tryd.prog 51 #[.agg #[.int .i64 a0.1, str a0.2.1, str a0.2.2.1.1, .slice A0a a0.2.2.1.2.1.length c0a, .slice A0b a0.2.2.1.2.2.length c0b, .slice A0c a0.2.2.2.1.length c0c, .int .i64 a0.2.2.2.2.1.1, .int .i64 a0.2.2.2.2.1.2.1, str a0.2.2.2.2.1.2.2, .int .i64 a0.2.2.2.2.2.1, .int .i64 a0.2.2.2.2.2.2.1.1, .int .i64 a0.2.2.2.2.2.2.1.2.1, str a0.2.2.2.2.2.2.1.2.2, .int .i64 a0.2.2.2.2.2.2.2.1.1, .int .i64 a0.2.2.2.2.2.2.2.1.2.1, str a0.2.2.2.2.2.2.2.1.2.2, .int .i64 a0.2.2.2.2.2.2.2.2]] w fun e w' => ∃ x : Unit, e = .returned (.iface 99 (.agg #[.int .i64 a0.1, str a0.2.1, str a0.2.2.1.1, .slice A0a a0.2.2.1.2.1.length c0a, .slice A0b a0.2.2.1.2.2.length c0b, .slice A0c a0.2.2.2.1.length c0c, .int .i64 a0.2.2.2.2.1.1, .int .i64 a0.2.2.2.2.1.2.1, str a0.2.2.2.2.1.2.2, .int .i64 a0.2.2.2.2.2.1, .int .i64 a0.2.2.2.2.2.2.1.1, .int .i64 a0.2.2.2.2.2.2.1.2.1, str a0.2.2.2.2.2.2.1.2.2, .int .i64 a0.2.2.2.2.2.2.2.1.1, .int .i64 a0.2.2.2.2.2.2.2.1.2.1, str a0.2.2.2.2.2.2.2.1.2.2, .int .i64 a0.2.2.2.2.2.2.2.2])) ∧ St B (hs) w' := by
 unfold entry_inside_k3.impl at hr
 refine calls_T Tryd.func51 rfl rfl rfl hS ?_
 refine T.front i0a h0a ?_
 refine T.front (i0b + 1) h0b ?_
 refine T.front (i0c + 2) h0c ?_
 refine sq ?_
 refine A.bx rfl rfl (fun b1 => ?_)
 refine sq ?_
 refine T.condF rfl hkd0 ?_
 refine sq ?_
 refine T.condF rfl hkd1 ?_
 refine st ?_
 refine T.condT rfl hkd2 ?_
 refine sq ?_
 refine T.build .list (vals := [(0, .agg #[.int .i64 a0.1, str a0.2.1, str a0.2.2.1.1, .slice A0a a0.2.2.1.2.1.length c0a, .slice A0b a0.2.2.1.2.2.length c0b, .slice A0c a0.2.2.2.1.length c0c, .int .i64 a0.2.2.2.2.1.1, .int .i64 a0.2.2.2.2.1.2.1, str a0.2.2.2.2.1.2.2, .int .i64 a0.2.2.2.2.2.1, .int .i64 a0.2.2.2.2.2.2.1.1, .int .i64 a0.2.2.2.2.2.2.1.2.1, str a0.2.2.2.2.2.2.1.2.2, .int .i64 a0.2.2.2.2.2.2.2.1.1, .int .i64 a0.2.2.2.2.2.2.2.1.2.1, str a0.2.2.2.2.2.2.2.1.2.2, .int .i64 a0.2.2.2.2.2.2.2.2])]) (cells := #[.int .i64 a0.1, str a0.2.1, str a0.2.2.1.1, .slice A0a a0.2.2.1.2.1.length c0a, .slice A0b a0.2.2.1.2.2.length c0b, .slice A0c a0.2.2.2.1.length c0c, .int .i64 a0.2.2.2.2.1.1, .int .i64 a0.2.2.2.2.1.2.1, str a0.2.2.2.2.1.2.2, .int .i64 a0.2.2.2.2.2.1, .int .i64 a0.2.2.2.2.2.2.1.1, .int .i64 a0.2.2.2.2.2.2.1.2.1, str a0.2.2.2.2.2.2.1.2.2, .int .i64 a0.2.2.2.2.2.2.2.1.1, .int .i64 a0.2.2.2.2.2.2.2.1.2.1, str a0.2.2.2.2.2.2.2.1.2.2, .int .i64 a0.2.2.2.2.2.2.2.2]) rfl (wants0 rfl) rfl rfl (run_buildStruct (sizes := [17]) (by kernel_rfl) (by kernel_rfl)) ?_
 refine T.mkIfc .list (by kernel_rfl) rfl (wants0 rfl) rfl rfl ?_
 refine st ?_
 obtain rfl := inv_some hr
 refine pk [] 4 ?_
 refine T.ret1 rfl rfl (fun w hS => ⟨(), rfl, hS⟩)

noncomputable def entry_inside_k4.impl (a0 : ty7) : Option Unit :=
  some ()
theorem entry_inside_k4.c {a0 : ty7} {i0a c0a : Nat} {A0a : Option Addr} {i0b c0b : Nat} {A0b : Option Addr} {i0c c0c : Nat} {A0c : Option Addr} (hB : Base B) (hS : St B (hs) w) (h0a : (hs)[i0a]? = some (Ro el9 A0a c0a a0.2.2.1.2.1)) (h0b : (hs)[i0b]? = some (Ro el11 A0b c0b a0.2.2.1.2.2)) (h0c : (hs)[i0c]? = some (Ro el2 A0c c0c a0.2.2.2.1)) (hkd0 : (decide (a0.1 = 1)) = false) (hkd1 : (decide (a0.1 = 2)) = false) (hkd2 : (decide (a0.1 = 3)) = false) (hkd3 : (decide (a0.1 = 4)) = true) {r : Unit} (hr : entry_inside_k4.impl a0 = some r) :
    Calls Tryd.prog 51 #[.agg #[.int .i64 a0.1, str a0.2.1, str a0.2.2.1.1, .slice A0a a0.2.2.1.2.1.length c0a, .slice A0b a0.2.2.1.2.2.length c0b, .slice A0c a0.2.2.2.1.length c0c, .int .i64 a0.2.2.2.2.1.1, .int .i64 a0.2.2.2.2.1.2.1, str a0.2.2.2.2.1.2.2, .int .i64 a0.2.2.2.2.2.1, .int .i64 a0.2.2.2.2.2.2.1.1, .int .i64 a0.2.2.2.2.2.2.1.2.1, str a0.2.2.2.2.2.2.1.2.2, .int .i64 a0.2.2.2.2.2.2.2.1.1, .int .i64 a0.2.2.2.2.2.2.2.1.2.1, str a0.2.2.2.2.2.2.2.1.2.2, .int .i64 a0.2.2.2.2.2.2.2.2]] w fun e w' => ∃ x : Unit, e = .returned (.iface 101 (.agg #[.int .i64 a0.1, str a0.2.1, str a0.2.2.1.1, .slice A0a a0.2.2.1.2.1.length c0a, .slice A0b a0.2.2.1.2.2.length c0b, .slice A0c a0.2.2.2.1.length c0c, .int .i64 a0.2.2.2.2.1.1, .int .i64 a0.2.2.2.2.1.2.1, str a0.2.2.2.2.1.2.2, .int .i64 a0.2.2.2.2.2.1, .int .i64 a0.2.2.2.2.2.2.1.1, .int .i64 a0.2.2.2.2.2.2.1.2.1, str a0.2.2.2.2.2.2.1.2.2, .int .i64 a0.2.2.2.2.2.2.2.1.1, .int .i64 a0.2.2.2.2.2.2.2.1.2.1, str a0.2.2.2.2.2.2.2.1.2.2, .int .i64 a0.2.2.2.2.2.2.2.2])) ∧ St B (hs) w' := by
 unfold entry_inside_k4.impl at hr
 refine calls_T Tryd.func51 rfl rfl rfl hS ?_
 refine T.front i0a h0a ?_
 refine T.front (i0b + 1) h0b ?_
 refine T.front (i0c + 2) h0c ?_
 refine sq ?_
 refine A.bx rfl rfl (fun b1 => ?_)
 refine sq ?_
 refine T.condF rfl hkd0 ?_
 refine sq ?_
 refine T.condF rfl hkd1 ?_
 refine st ?_
 refine T.condF rfl hkd2 ?_
 refine sq ?_
 refine T.condT rfl hkd3 ?_
 refine st ?_
 refine T.condT rfl hkd3 ?_
 refine sq ?_
 refine T.build .list (vals := [(0, .agg #[.int .i64 a0.1, str a0.2.1, str a0.2.2.1.1, .slice A0a a0.2.2.1.2.1.length c0a, .slice A0b a0.2.2.1.2.2.length c0b, .slice A0c a0.2.2.2.1.length c0c, .int .i64 a0.2.2.2.2.1.1, .int .i64 a0.2.2.2.2.1.2.1, str a0.2.2.2.2.1.2.2, .int .i64 a0.2.2.2.2.2.1, .int .i64 a0.2.2.2.2.2.2.1.1, .int .i64 a0.2.2.2.2.2.2.1.2.1, str a0.2.2.2.2.2.2.1.2.2, .int .i64 a0.2.2.2.2.2.2.2.1.1, .int .i64 a0.2.2.2.2.2.2.2.1.2.1, str a0.2.2.2.2.2.2.2.1.2.2, .int .i64 a0.2.2.2.2.2.2.2.2])]) (cells := #[.int .i64 a0.1, str a0.2.1, str a0.2.2.1.1, .slice A0a a0.2.2.1.2.1.length c0a, .slice A0b a0.2.2.1.2.2.length c0b, .slice A0c a0.2.2.2.1.length c0c, .int .i64 a0.2.2.2.2.1.1, .int .i64 a0.2.2.2.2.1.2.1, str a0.2.2.2.2.1.2.2, .int .i64 a0.2.2.2.2.2.1, .int .i64 a0.2.2.2.2.2.2.1.1, .int .i64 a0.2.2.2.2.2.2.1.2.1, str a0.2.2.2.2.2.2.1.2.2, .int .i64 a0.2.2.2.2.2.2.2.1.1, .int .i64 a0.2.2.2.2.2.2.2.1.2.1, str a0.2.2.2.2.2.2.2.1.2.2, .int .i64 a0.2.2.2.2.2.2.2.2]) rfl (wants0 rfl) rfl rfl (run_buildStruct (sizes := [17]) (by kernel_rfl) (by kernel_rfl)) ?_
 refine T.mkIfc .list (by kernel_rfl) rfl (wants0 rfl) rfl rfl ?_
 refine st ?_
 obtain rfl := inv_some hr
 refine pk [] 4 ?_
 refine T.ret1 rfl rfl (fun w hS => ⟨(), rfl, hS⟩)

noncomputable def entry_inside_k5.impl (a0 : ty7) : Option Unit :=
  some ()
theorem entry_inside_k5.c {a0 : ty7} {i0a c0a : Nat} {A0a : Option Addr} {i0b c0b : Nat} {A0b : Option Addr} {i0c c0c : Nat} {A0c : Option Addr} (hB : Base B) (hS : St B (hs) w) (h0a : (hs)[i0a]? = some (Ro el9 A0a c0a a0.2.2.1.2.1)) (h0b : (hs)[i0b]? = some (Ro el11 A0b c0b a0.2.2.1.2.2)) (h0c : (hs)[i0c]? = some (Ro el2 A0c c0c a0.2.2.2.1)) (hkd0 : (decide (a0.1 = 1)) = false) (hkd1 : (decide (a0.1 = 2)) = false) (hkd2 : (decide (a0.1 = 3)) = false) (hkd3 : (decide (a0.1 = 4)) = false) (hkd4 : (decide (a0.1 = 5)) = true) {r : Unit} (hr : entry_inside_k5.impl a0 = some r) :
    Calls Tryd.prog 51 #[.agg #[.int .i64 a0.1, str a0.2.1, str a0.2.2.1.1, .slice A0a a0.2.2.1.2.1.length c0a, .slice A0b a0.2.2.1.2.2.length c0b, .slice A0c a0.2.2.2.1.length c0c, .int .i64 a0.2.2.2.2.1.1, .int .i64 a0.2.2.2.2.1.2.1, str a0.2.2.2.2.1.2.2, .int .i64 a0.2.2.2.2.2.1, .int .i64 a0.2.2.2.2.2.2.1.1, .int .i64 a0.2.2.2.2.2.2.1.2.1, str a0.2.2.2.2.2.2.1.2.2, .int .i64 a0.2.2.2.2.2.2.2.1.1, .int .i64 a0.2.2.2.2.2.2.2.1.2.1, str a0.2.2.2.2.2.2.2.1.2.2, .int .i64 a0.2.2.2.2.2.2.2.2]] w fun e w' => ∃ x : Unit, e = .returned (.iface 101 (.agg #[.int .i64 a0.1, str a0.2.1, str a0.2.2.1.1, .slice A0a a0.2.2.1.2.1.length c0a, .slice A0b a0.2.2.1.2.2.length c0b, .slice A0c a0.2.2.2.1.length c0c, .int .i64 a0.2.2.2.2.1.1, .int .i64 a0.2.2.2.2.1.2.1, str a0.2.2.2.2.1.2.2, .int .i64 a0.2.2.2.2.2.1, .int .i64 a0.2.2.2.2.2.2.1.1, .int .i64 a0.2.2.2.2.2.2.1.2.1, str a0.2.2.2.2.2.2.1.2.2, .int .i64 a0.2.2.2.2.2.2.2.1.1, .int .i64 a0.2.2.2.2.2.2.2.1.2.1, str a0.2.2.2.2.2.2.2.1.2.2, .int .i64 a0.2.2.2.2.2.2.2.2])) ∧ St B (hs) w' := by
 unfold entry_inside_k5.impl at hr
 refine calls_T Tryd.func51 rfl rfl rfl hS ?_
 refine T.front i0a h0a ?_
 refine T.front (i0b + 1) h0b ?_
 refine T.front (i0c + 2) h0c ?_
 refine sq ?_
 refine A.bx rfl rfl (fun b1 => ?_)
 refine sq ?_
 refine T.condF rfl hkd0 ?_
 refine sq ?_
 refine T.condF rfl hkd1 ?_
 refine st ?_
 refine T.condF rfl hkd2 ?_
 refine sq ?_
 refine T.condF rfl hkd3 ?_
 refine st ?_
 refine T.condT rfl hkd4 ?_
 refine sq ?_
 refine T.build .list (vals := [(0, .agg #[.int .i64 a0.1, str a0.2.1, str a0.2.2.1.1, .slice A0a a0.2.2.1.2.1.length c0a, .slice A0b a0.2.2.1.2.2.length c0b, .slice A0c a0.2.2.2.1.length c0c, .int .i64 a0.2.2.2.2.1.1, .int .i64 a0.2.2.2.2.1.2.1, str a0.2.2.2.2.1.2.2, .int .i64 a0.2.2.2.2.2.1, .int .i64 a0.2.2.2.2.2.2.1.1, .int .i64 a0.2.2.2.2.2.2.1.2.1, str a0.2.2.2.2.2.2.1.2.2, .int .i64 a0.2.2.2.2.2.2.2.1.1, .int .i64 a0.2.2.2.2.2.2.2.1.2.1, str a0.2.2.2.2.2.2.2.1.2.2, .int .i64 a0.2.2.2.2.2.2.2.2])]) (cells := #[.int .i64 a0.1, str a0.2.1, str a0.2.2.1.1, .slice A0a a0.2.2.1.2.1.length c0a, .slice A0b a0.2.2.1.2.2.length c0b, .slice A0c a0.2.2.2.1.length c0c, .int .i64 a0.2.2.2.2.1.1, .int .i64 a0.2.2.2.2.1.2.1, str a0.2.2.2.2.1.2.2, .int .i64 a0.2.2.2.2.2.1, .int .i64 a0.2.2.2.2.2.2.1.1, .int .i64 a0.2.2.2.2.2.2.1.2.1, str a0.2.2.2.2.2.2.1.2.2, .int .i64 a0.2.2.2.2.2.2.2.1.1, .int .i64 a0.2.2.2.2.2.2.2.1.2.1, str a0.2.2.2.2.2.2.2.1.2.2, .int .i64 a0.2.2.2.2.2.2.2.2]) rfl (wants0 rfl) rfl rfl (run_buildStruct (sizes := [17]) (by kernel_rfl) (by kernel_rfl)) ?_
 refine T.mkIfc .list (by kernel_rfl) rfl (wants0 rfl) rfl rfl ?_
 refine st ?_
 obtain rfl := inv_some hr
 refine pk [] 4 ?_
 refine T.ret1 rfl rfl (fun w hS => ⟨(), rfl, hS⟩)

noncomputable def entry_inside_k6.impl (a0 : ty7) : Option Unit :=
  some ()
theorem entry_inside_k6.c {a0 : ty7} {i0a c0a : Nat} {A0a : Option Addr} {i0b c0b : Nat} {A0b : Option Addr} {i0c c0c : Nat} {A0c : Option Addr} (hB : Base B) (hS : St B (hs) w) (h0a : (hs)[i0a]? = some (Ro el9 A0a c0a a0.2.2.1.2.1)) (h0b : (hs)[i0b]? = some (Ro el11 A0b c0b a0.2.2.1.2.2)) (h0c : (hs)[i0c]? = some (Ro el2 A0c c0c a0.2.2.2.1)) (hkd0 : (decide (a0.1 = 1)) = false) (hkd1 : (decide (a0.1 = 2)) = false) (hkd2 : (decide (a0.1 = 3)) = false) (hkd3 : (decide (a0.1 = 4)) = false) (hkd4 : (decide (a0.1 = 5)) = false) (hkd5 : (decide (a0.1 = 6)) = true) {r : Unit} (hr : entry_inside_k6.impl a0 = some r) :
    Calls Tryd.prog 51 #[.agg #[.int .i64 a0.1, str a0.2.1, str a0.2.2.1.1, .slice A0a a0.2.2.1.2.1.length c0a, .slice A0b a0.2.2.1.2.2.length c0b, .slice A0c a0.2.2.2.1.length c0c, .int .i64 a0.2.2.2.2.1.1, .int .i64 a0.2.2.2.2.1.2.1, str a0.2.2.2.2.1.2.2, .int .i64 a0.2.2.2.2.2.1, .int .i64 a0.2.2.2.2.2.2.1.1, .int .i64 a0.2.2.2.2.2.2.1.2.1, str a0.2.2.2.2.2.2.1.2.2, .int .i64 a0.2.2.2.2.2.2.2.1.1, .int .i64 a0.2.2.2.2.2.2.2.1.2.1, str a0.2.2.2.2.2.2.2.1.2.2, .int .i64 a0.2.2.2.2.2.2.2.2]] w fun e w' => ∃ x : Unit, e = .returned (.iface 104 (.agg #[.int .i64 a0.1, str a0.2.1, str a0.2.2.1.1, .slice A0a a0.2.2.1.2.1.length c0a, .slice A0b a0.2.2.1.2.2.length c0b, .slice A0c a0.2.2.2.1.length c0c, .int .i64 a0.2.2.2.2.1.1, .int .i64 a0.2.2.2.2.1.2.1, str a0.2.2.2.2.1.2.2, .int .i64 a0.2.2.2.2.2.1, .int .i64 a0.2.2.2.2.2.2.1.1, .int .i64 a0.2.2.2.2.2.2.1.2.1, str a0.2.2.2.2.2.2.1.2.2, .int .i64 a0.2.2.2.2.2.2.2.1.1, .int .i64 a0.2.2.2.2.2.2.2.1.2.1, str a0.2.2.2.2.2.2.2.1.2.2, .int .i64 a0.2.2.2.2.2.2.2.2])) ∧ St B (hs) w' := by
 unfold entry_inside_k6.impl at hr
 refine calls_T Tryd.func51 rfl rfl rfl hS ?_
 refine T.front i0a h0a ?_
 refine T.front (i0b + 1) h0b ?_
 refine T.front (i0c + 2) h0c ?_
 refine sq ?_
 refine A.bx rfl rfl (fun b1 => ?_)
 refine sq ?_
 refine T.condF rfl hkd0 ?_
 refine sq ?_
 refine T.condF rfl hkd1 ?_
 refine st ?_
 refine T.condF rfl hkd2 ?_
 refine sq ?_
 refine T.condF rfl hkd3 ?_
 refine st ?_
 refine T.condF rfl hkd4 ?_
 refine sq ?_
 refine T.condT rfl hkd5 ?_
 refine sq ?_
 refine T.build .list (vals := [(0, .agg #[.int .i64 a0.1, str a0.2.1, str a0.2.2.1.1, .slice A0a a0.2.2.1.2.1.length c0a, .slice A0b a0.2.2.1.2.2.length c0b, .slice A0c a0.2.2.2.1.length c0c, .int .i64 a0.2.2.2.2.1.1, .int .i64 a0.2.2.2.2.1.2.1, str a0.2.2.2.2.1.2.2, .int .i64 a0.2.2.2.2.2.1, .int .i64 a0.2.2.2.2.2.2.1.1, .int .i64 a0.2.2.2.2.2.2.1.2.1, str a0.2.2.2.2.2.2.1.2.2, .int .i64 a0.2.2.2.2.2.2.2.1.1, .int .i64 a0.2.2.2.2.2.2.2.1.2.1, str a0.2.2.2.2.2.2.2.1.2.2, .int .i64 a0.2.2.2.2.2.2.2.2])]) (cells := #[.int .i64 a0.1, str a0.2.1, str a0.2.2.1.1, .slice A0a a0.2.2.1.2.1.length c0a, .slice A0b a0.2.2.1.2.2.length c0b, .slice A0c a0.2.2.2.1.length c0c, .int .i64 a0.2.2.2.2.1.1, .int .i64 a0.2.2.2.2.1.2.1, str a0.2.2.2.2.1.2.2, .int .i64 a0.2.2.2.2.2.1, .int .i64 a0.2.2.2.2.2.2.1.1, .int .i64 a0.2.2.2.2.2.2.1.2.1, str a0.2.2.2.2.2.2.1.2.2, .int .i64 a0.2.2.2.2.2.2.2.1.1, .int .i64 a0.2.2.2.2.2.2.2.1.2.1, str a0.2.2.2.2.2.2.2.1.2.2, .int .i64 a0.2.2.2.2.2.2.2.2]) rfl (wants0 rfl) rfl rfl (run_buildStruct (sizes := [17]) (by kernel_rfl) (by kernel_rfl)) ?_
 refine T.mkIfc .list (by kernel_rfl) rfl (wants0 rfl) rfl rfl ?_
 refine st ?_
 obtain rfl := inv_some hr
 refine pk [] 4 ?_
 refine T.ret1 rfl rfl (fun w hS => ⟨(), rfl, hS⟩)

noncomputable def entry_inside_k6n.impl (a0 : ty7) : Option Unit :=
  some ()
theorem entry_inside_k6n.c {a0 : ty7} {i0a c0a : Nat} {A0a : Option Addr} {i0b c0b : Nat} {A0b : Option Addr} {i0c c0c : Nat} {A0c : Option Addr} (hB : Base B) (hS : St B (hs) w) (h0a : (hs)[i0a]? = some (Ro el9 A0a c0a a0.2.2.1.2.1)) (h0b : (hs)[i0b]? = some (Ro el11 A0b c0b a0.2.2.1.2.2)) (h0c : (hs)[i0c]? = some (Ro el2 A0c c0c a0.2.2.2.1)) (hkd0 : (decide (a0.1 = 1)) = false) (hkd1 : (decide (a0.1 = 2)) = false) (hkd2 : (decide (a0.1 = 3)) = false) (hkd3 : (decide (a0.1 = 4)) = false) (hkd4 : (decide (a0.1 = 5)) = false) (hkd5 : (decide (a0.1 = 6)) = false) {r : Unit} (hr : entry_inside_k6n.impl a0 = some r) :
    Calls Tryd.prog 51 #[.agg #[.int .i64 a0.1, str a0.2.1, str a0.2.2.1.1, .slice A0a a0.2.2.1.2.1.length c0a, .slice A0b a0.2.2.1.2.2.length c0b, .slice A0c a0.2.2.2.1.length c0c, .int .i64 a0.2.2.2.2.1.1, .int .i64 a0.2.2.2.2.1.2.1, str a0.2.2.2.2.1.2.2, .int .i64 a0.2.2.2.2.2.1, .int .i64 a0.2.2.2.2.2.2.1.1, .int .i64 a0.2.2.2.2.2.2.1.2.1, str a0.2.2.2.2.2.2.1.2.2, .int .i64 a0.2.2.2.2.2.2.2.1.1, .int .i64 a0.2.2.2.2.2.2.2.1.2.1, str a0.2.2.2.2.2.2.2.1.2.2, .int .i64 a0.2.2.2.2.2.2.2.2]] w fun e w' => ∃ x : Unit, e = .returned .nilIface ∧ St B (hs) w' := by
 unfold entry_inside_k6n.impl at hr
 refine calls_T Tryd.func51 rfl rfl rfl hS ?_
 refine T.front i0a h0a ?_
 refine T.front (i0b + 1) h0b ?_
 refine T.front (i0c + 2) h0c ?_
 refine sq ?_
 refine A.bx rfl rfl (fun b1 => ?_)
 refine sq ?_
 refine T.condF rfl hkd0 ?_
 refine sq ?_
 refine T.condF rfl hkd1 ?_
 refine st ?_
 refine T.condF rfl hkd2 ?_
 refine sq ?_
 refine T.condF rfl hkd3 ?_
 refine st ?_
 refine T.condF rfl hkd4 ?_
 refine sq ?_
 refine T.condF rfl hkd5 ?_
 refine sq ?_
 obtain rfl := inv_some hr
 refine pk [] 4 ?_
 refine T.ret1 rfl rfl (fun w hS => ⟨(), rfl, hS⟩)

noncomputable def entry_op.k1 (a0 : ty7) (s1 : List UInt8) : Option (List UInt8) :=
  (schema_Encode.impl a0.2.2.1).bind fun r2 => (wire_Bytes.impl r2.1).bind fun r3 => chk ((s1.length + r3.length) * 1 ≤ 140737488355328) (some (s1 ++ r3))
noncomputable def entry_op.k2 (a0 : ty7) (s2 : List UInt8) : Option (List UInt8) :=
  (schema_EncodeRow.impl a0.2.2.2.1).bind fun r6 => (wire_Bytes.impl r6.1).bind fun r7 => chk ((s2.length + r7.length) * 1 ≤ 140737488355328) (some (s2 ++ r7))
noncomputable def entry_op.k3 (a0 : ty7) (s3 : List UInt8) : Option (List UInt8) :=
  (schema_EncodeRow.impl a0.2.2.2.1).bind fun r10 => (wire_Bytes.impl r10.1).bind fun r11 => chk ((s3.length + r11.length) * 1 ≤ 140737488355328) (some (s3 ++ r11))
noncomputable def entry_op.k4 (a0 : ty7) (s4 : List UInt8) : Option (List UInt8) :=
  (entry_value.impl a0.2.2.2.2.1).bind fun r14 => chk ((s4.length + r14.length) * 1 ≤ 140737488355328) (some (s4 ++ r14))
noncomputable def entry_op.k5 (a0 : ty7) (s5 : List UInt8) : Option (List UInt8) :=
  (entry_value.impl a0.2.2.2.2.1).bind fun r17 => chk ((s5.length + r17.length) * 1 ≤ 140737488355328) (some (s5 ++ r17))
noncomputable def entry_op.k6 (a0 : ty7) (s6 : List UInt8) : Option (List UInt8) :=
  (entry_value.impl a0.2.2.2.2.2.2.1).bind fun r20 => chk ((s6.length + r20.length) * 1 ≤ 140737488355328) ((entry_value.impl a0.2.2.2.2.2.2.2.1).bind fun r21 => chk ((((s6 ++ r20)).length + r21.length) * 1 ≤ 140737488355328) (chk ((((((s6 ++ r20)) ++ r21)).length + (([(u8 (IntKind.u8.wrap a0.2.2.2.2.2.1)), (u8 (IntKind.u8.wrap a0.2.2.2.2.2.2.2.2))] : List UInt8)).length) * 1 ≤ 140737488355328) (some (((((s6 ++ r20)) ++ r21)) ++ (([(u8 (IntKind.u8.wrap a0.2.2.2.2.2.1)), (u8 (IntKind.u8.wrap a0.2.2.2.2.2.2.2.2))] : List UInt8))))))
noncomputable def entry_op.impl (a0 : ty7) : Option (List UInt8) :=
  (if ((decide (a0.1 = 1))) = true then (entry_inside_k1.impl a0).bind fun r1 => (wire_Bytes.impl a0.2.1).bind fun r4 => chk (((([(u8 (IntKind.u8.wrap a0.1))] : List UInt8)).length + r4.length) * 1 ≤ 140737488355328) (entry_op.k1 a0 ((([(u8 (IntKind.u8.wrap a0.1))] : List UInt8)) ++ r4)) else (if ((decide (a0.1 = 2))) = true then (entry_inside_k2.impl a0).bind fun r5 => (wire_Bytes.impl a0.2.1).bind fun r8 => chk (((([(u8 (IntKind.u8.wrap a0.1))] : List UInt8)).length + r8.length) * 1 ≤ 140737488355328) (entry_op.k2 a0 ((([(u8 (IntKind.u8.wrap a0.1))] : List UInt8)) ++ r8)) else (if ((decide (a0.1 = 3))) = true then (entry_inside_k3.impl a0).bind fun r9 => (wire_Bytes.impl a0.2.1).bind fun r12 => chk (((([(u8 (IntKind.u8.wrap a0.1))] : List UInt8)).length + r12.length) * 1 ≤ 140737488355328) (entry_op.k3 a0 ((([(u8 (IntKind.u8.wrap a0.1))] : List UInt8)) ++ r12)) else (if ((decide (a0.1 = 4))) = true then (entry_inside_k4.impl a0).bind fun r13 => (wire_Bytes.impl a0.2.1).bind fun r15 => chk (((([(u8 (IntKind.u8.wrap a0.1))] : List UInt8)).length + r15.length) * 1 ≤ 140737488355328) (entry_op.k4 a0 ((([(u8 (IntKind.u8.wrap a0.1))] : List UInt8)) ++ r15)) else (if ((decide (a0.1 = 5))) = true then (entry_inside_k5.impl a0).bind fun r16 => (wire_Bytes.impl a0.2.1).bind fun r18 => chk (((([(u8 (IntKind.u8.wrap a0.1))] : List UInt8)).length + r18.length) * 1 ≤ 140737488355328) (entry_op.k5 a0 ((([(u8 (IntKind.u8.wrap a0.1))] : List UInt8)) ++ r18)) else (if ((decide (a0.1 = 6))) = true then (entry_inside_k6.impl a0).bind fun r19 => (wire_Bytes.impl a0.2.1).bind fun r22 => chk (((([(u8 (IntKind.u8.wrap a0.1))] : List UInt8)).length + r22.length) * 1 ≤ 140737488355328) (entry_op.k6 a0 ((([(u8 (IntKind.u8.wrap a0.1))] : List UInt8)) ++ r22)) else none))))))
theorem entry_op.c {a0 : ty7} {i0a c0a : Nat} {A0a : Option Addr} {i0b c0b : Nat} {A0b : Option Addr} {i0c c0c : Nat} {A0c : Option Addr} (hB : Base B) (hS : St B (hs) w) (h0a : (hs)[i0a]? = some (Ro el9 A0a c0a a0.2.2.1.2.1)) (h0b : (hs)[i0b]? = some (Ro el11 A0b c0b a0.2.2.1.2.2)) (h0c : (hs)[i0c]? = some (Ro el2 A0c c0c a0.2.2.2.1)) {r : List UInt8} (hr : entry_op.impl a0 = some r) :
    Calls Tryd.prog 29 #[.agg #[.int .i64 a0.1, str a0.2.1, str a0.2.2.1.1, .slice A0a a0.2.2.1.2.1.length c0a, .slice A0b a0.2.2.1.2.2.length c0b, .slice A0c a0.2.2.2.1.length c0c, .int .i64 a0.2.2.2.2.1.1, .int .i64 a0.2.2.2.2.1.2.1, str a0.2.2.2.2.1.2.2, .int .i64 a0.2.2.2.2.2.1, .int .i64 a0.2.2.2.2.2.2.1.1, .int .i64 a0.2.2.2.2.2.2.1.2.1, str a0.2.2.2.2.2.2.1.2.2, .int .i64 a0.2.2.2.2.2.2.2.1.1, .int .i64 a0.2.2.2.2.2.2.2.1.2.1, str a0.2.2.2.2.2.2.2.1.2.2, .int .i64 a0.2.2.2.2.2.2.2.2]] w fun e w' => ∃ x : ty3, e = .returned (.slice x.1 r.length x.2) ∧ St B (Bf E8 5 x.1 x.2 r :: hs) w' := by
 unfold entry_op.impl at hr
 refine calls_T Tryd.func29 rfl rfl rfl hS ?_
 refine T.front i0a h0a ?_
 refine T.front (i0b + 1) h0b ?_
 refine T.front (i0c + 2) h0c ?_
 refine sq ?_
 refine A.bx rfl rfl (fun b1 => ?_)
 refine sq ?_
 refine br hr (fun hb1 hr => ?_) (fun hb1 hr => ?_)
 ·obtain ⟨r1, hg1, hr⟩ := inv_bind hr
  refine A.c1 rfl rfl Tryd.func51 rfl (fun w hS => entry_inside_k1.c hB hS (i0a := 3) (i0b := 2) (i0c := 1) (a0 := a0) rfl rfl rfl hb1 hg1) (fun x1 => ?_)
  refine st ?_
  refine T.seqJ (fun (s1 : List UInt8) (x2 : ty3) => [(3, .iface 96 (.agg #[.int .i64 a0.1, str a0.2.1, str a0.2.2.1.1, .slice A0a a0.2.2.1.2.1.length c0a, .slice A0b a0.2.2.1.2.2.length c0b, .slice A0c a0.2.2.2.1.length c0c, .int .i64 a0.2.2.2.2.1.1, .int .i64 a0.2.2.2.2.1.2.1, str a0.2.2.2.2.1.2.2, .int .i64 a0.2.2.2.2.2.1, .int .i64 a0.2.2.2.2.2.2.1.1, .int .i64 a0.2.2.2.2.2.2.1.2.1, str a0.2.2.2.2.2.2.1.2.2, .int .i64 a0.2.2.2.2.2.2.2.1.1, .int .i64 a0.2.2.2.2.2.2.2.1.2.1, str a0.2.2.2.2.2.2.2.1.2.2, .int .i64 a0.2.2.2.2.2.2.2.2])), (4, .slice x2.1 s1.length x2.2)]) (fun s1 x2 => Ro el9 A0a c0a a0.2.2.1.2.1 :: Ro el11 A0b c0b a0.2.2.1.2.2 :: Ro el2 A0c c0c a0.2.2.2.1 :: Bf E8 5 x2.1 x2.2 s1 :: hs) (fun s1 => entry_op.k1 a0 s1 = some r) (fun s1 x2 hk1 => ?_) (fun J1 => ?_)
  ·unfold entry_op.k1 at hk1
   refine sq ?_
   refine T.assertYes2 .list (by kernel_rfl) rfl (wants0 rfl) rfl rfl ?_
   refine st ?_
   refine A.al rfl (fun b2 => ?_)
   refine sq ?_
   refine T.condT rfl rfl ?_
   refine sq ?_
   obtain ⟨r2, hg2, hk1⟩ := inv_bind hk1
   refine A.c1 rfl rfl Tryd.func52 rfl (fun w hS => schema_Encode.c hB hS (i0a := 1) (i0b := 2) (a0 := a0.2.2.1) rfl rfl hg2) (fun x3 => ?_)
   refine sq ?_
   obtain ⟨r3, hg3, hk1⟩ := inv_bind hk1
   refine A.c1 rfl rfl Tryd.func20 rfl (fun w hS => (wire_Bytes.c (hB.up hS) (St.borrow (ros := [Ro E8 x3.1 x3.2 r2.1]) (Ros.cons (hS.roBf 0 rfl rfl) Ros.nil)) (i0 := 0) rfl hg3).mono fun e w' ⟨x, he, h1⟩ => ⟨x, he, hS.unborrow (post := [Bf E8 5 x.1 x.2 r3]) h1 (Frees.cons (Bf.free .sc) Frees.nil)⟩) (fun x4 => ?_)
   obtain ⟨hc1, hk1⟩ := inv_chk hk1
   refine T.appBf .list 6 0 rfl rfl rfl rfl rfl (wants0 rfl) rfl rfl rfl rfl rfl rfl hc1 (fun _ _ => rfl) (fun A2 c2 => ?_)
   refine st ?_
   obtain rfl := inv_some hk1
   refine pk [6] 7 ?_
   refine T.ret1 rfl rfl (fun w hS => ⟨(A2, c2), rfl, hS⟩)
  ·refine T.dStart mixed ?_
   refine D.fi 0 ?_
   refine D.fi 4 ?_
   refine T.dAdd 10 (fun w => w.heap[b1]? = some (.cells [.int .i64 a0.1, str a0.2.1, str a0.2.2.1.1, .slice A0a a0.2.2.1.2.1.length c0a, .slice A0b a0.2.2.1.2.2.length c0b, .slice A0c a0.2.2.2.1.length c0c, .int .i64 a0.2.2.2.2.1.1, .int .i64 a0.2.2.2.2.1.2.1, str a0.2.2.2.2.1.2.2, .int .i64 a0.2.2.2.2.2.1, .int .i64 a0.2.2.2.2.2.2.1.1, .int .i64 a0.2.2.2.2.2.2.1.2.1, str a0.2.2.2.2.2.2.1.2.2, .int .i64 a0.2.2.2.2.2.2.2.1.1, .int .i64 a0.2.2.2.2.2.2.2.1.2.1, str a0.2.2.2.2.2.2.2.1.2.2, .int .i64 a0.2.2.2.2.2.2.2.2].toArray 66 (0, 0))) (Cl.stays 0 rfl) ?_
   refine D.ld 0 1 (.int .i64 a0.1) ?_
   refine T.conv (.dPure (i := 2) rfl (by kernel_rfl) (fun d _ _ _ _ h => by cases d <;> exact h)) rfl (wants0 rfl) rfl rfl rfl ?_
   refine D.ld 0 5 (str a0.2.1) ?_
   obtain ⟨r4, hg4, hr⟩ := inv_bind hr
   obtain ⟨hc2, hr⟩ := inv_chk hr
   refine T.d2 (i := 3) (j := 6) (by kernel_rfl) ?_ ?_ 
   ·refine T.lit (E := E8) (.dOne rfl (by kernel_rfl)) (vals := [(0, .int .u8 (IntKind.u8.wrap a0.1))]) (cells := #[.int .u8 (IntKind.u8.wrap a0.1)]) rfl (wants0 rfl) rfl rfl rfl rfl rfl (by kernel_rfl) ([(u8 (IntKind.u8.wrap a0.1))] : List UInt8) rfl (fun _ _ _ _ _ => (Encs.c1 (enc := b8) (h1 := fun _ => rfl) (b8_wrap _) rfl)) (fun b3 => ?_)
    refine T.dNext (phi_cons (.inr (Cl.stays 1 rfl)) phi_nil) ?_
    refine D.on 6 ?_
    refine T.bytesOf (.dOne rfl (by kernel_rfl)) rfl (wants0 rfl) rfl (l := a0.2.1) rfl (fun q1 => ?_)
    refine T.dNext (phi_cons (.inr (Cl.stays 2 rfl)) phi_nil) ?_
    refine D.on 7 ?_
    refine D.c1 rfl (by kernel_rfl) rfl rfl Tryd.func20 rfl (fun w hS => wire_Bytes.c hB hS (i0 := 0) rfl hg4) (fun x5 => ?_)
    refine T.dNext (phi_cons (.inr (Cl.stays 3 rfl)) phi_nil) ?_
    refine D.on 8 ?_
    refine T.appBf (.dOne rfl (by kernel_rfl)) 2 0 rfl rfl rfl rfl rfl (wants0 rfl) rfl rfl rfl rfl rfl rfl hc2 (fun _ _ => rfl) (fun A3 c3 => ?_)
    refine T.dNext (phi_cons (.inr (Cl.stays 3 rfl)) phi_nil) ?_
    refine D.asg 9 ?_
    refine T.dDone (by kernel_rfl) ?_
    refine sx ?_
    exact jn [6, 5, 4, 2] 7 (J1 ((([(u8 (IntKind.u8.wrap a0.1))] : List UInt8)) ++ r4) (A3, c3) hr)
   ·refine T.bytesOf (.dOne rfl (by kernel_rfl)) rfl (wants0 rfl) rfl (l := a0.2.1) rfl (fun q1 => ?_)
    refine T.dNext (phi_cons (.inr (Cl.stays 1 rfl)) phi_nil) ?_
    refine T.d2 (i := 3) (j := 7) (by kernel_rfl) ?_ ?_ 
    ·refine T.lit (E := E8) (.dOne rfl (by kernel_rfl)) (vals := [(0, .int .u8 (IntKind.u8.wrap a0.1))]) (cells := #[.int .u8 (IntKind.u8.wrap a0.1)]) rfl (wants0 rfl) rfl rfl rfl rfl rfl (by kernel_rfl) ([(u8 (IntKind.u8.wrap a0.1))] : List UInt8) rfl (fun _ _ _ _ _ => (Encs.c1 (enc := b8) (h1 := fun _ => rfl) (b8_wrap _) rfl)) (fun b3 => ?_)
     refine T.dNext (phi_cons (.inr (Cl.stays 2 rfl)) phi_nil) ?_
     refine D.on 7 ?_
     refine D.c1 rfl (by kernel_rfl) rfl rfl Tryd.func20 rfl (fun w hS => wire_Bytes.c hB hS (i0 := 1) rfl hg4) (fun x5 => ?_)
     refine T.dNext (phi_cons (.inr (Cl.stays 3 rfl)) phi_nil) ?_
     refine D.on 8 ?_
     refine T.appBf (.dOne rfl (by kernel_rfl)) 1 0 rfl rfl rfl rfl rfl (wants0 rfl) rfl rfl rfl rfl rfl rfl hc2 (fun _ _ => rfl) (fun A3 c3 => ?_)
     refine T.dNext (phi_cons (.inr (Cl.stays 3 rfl)) phi_nil) ?_
     refine D.asg 9 ?_
     refine T.dDone (by kernel_rfl) ?_
     refine sx ?_
     exact jn [6, 5, 4, 1] 7 (J1 ((([(u8 (IntKind.u8.wrap a0.1))] : List UInt8)) ++ r4) (A3, c3) hr)
    ·refine D.c1 rfl (by kernel_rfl) rfl rfl Tryd.func20 rfl (fun w hS => wire_Bytes.c hB hS (i0 := 0) rfl hg4) (fun x5 => ?_)
     refine T.dNext (phi_cons (.inr (Cl.stays 2 rfl)) phi_nil) ?_
     refine D.on 3 ?_
     refine T.lit (E := E8) (.dOne rfl (by kernel_rfl)) (vals := [(0, .int .u8 (IntKind.u8.wrap a0.1))]) (cells := #[.int .u8 (IntKind.u8.wrap a0.1)]) rfl (wants0 rfl) rfl rfl rfl rfl rfl (by kernel_rfl) ([(u8 (IntKind.u8.wrap a0.1))] : List UInt8) rfl (fun _ _ _ _ _ => (Encs.c1 (enc := b8) (h1 := fun _ => rfl) (b8_wrap _) rfl)) (fun b3 => ?_)
     refine T.dNext (phi_cons (.inr (Cl.stays 3 rfl)) phi_nil) ?_
     refine D.on 8 ?_
     refine T.appBf (.dOne rfl (by kernel_rfl)) 0 1 rfl rfl rfl rfl rfl (wants0 rfl) rfl rfl rfl rfl rfl rfl hc2 (fun _ _ => rfl) (fun A3 c3 => ?_)
     refine T.dNext (phi_cons (.inr (Cl.stays 3 rfl)) phi_nil) ?_
     refine D.asg 9 ?_
     refine T.dDone (by kernel_rfl) ?_
     refine sx ?_
     exact jn [6, 5, 4, 0] 7 (J1 ((([(u8 (IntKind.u8.wrap a0.1))] : List UInt8)) ++ r4) (A3, c3) hr)
 ·refine br hr (fun hb2 hr => ?_) (fun hb2 hr => ?_)
  ·obtain ⟨r5, hg5, hr⟩ := inv_bind hr
   refine A.c1 rfl rfl Tryd.func51 rfl (fun w hS => entry_inside_k2.c hB hS (i0a := 3) (i0b := 2) (i0c := 1) (a0 := a0) rfl rfl rfl hb1 hb2 hg5) (fun x6 => ?_)
   refine st ?_
   refine T.seqJ (fun (s2 : List UInt8) (x7 : ty3) => [(3, .iface 99 (.agg #[.int .i64 a0.1, str a0.2.1, str a0.2.2.1.1, .slice A0a a0.2.2.1.2.1.length c0a, .slice A0b a0.2.2.1.2.2.length c0b, .slice A0c a0.2.2.2.1.length c0c, .int .i64 a0.2.2.2.2.1.1, .int .i64 a0.2.2.2.2.1.2.1, str a0.2.2.2.2.1.2.2, .int .i64 a0.2.2.2.2.2.1, .int .i64 a0.2.2.2.2.2.2.1.1, .int .i64 a0.2.2.2.2.2.2.1.2.1, str a0.2.2.2.2.2.2.1.2.2, .int .i64 a0.2.2.2.2.2.2.2.1.1, .int .i64 a0.2.2.2.2.2.2.2.1.2.1, str a0.2.2.2.2.2.2.2.1.2.2, .int .i64 a0.2.2.2.2.2.2.2.2])), (4, .slice x7.1 s2.length x7.2)]) (fun s2 x7 => Ro el9 A0a c0a a0.2.2.1.2.1 :: Ro el11 A0b c0b a0.2.2.1.2.2 :: Ro el2 A0c c0c a0.2.2.2.1 :: Bf E8 5 x7.1 x7.2 s2 :: hs) (fun s2 => entry_op.k2 a0 s2 = some r) (fun s2 x7 hk2 => ?_) (fun J2 => ?_)
   ·unfold entry_op.k2 at hk2
    refine sq ?_
    refine T.assertNo2 .list (by kernel_rfl) rfl (wants0 rfl) rfl rfl rfl (z := .agg #[.int .i64 0, str (([] : List UInt8)), str (([] : List UInt8)), .slice none 0 0, .slice none 0 0, .slice none 0 0, .int .i64 0, .int .i64 0, str (([] : List UInt8)), .int .i64 0, .int .i64 0, .int .i64 0, str (([] : List UInt8)), .int .i64 0, .int .i64 0, str (([] : List UInt8)), .int .i64 0]) rfl ?_
    refine st ?_
    refine A.al rfl (fun b4 => ?_)
    refine sq ?_
    refine T.condF rfl rfl ?_
    refine sq ?_
    refine T.assertYes2 .list (by kernel_rfl) rfl (wants0 rfl) rfl rfl ?_
    refine st ?_
    refine A.al rfl (fun b5 => ?_)
    refine sq ?_
    refine T.condT rfl rfl ?_
    refine sq ?_
    obtain ⟨r6, hg6, hk2⟩ := inv_bind hk2
    refine A.c1 rfl rfl Tryd.func19 rfl (fun w hS => schema_EncodeRow.c hB hS (i0 := 4) rfl hg6) (fun x8 => ?_)
    refine sq ?_
    obtain ⟨r7, hg7, hk2⟩ := inv_bind hk2
    refine A.c1 rfl rfl Tryd.func20 rfl (fun w hS => (wire_Bytes.c (hB.up hS) (St.borrow (ros := [Ro E8 x8.1 x8.2 r6.1]) (Ros.cons (hS.roBf 0 rfl rfl) Ros.nil)) (i0 := 0) rfl hg7).mono fun e w' ⟨x, he, h1⟩ => ⟨x, he, hS.unborrow (post := [Bf E8 5 x.1 x.2 r7]) h1 (Frees.cons (Bf.free .sc) Frees.nil)⟩) (fun x9 => ?_)
    obtain ⟨hc3, hk2⟩ := inv_chk hk2
    refine T.appBf .list 7 0 rfl rfl rfl rfl rfl (wants0 rfl) rfl rfl rfl rfl rfl rfl hc3 (fun _ _ => rfl) (fun A4 c4 => ?_)
    refine st ?_
    obtain rfl := inv_some hk2
    refine pk [7] 8 ?_
    refine T.ret1 rfl rfl (fun w hS => ⟨(A4, c4), rfl, hS⟩)
   ·refine T.dStart mixed ?_
    refine D.fi 0 ?_
    refine D.fi 4 ?_
    refine T.dAdd 10 (fun w => w.heap[b1]? = some (.cells [.int .i64 a0.1, str a0.2.1, str a0.2.2.1.1, .slice A0a a0.2.2.1.2.1.length c0a, .slice A0b a0.2.2.1.2.2.length c0b, .slice A0c a0.2.2.2.1.length c0c, .int .i64 a0.2.2.2.2.1.1, .int .i64 a0.2.2.2.2.1.2.1, str a0.2.2.2.2.1.2.2, .int .i64 a0.2.2.2.2.2.1, .int .i64 a0.2.2.2.2.2.2.1.1, .int .i64 a0.2.2.2.2.2.2.1.2.1, str a0.2.2.2.2.2.2.1.2.2, .int .i64 a0.2.2.2.2.2.2.2.1.1, .int .i64 a0.2.2.2.2.2.2.2.1.2.1, str a0.2.2.2.2.2.2.2.1.2.2, .int .i64 a0.2.2.2.2.2.2.2.2].toArray 66 (0, 0))) (Cl.stays 0 rfl) ?_
    refine D.ld 0 1 (.int .i64 a0.1) ?_
    refine T.conv (.dPure (i := 2) rfl (by kernel_rfl) (fun d _ _ _ _ h => by cases d <;> exact h)) rfl (wants0 rfl) rfl rfl rfl ?_
    refine D.ld 0 5 (str a0.2.1) ?_
    obtain ⟨r8, hg8, hr⟩ := inv_bind hr
    obtain ⟨hc4, hr⟩ := inv_chk hr
    refine T.d2 (i := 3) (j := 6) (by kernel_rfl) ?_ ?_ 
    ·refine T.lit (E := E8) (.dOne rfl (by kernel_rfl)) (vals := [(0, .int .u8 (IntKind.u8.wrap a0.1))]) (cells := #[.int .u8 (IntKind.u8.wrap a0.1)]) rfl (wants0 rfl) rfl rfl rfl rfl rfl (by kernel_rfl) ([(u8 (IntKind.u8.wrap a0.1))] : List UInt8) rfl (fun _ _ _ _ _ => (Encs.c1 (enc := b8) (h1 := fun _ => rfl) (b8_wrap _) rfl)) (fun b6 => ?_)
     refine T.dNext (phi_cons (.inr (Cl.stays 1 rfl)) phi_nil) ?_
     refine D.on 6 ?_
     refine T.bytesOf (.dOne rfl (by kernel_rfl)) rfl (wants0 rfl) rfl (l := a0.2.1) rfl (fun q2 => ?_)
     refine T.dNext (phi_cons (.inr (Cl.stays 2 rfl)) phi_nil) ?_
     refine D.on 7 ?_
     refine D.c1 rfl (by kernel_rfl) rfl rfl Tryd.func20 rfl (fun w hS => wire_Bytes.c hB hS (i0 := 0) rfl hg8) (fun x10 => ?_)
     refine T.dNext (phi_cons (.inr (Cl.stays 3 rfl)) phi_nil) ?_
     refine D.on 8 ?_
     refine T.appBf (.dOne rfl (by kernel_rfl)) 2 0 rfl rfl rfl rfl rfl (wants0 rfl) rfl rfl rfl rfl rfl rfl hc4 (fun _ _ => rfl) (fun A5 c5 => ?_)
     refine T.dNext (phi_cons (.inr (Cl.stays 3 rfl)) phi_nil) ?_
     refine D.asg 9 ?_
     refine T.dDone (by kernel_rfl) ?_
     refine sx ?_
     exact jn [6, 5, 4, 2] 7 (J2 ((([(u8 (IntKind.u8.wrap a0.1))] : List UInt8)) ++ r8) (A5, c5) hr)
    ·refine T.bytesOf (.dOne rfl (by kernel_rfl)) rfl (wants0 rfl) rfl (l := a0.2.1) rfl (fun q2 => ?_)
     refine T.dNext (phi_cons (.inr (Cl.stays 1 rfl)) phi_nil) ?_
     refine T.d2 (i := 3) (j := 7) (by kernel_rfl) ?_ ?_ 
     ·refine T.lit (E := E8) (.dOne rfl (by kernel_rfl)) (vals := [(0, .int .u8 (IntKind.u8.wrap a0.1))]) (cells := #[.int .u8 (IntKind.u8.wrap a0.1)]) rfl (wants0 rfl) rfl rfl rfl rfl rfl (by kernel_rfl) ([(u8 (IntKind.u8.wrap a0.1))] : List UInt8) rfl (fun _ _ _ _ _ => (Encs.c1 (enc := b8) (h1 := fun _ => rfl) (b8_wrap _) rfl)) (fun b6 => ?_)
      refine T.dNext (phi_cons (.inr (Cl.stays 2 rfl)) phi_nil) ?_
      refine D.on 7 ?_
      refine D.c1 rfl (by kernel_rfl) rfl rfl Tryd.func20 rfl (fun w hS => wire_Bytes.c hB hS (i0 := 1) rfl hg8) (fun x10 => ?_)
      refine T.dNext (phi_cons (.inr (Cl.stays 3 rfl)) phi_nil) ?_
      refine D.on 8 ?_
      refine T.appBf (.dOne rfl (by kernel_rfl)) 1 0 rfl rfl rfl rfl rfl (wants0 rfl) rfl rfl rfl rfl rfl rfl hc4 (fun _ _ => rfl) (fun A5 c5 => ?_)
      refine T.dNext (phi_cons (.inr (Cl.stays 3 rfl)) phi_nil) ?_
      refine D.asg 9 ?_
      refine T.dDone (by kernel_rfl) ?_
      refine sx ?_
      exact jn [6, 5, 4, 1] 7 (J2 ((([(u8 (IntKind.u8.wrap a0.1))] : List UInt8)) ++ r8) (A5, c5) hr)
     ·refine D.c1 rfl (by kernel_rfl) rfl rfl Tryd.func20 rfl (fun w hS => wire_Bytes.c hB hS (i0 := 0) rfl hg8) (fun x10 => ?_)
      refine T.dNext (phi_cons (.inr (Cl.stays 2 rfl)) phi_nil) ?_
      refine D.on 3 ?_
      refine T.lit (E := E8) (.dOne rfl (by kernel_rfl)) (vals := [(0, .int .u8 (IntKind.u8.wrap a0.1))]) (cells := #[.int .u8 (IntKind.u8.wrap a0.1)]) rfl (wants0 rfl) rfl rfl rfl rfl rfl (by kernel_rfl) ([(u8 (IntKind.u8.wrap a0.1))] : List UInt8) rfl (fun _ _ _ _ _ => (Encs.c1 (enc := b8) (h1 := fun _ => rfl) (b8_wrap _) rfl)) (fun b6 => ?_)
      refine T.dNext (phi_cons (.inr (Cl.stays 3 rfl)) phi_nil) ?_
      refine D.on 8 ?_
      refine T.appBf (.dOne rfl (by kernel_rfl)) 0 1 rfl rfl rfl rfl rfl (wants0 rfl) rfl rfl rfl rfl rfl rfl hc4 (fun _ _ => rfl) (fun A5 c5 => ?_)
      refine T.dNext (phi_cons (.inr (Cl.stays 3 rfl)) phi_nil) ?_
      refine D.asg 9 ?_
      refine T.dDone (by kernel_rfl) ?_
      refine sx ?_
      exact jn [6, 5, 4, 0] 7 (J2 ((([(u8 (IntKind.u8.wrap a0.1))] : List UInt8)) ++ r8) (A5, c5) hr)
  ·refine br hr (fun hb3 hr => ?_) (fun hb3 hr => ?_)
   ·obtain ⟨r9, hg9, hr⟩ := inv_bind hr
    refine A.c1 rfl rfl Tryd.func51 rfl (fun w hS => entry_inside_k3.c hB hS (i0a := 3) (i0b := 2) (i0c := 1) (a0 := a0) rfl rfl rfl hb1 hb2 hb3 hg9) (fun x11 => ?_)
    refine st ?_
    refine T.seqJ (fun (s3 : List UInt8) (x12 : ty3) => [(3, .iface 99 (.agg #[.int .i64 a0.1, str a0.2.1, str a0.2.2.1.1, .slice A0a a0.2.2.1.2.1.length c0a, .slice A0b a0.2.2.1.2.2.length c0b, .slice A0c a0.2.2.2.1.length c0c, .int .i64 a0.2.2.2.2.1.1, .int .i64 a0.2.2.2.2.1.2.1, str a0.2.2.2.2.1.2.2, .int .i64 a0.2.2.2.2.2.1, .int .i64 a0.2.2.2.2.2.2.1.1, .int .i64 a0.2.2.2.2.2.2.1.2.1, str a0.2.2.2.2.2.2.1.2.2, .int .i64 a0.2.2.2.2.2.2.2.1.1, .int .i64 a0.2.2.2.2.2.2.2.1.2.1, str a0.2.2.2.2.2.2.2.1.2.2, .int .i64 a0.2.2.2.2.2.2.2.2])), (4, .slice x12.1 s3.length x12.2)]) (fun s3 x12 => Ro el9 A0a c0a a0.2.2.1.2.1 :: Ro el11 A0b c0b a0.2.2.1.2.2 :: Ro el2 A0c c0c a0.2.2.2.1 :: Bf E8 5 x12.1 x12.2 s3 :: hs) (fun s3 => entry_op.k3 a0 s3 = some r) (fun s3 x12 hk3 => ?_) (fun J3 => ?_)
    ·unfold entry_op.k3 at hk3
     refine sq ?_
     refine T.assertNo2 .list (by kernel_rfl) rfl (wants0 rfl) rfl rfl rfl (z := .agg #[.int .i64 0, str (([] : List UInt8)), str (([] : List UInt8)), .slice none 0 0, .slice none 0 0, .slice none 0 0, .int .i64 0, .int .i64 0, str (([] : List UInt8)), .int .i64 0, .int .i64 0, .int .i64 0, str (([] : List UInt8)), .int .i64 0, .int .i64 0, str (([] : List UInt8)), .int .i64 0]) rfl ?_
     refine st ?_
     refine A.al rfl (fun b7 => ?_)
     refine sq ?_
     refine T.condF rfl rfl ?_
     refine sq ?_
     refine T.assertYes2 .list (by kernel_rfl) rfl (wants0 rfl) rfl rfl ?_
     refine st ?_
     refine A.al rfl (fun b8 => ?_)
     refine sq ?_
     refine T.condT rfl rfl ?_
     refine sq ?_
     obtain ⟨r10, hg10, hk3⟩ := inv_bind hk3
     refine A.c1 rfl rfl Tryd.func19 rfl (fun w hS => schema_EncodeRow.c hB hS (i0 := 4) rfl hg10) (fun x13 => ?_)
     refine sq ?_
     obtain ⟨r11, hg11, hk3⟩ := inv_bind hk3
     refine A.c1 rfl rfl Tryd.func20 rfl (fun w hS => (wire_Bytes.c (hB.up hS) (St.borrow (ros := [Ro E8 x13.1 x13.2 r10.1]) (Ros.cons (hS.roBf 0 rfl rfl) Ros.nil)) (i0 := 0) rfl hg11).mono fun e w' ⟨x, he, h1⟩ => ⟨x, he, hS.unborrow (post := [Bf E8 5 x.1 x.2 r11]) h1 (Frees.cons (Bf.free .sc) Frees.nil)⟩) (fun x14 => ?_)
     obtain ⟨hc5, hk3⟩ := inv_chk hk3
     refine T.appBf .list 7 0 rfl rfl rfl rfl rfl (wants0 rfl) rfl rfl rfl rfl rfl rfl hc5 (fun _ _ => rfl) (fun A6 c6 => ?_)
     refine st ?_
     obtain rfl := inv_some hk3
     refine pk [7] 8 ?_
     refine T.ret1 rfl rfl (fun w hS => ⟨(A6, c6), rfl, hS⟩)
    ·refine T.dStart mixed ?_
     refine D.fi 0 ?_
     refine D.fi 4 ?_
     refine T.dAdd 10 (fun w => w.heap[b1]? = some (.cells [.int .i64 a0.1, str a0.2.1, str a0.2.2.1.1, .slice A0a a0.2.2.1.2.1.length c0a, .slice A0b a0.2.2.1.2.2.length c0b, .slice A0c a0.2.2.2.1.length c0c, .int .i64 a0.2.2.2.2.1.1, .int .i64 a0.2.2.2.2.1.2.1, str a0.2.2.2.2.1.2.2, .int .i64 a0.2.2.2.2.2.1, .int .i64 a0.2.2.2.2.2.2.1.1, .int .i64 a0.2.2.2.2.2.2.1.2.1, str a0.2.2.2.2.2.2.1.2.2, .int .i64 a0.2.2.2.2.2.2.2.1.1, .int .i64 a0.2.2.2.2.2.2.2.1.2.1, str a0.2.2.2.2.2.2.2.1.2.2, .int .i64 a0.2.2.2.2.2.2.2.2].toArray 66 (0, 0))) (Cl.stays 0 rfl) ?_
     refine D.ld 0 1 (.int .i64 a0.1) ?_
     refine T.conv (.dPure (i := 2) rfl (by kernel_rfl) (fun d _ _ _ _ h => by cases d <;> exact h)) rfl (wants0 rfl) rfl rfl rfl ?_
     refine D.ld 0 5 (str a0.2.1) ?_
     obtain ⟨r12, hg12, hr⟩ := inv_bind hr
     obtain ⟨hc6, hr⟩ := inv_chk hr
     refine T.d2 (i := 3) (j := 6) (by kernel_rfl) ?_ ?_ 
     ·refine T.lit (E := E8) (.dOne rfl (by kernel_rfl)) (vals := [(0, .int .u8 (IntKind.u8.wrap a0.1))]) (cells := #[.int .u8 (IntKind.u8.wrap a0.1)]) rfl (wants0 rfl) rfl rfl rfl rfl rfl (by kernel_rfl) ([(u8 (IntKind.u8.wrap a0.1))] : List UInt8) rfl (fun _ _ _ _ _ => (Encs.c1 (enc := b8) (h1 := fun _ => rfl) (b8_wrap _) rfl)) (fun b9 => ?_)
      refine T.dNext (phi_cons (.inr (Cl.stays 1 rfl)) phi_nil) ?_
      refine D.on 6 ?_
      refine T.bytesOf (.dOne rfl (by kernel_rfl)) rfl (wants0 rfl) rfl (l := a0.2.1) rfl (fun q3 => ?_)
      refine T.dNext (phi_cons (.inr (Cl.stays 2 rfl)) phi_nil) ?_
      refine D.on 7 ?_
      refine D.c1 rfl (by kernel_rfl) rfl rfl Tryd.func20 rfl (fun w hS => wire_Bytes.c hB hS (i0 := 0) rfl hg12) (fun x15 => ?_)
      refine T.dNext (phi_cons (.inr (Cl.stays 3 rfl)) phi_nil) ?_
      refine D.on 8 ?_
      refine T.appBf (.dOne rfl (by kernel_rfl)) 2 0 rfl rfl rfl rfl rfl (wants0 rfl) rfl rfl rfl rfl rfl rfl hc6 (fun _ _ => rfl) (fun A7 c7 => ?_)
      refine T.dNext (phi_cons (.inr (Cl.stays 3 rfl)) phi_nil) ?_
      refine D.asg 9 ?_
      refine T.dDone (by kernel_rfl) ?_
      refine sx ?_
      exact jn [6, 5, 4, 2] 7 (J3 ((([(u8 (IntKind.u8.wrap a0.1))] : List UInt8)) ++ r12) (A7, c7) hr)
     ·refine T.bytesOf (.dOne rfl (by kernel_rfl)) rfl (wants0 rfl) rfl (l := a0.2.1) rfl (fun q3 => ?_)
      refine T.dNext (phi_cons (.inr (Cl.stays 1 rfl)) phi_nil) ?_
      refine T.d2 (i := 3) (j := 7) (by kernel_rfl) ?_ ?_ 
      ·refine T.lit (E := E8) (.dOne rfl (by kernel_rfl)) (vals := [(0, .int .u8 (IntKind.u8.wrap a0.1))]) (cells := #[.int .u8 (IntKind.u8.wrap a0.1)]) rfl (wants0 rfl) rfl rfl rfl rfl rfl (by kernel_rfl) ([(u8 (IntKind.u8.wrap a0.1))] : List UInt8) rfl (fun _ _ _ _ _ => (Encs.c1 (enc := b8) (h1 := fun _ => rfl) (b8_wrap _) rfl)) (fun b9 => ?_)
       refine T.dNext (phi_cons (.inr (Cl.stays 2 rfl)) phi_nil) ?_
       refine D.on 7 ?_
       refine D.c1 rfl (by kernel_rfl) rfl rfl Tryd.func20 rfl (fun w hS => wire_Bytes.c hB hS (i0 := 1) rfl hg12) (fun x15 => ?_)
       refine T.dNext (phi_cons (.inr (Cl.stays 3 rfl)) phi_nil) ?_
       refine D.on 8 ?_
       refine T.appBf (.dOne rfl (by kernel_rfl)) 1 0 rfl rfl rfl rfl rfl (wants0 rfl) rfl rfl rfl rfl rfl rfl hc6 (fun _ _ => rfl) (fun A7 c7 => ?_)
       refine T.dNext (phi_cons (.inr (Cl.stays 3 rfl)) phi_nil) ?_
       refine D.asg 9 ?_
       refine T.dDone (by kernel_rfl) ?_
       refine sx ?_
       exact jn [6, 5, 4, 1] 7 (J3 ((([(u8 (IntKind.u8.wrap a0.1))] : List UInt8)) ++ r12) (A7, c7) hr)
      ·refine D.c1 rfl (by kernel_rfl) rfl rfl Tryd.func20 rfl (fun w hS => wire_Bytes.c hB hS (i0 := 0) rfl hg12) (fun x15 => ?_)
       refine T.dNext (phi_cons (.inr (Cl.stays 2 rfl)) phi_nil) ?_
       refine D.on 3 ?_
       refine T.lit (E := E8) (.dOne rfl (by kernel_rfl)) (vals := [(0, .int .u8 (IntKind.u8.wrap a0.1))]) (cells := #[.int .u8 (IntKind.u8.wrap a0.1)]) rfl (wants0 rfl) rfl rfl rfl rfl rfl (by kernel_rfl) ([(u8 (IntKind.u8.wrap a0.1))] : List UInt8) rfl (fun _ _ _ _ _ => (Encs.c1 (enc := b8) (h1 := fun _ => rfl) (b8_wrap _) rfl)) (fun b9 => ?_)
       refine T.dNext (phi_cons (.inr (Cl.stays 3 rfl)) phi_nil) ?_
       refine D.on 8 ?_
       refine T.appBf (.dOne rfl (by kernel_rfl)) 0 1 rfl rfl rfl rfl rfl (wants0 rfl) rfl rfl rfl rfl rfl rfl hc6 (fun _ _ => rfl) (fun A7 c7 => ?_)
       refine T.dNext (phi_cons (.inr (Cl.stays 3 rfl)) phi_nil) ?_
       refine D.asg 9 ?_
       refine T.dDone (by kernel_rfl) ?_
       refine sx ?_
       exact jn [6, 5, 4, 0] 7 (J3 ((([(u8 (IntKind.u8.wrap a0.1))] : List UInt8)) ++ r12) (A7, c7) hr)
   ·refine br hr (fun hb4 hr => ?_) (fun hb4 hr => ?_)
    ·obtain ⟨r13, hg13, hr⟩ := inv_bind hr
     refine A.c1 rfl rfl Tryd.func51 rfl (fun w hS => entry_inside_k4.c hB hS (i0a := 3) (i0b := 2) (i0c := 1) (a0 := a0) rfl rfl rfl hb1 hb2 hb3 hb4 hg13) (fun x16 => ?_)
     refine st ?_
     refine T.seqJ (fun (s4 : List UInt8) (x17 : ty3) => [(3, .iface 101 (.agg #[.int .i64 a0.1, str a0.2.1, str a0.2.2.1.1, .slice A0a a0.2.2.1.2.1.length c0a, .slice A0b a0.2.2.1.2.2.length c0b, .slice A0c a0.2.2.2.1.length c0c, .int .i64 a0.2.2.2.2.1.1, .int .i64 a0.2.2.2.2.1.2.1, str a0.2.2.2.2.1.2.2, .int .i64 a0.2.2.2.2.2.1, .int .i64 a0.2.2.2.2.2.2.1.1, .int .i64 a0.2.2.2.2.2.2.1.2.1, str a0.2.2.2.2.2.2.1.2.2, .int .i64 a0.2.2.2.2.2.2.2.1.1, .int .i64 a0.2.2.2.2.2.2.2.1.2.1, str a0.2.2.2.2.2.2.2.1.2.2, .int .i64 a0.2.2.2.2.2.2.2.2])), (4, .slice x17.1 s4.length x17.2)]) (fun s4 x17 => Ro el9 A0a c0a a0.2.2.1.2.1 :: Ro el11 A0b c0b a0.2.2.1.2.2 :: Ro el2 A0c c0c a0.2.2.2.1 :: Bf E8 5 x17.1 x17.2 s4 :: hs) (fun s4 => entry_op.k4 a0 s4 = some r) (fun s4 x17 hk4 => ?_) (fun J4 => ?_)
     ·unfold entry_op.k4 at hk4
      refine sq ?_
      refine T.assertNo2 .list (by kernel_rfl) rfl (wants0 rfl) rfl rfl rfl (z := .agg #[.int .i64 0, str (([] : List UInt8)), str (([] : List UInt8)), .slice none 0 0, .slice none 0 0, .slice none 0 0, .int .i64 0, .int .i64 0, str (([] : List UInt8)), .int .i64 0, .int .i64 0, .int .i64 0, str (([] : List UInt8)), .int .i64 0, .int .i64 0, str (([] : List UInt8)), .int .i64 0]) rfl ?_
      refine st ?_
      refine A.al rfl (fun b10 => ?_)
      refine sq ?_
      refine T.condF rfl rfl ?_
      refine sq ?_
      refine T.assertNo2 .list (by kernel_rfl) rfl (wants0 rfl) rfl rfl rfl (z := .agg #[.int .i64 0, str (([] : List UInt8)), str (([] : List UInt8)), .slice none 0 0, .slice none 0 0, .slice none 0 0, .int .i64 0, .int .i64 0, str (([] : List UInt8)), .int .i64 0, .int .i64 0, .int .i64 0, str (([] : List UInt8)), .int .i64 0, .int .i64 0, str (([] : List UInt8)), .int .i64 0]) rfl ?_
      refine st ?_
      refine A.al rfl (fun b11 => ?_)
      refine sq ?_
      refine T.condF rfl rfl ?_
      refine sq ?_
      refine T.assertYes2 .list (by kernel_rfl) rfl (wants0 rfl) rfl rfl ?_
      refine st ?_
      refine A.al rfl (fun b12 => ?_)
      refine sq ?_
      refine T.condT rfl rfl ?_
      refine sq ?_
      obtain ⟨r14, hg14, hk4⟩ := inv_bind hk4
      refine A.c1 rfl rfl Tryd.func53 rfl (fun w hS => entry_value.c hB hS (a0 := a0.2.2.2.2.1)  hg14) (fun x18 => ?_)
      obtain ⟨hc7, hk4⟩ := inv_chk hk4
      refine T.appBf .list 7 0 rfl rfl rfl rfl rfl (wants0 rfl) rfl rfl rfl rfl rfl rfl hc7 (fun _ _ => rfl) (fun A8 c8 => ?_)
      refine st ?_
      obtain rfl := inv_some hk4
      refine pk [7] 8 ?_
      refine T.ret1 rfl rfl (fun w hS => ⟨(A8, c8), rfl, hS⟩)
     ·refine T.dStart mixed ?_
      refine D.fi 0 ?_
      refine D.fi 4 ?_
      refine T.dAdd 10 (fun w => w.heap[b1]? = some (.cells [.int .i64 a0.1, str a0.2.1, str a0.2.2.1.1, .slice A0a a0.2.2.1.2.1.length c0a, .slice A0b a0.2.2.1.2.2.length c0b, .slice A0c a0.2.2.2.1.length c0c, .int .i64 a0.2.2.2.2.1.1, .int .i64 a0.2.2.2.2.1.2.1, str a0.2.2.2.2.1.2.2, .int .i64 a0.2.2.2.2.2.1, .int .i64 a0.2.2.2.2.2.2.1.1, .int .i64 a0.2.2.2.2.2.2.1.2.1, str a0.2.2.2.2.2.2.1.2.2, .int .i64 a0.2.2.2.2.2.2.2.1.1, .int .i64 a0.2.2.2.2.2.2.2.1.2.1, str a0.2.2.2.2.2.2.2.1.2.2, .int .i64 a0.2.2.2.2.2.2.2.2].toArray 66 (0, 0))) (Cl.stays 0 rfl) ?_
      refine D.ld 0 1 (.int .i64 a0.1) ?_
      refine T.conv (.dPure (i := 2) rfl (by kernel_rfl) (fun d _ _ _ _ h => by cases d <;> exact h)) rfl (wants0 rfl) rfl rfl rfl ?_
      refine D.ld 0 5 (str a0.2.1) ?_
      obtain ⟨r15, hg15, hr⟩ := inv_bind hr
      obtain ⟨hc8, hr⟩ := inv_chk hr
      refine T.d2 (i := 3) (j := 6) (by kernel_rfl) ?_ ?_ 
      ·refine T.lit (E := E8) (.dOne rfl (by kernel_rfl)) (vals := [(0, .int .u8 (IntKind.u8.wrap a0.1))]) (cells := #[.int .u8 (IntKind.u8.wrap a0.1)]) rfl (wants0 rfl) rfl rfl rfl rfl rfl (by kernel_rfl) ([(u8 (IntKind.u8.wrap a0.1))] : List UInt8) rfl (fun _ _ _ _ _ => (Encs.c1 (enc := b8) (h1 := fun _ => rfl) (b8_wrap _) rfl)) (fun b13 => ?_)
       refine T.dNext (phi_cons (.inr (Cl.stays 1 rfl)) phi_nil) ?_
       refine D.on 6 ?_
       refine T.bytesOf (.dOne rfl (by kernel_rfl)) rfl (wants0 rfl) rfl (l := a0.2.1) rfl (fun q4 => ?_)
       refine T.dNext (phi_cons (.inr (Cl.stays 2 rfl)) phi_nil) ?_
       refine D.on 7 ?_
       refine D.c1 rfl (by kernel_rfl) rfl rfl Tryd.func20 rfl (fun w hS => wire_Bytes.c hB hS (i0 := 0) rfl hg15) (fun x19 => ?_)
       refine T.dNext (phi_cons (.inr (Cl.stays 3 rfl)) phi_nil) ?_
       refine D.on 8 ?_
       refine T.appBf (.dOne rfl (by kernel_rfl)) 2 0 rfl rfl rfl rfl rfl (wants0 rfl) rfl rfl rfl rfl rfl rfl hc8 (fun _ _ => rfl) (fun A9 c9 => ?_)
       refine T.dNext (phi_cons (.inr (Cl.stays 3 rfl)) phi_nil) ?_
       refine D.asg 9 ?_
       refine T.dDone (by kernel_rfl) ?_
       refine sx ?_
       exact jn [6, 5, 4, 2] 7 (J4 ((([(u8 (IntKind.u8.wrap a0.1))] : List UInt8)) ++ r15) (A9, c9) hr)
      ·refine T.bytesOf (.dOne rfl (by kernel_rfl)) rfl (wants0 rfl) rfl (l := a0.2.1) rfl (fun q4 => ?_)
       refine T.dNext (phi_cons (.inr (Cl.stays 1 rfl)) phi_nil) ?_
       refine T.d2 (i := 3) (j := 7) (by kernel_rfl) ?_ ?_ 
       ·refine T.lit (E := E8) (.dOne rfl (by kernel_rfl)) (vals := [(0, .int .u8 (IntKind.u8.wrap a0.1))]) (cells := #[.int .u8 (IntKind.u8.wrap a0.1)]) rfl (wants0 rfl) rfl rfl rfl rfl rfl (by kernel_rfl) ([(u8 (IntKind.u8.wrap a0.1))] : List UInt8) rfl (fun _ _ _ _ _ => (Encs.c1 (enc := b8) (h1 := fun _ => rfl) (b8_wrap _) rfl)) (fun b13 => ?_)
        refine T.dNext (phi_cons (.inr (Cl.stays 2 rfl)) phi_nil) ?_
        refine D.on 7 ?_
        refine D.c1 rfl (by kernel_rfl) rfl rfl Tryd.func20 rfl (fun w hS => wire_Bytes.c hB hS (i0 := 1) rfl hg15) (fun x19 => ?_)
        refine T.dNext (phi_cons (.inr (Cl.stays 3 rfl)) phi_nil) ?_
        refine D.on 8 ?_
        refine T.appBf (.dOne rfl (by kernel_rfl)) 1 0 rfl rfl rfl rfl rfl (wants0 rfl) rfl rfl rfl rfl rfl rfl hc8 (fun _ _ => rfl) (fun A9 c9 => ?_)
        refine T.dNext (phi_cons (.inr (Cl.stays 3 rfl)) phi_nil) ?_
        refine D.asg 9 ?_
        refine T.dDone (by kernel_rfl) ?_
        refine sx ?_
        exact jn [6, 5, 4, 1] 7 (J4 ((([(u8 (IntKind.u8.wrap a0.1))] : List UInt8)) ++ r15) (A9, c9) hr)
       ·refine D.c1 rfl (by kernel_rfl) rfl rfl Tryd.func20 rfl (fun w hS => wire_Bytes.c hB hS (i0 := 0) rfl hg15) (fun x19 => ?_)
        refine T.dNext (phi_cons (.inr (Cl.stays 2 rfl)) phi_nil) ?_
        refine D.on 3 ?_
        refine T.lit (E := E8) (.dOne rfl (by kernel_rfl)) (vals := [(0, .int .u8 (IntKind.u8.wrap a0.1))]) (cells := #[.int .u8 (IntKind.u8.wrap a0.1)]) rfl (wants0 rfl) rfl rfl rfl rfl rfl (by kernel_rfl) ([(u8 (IntKind.u8.wrap a0.1))] : List UInt8) rfl (fun _ _ _ _ _ => (Encs.c1 (enc := b8) (h1 := fun _ => rfl) (b8_wrap _) rfl)) (fun b13 => ?_)
        refine T.dNext (phi_cons (.inr (Cl.stays 3 rfl)) phi_nil) ?_
        refine D.on 8 ?_
        refine T.appBf (.dOne rfl (by kernel_rfl)) 0 1 rfl rfl rfl rfl rfl (wants0 rfl) rfl rfl rfl rfl rfl rfl hc8 (fun _ _ => rfl) (fun A9 c9 => ?_)
        refine T.dNext (phi_cons (.inr (Cl.stays 3 rfl)) phi_nil) ?_
        refine D.asg 9 ?_
        refine T.dDone (by kernel_rfl) ?_
        refine sx ?_
        exact jn [6, 5, 4, 0] 7 (J4 ((([(u8 (IntKind.u8.wrap a0.1))] : List UInt8)) ++ r15) (A9, c9) hr)
    ·refine br hr (fun hb5 hr => ?_) (fun hb5 hr => ?_)
     ·obtain ⟨r16, hg16, hr⟩ := inv_bind hr
      refine A.c1 rfl rfl Tryd.func51 rfl (fun w hS => entry_inside_k5.c hB hS (i0a := 3) (i0b := 2) (i0c := 1) (a0 := a0) rfl rfl rfl hb1 hb2 hb3 hb4 hb5 hg16) (fun x20 => ?_)
      refine st ?_
      refine T.seqJ (fun (s5 : List UInt8) (x21 : ty3) => [(3, .iface 101 (.agg #[.int .i64 a0.1, str a0.2.1, str a0.2.2.1.1, .slice A0a a0.2.2.1.2.1.length c0a, .slice A0b a0.2.2.1.2.2.length c0b, .slice A0c a0.2.2.2.1.length c0c, .int .i64 a0.2.2.2.2.1.1, .int .i64 a0.2.2.2.2.1.2.1, str a0.2.2.2.2.1.2.2, .int .i64 a0.2.2.2.2.2.1, .int .i64 a0.2.2.2.2.2.2.1.1, .int .i64 a0.2.2.2.2.2.2.1.2.1, str a0.2.2.2.2.2.2.1.2.2, .int .i64 a0.2.2.2.2.2.2.2.1.1, .int .i64 a0.2.2.2.2.2.2.2.1.2.1, str a0.2.2.2.2.2.2.2.1.2.2, .int .i64 a0.2.2.2.2.2.2.2.2])), (4, .slice x21.1 s5.length x21.2)]) (fun s5 x21 => Ro el9 A0a c0a a0.2.2.1.2.1 :: Ro el11 A0b c0b a0.2.2.1.2.2 :: Ro el2 A0c c0c a0.2.2.2.1 :: Bf E8 5 x21.1 x21.2 s5 :: hs) (fun s5 => entry_op.k5 a0 s5 = some r) (fun s5 x21 hk5 => ?_) (fun J5 => ?_)
      ·unfold entry_op.k5 at hk5
       refine sq ?_
       refine T.assertNo2 .list (by kernel_rfl) rfl (wants0 rfl) rfl rfl rfl (z := .agg #[.int .i64 0, str (([] : List UInt8)), str (([] : List UInt8)), .slice none 0 0, .slice none 0 0, .slice none 0 0, .int .i64 0, .int .i64 0, str (([] : List UInt8)), .int .i64 0, .int .i64 0, .int .i64 0, str (([] : List UInt8)), .int .i64 0, .int .i64 0, str (([] : List UInt8)), .int .i64 0]) rfl ?_
       refine st ?_
       refine A.al rfl (fun b14 => ?_)
       refine sq ?_
       refine T.condF rfl rfl ?_
       refine sq ?_
       refine T.assertNo2 .list (by kernel_rfl) rfl (wants0 rfl) rfl rfl rfl (z := .agg #[.int .i64 0, str (([] : List UInt8)), str (([] : List UInt8)), .slice none 0 0, .slice none 0 0, .slice none 0 0, .int .i64 0, .int .i64 0, str (([] : List UInt8)), .int .i64 0, .int .i64 0, .int .i64 0, str (([] : List UInt8)), .int .i64 0, .int .i64 0, str (([] : List UInt8)), .int .i64 0]) rfl ?_
       refine st ?_
       refine A.al rfl (fun b15 => ?_)
       refine sq ?_
       refine T.condF rfl rfl ?_
       refine sq ?_
       refine T.assertYes2 .list (by kernel_rfl) rfl (wants0 rfl) rfl rfl ?_
       refine st ?_
       refine A.al rfl (fun b16 => ?_)
       refine sq ?_
       refine T.condT rfl rfl ?_
       refine sq ?_
       obtain ⟨r17, hg17, hk5⟩ := inv_bind hk5
       refine A.c1 rfl rfl Tryd.func53 rfl (fun w hS => entry_value.c hB hS (a0 := a0.2.2.2.2.1)  hg17) (fun x22 => ?_)
       obtain ⟨hc9, hk5⟩ := inv_chk hk5
       refine T.appBf .list 7 0 rfl rfl rfl rfl rfl (wants0 rfl) rfl rfl rfl rfl rfl rfl hc9 (fun _ _ => rfl) (fun A10 c10 => ?_)
       refine st ?_
       obtain rfl := inv_some hk5
       refine pk [7] 8 ?_
       refine T.ret1 rfl rfl (fun w hS => ⟨(A10, c10), rfl, hS⟩)
      ·refine T.dStart mixed ?_
       refine D.fi 0 ?_
       refine D.fi 4 ?_
       refine T.dAdd 10 (fun w => w.heap[b1]? = some (.cells [.int .i64 a0.1, str a0.2.1, str a0.2.2.1.1, .slice A0a a0.2.2.1.2.1.length c0a, .slice A0b a0.2.2.1.2.2.length c0b, .slice A0c a0.2.2.2.1.length c0c, .int .i64 a0.2.2.2.2.1.1, .int .i64 a0.2.2.2.2.1.2.1, str a0.2.2.2.2.1.2.2, .int .i64 a0.2.2.2.2.2.1, .int .i64 a0.2.2.2.2.2.2.1.1, .int .i64 a0.2.2.2.2.2.2.1.2.1, str a0.2.2.2.2.2.2.1.2.2, .int .i64 a0.2.2.2.2.2.2.2.1.1, .int .i64 a0.2.2.2.2.2.2.2.1.2.1, str a0.2.2.2.2.2.2.2.1.2.2, .int .i64 a0.2.2.2.2.2.2.2.2].toArray 66 (0, 0))) (Cl.stays 0 rfl) ?_
       refine D.ld 0 1 (.int .i64 a0.1) ?_
       refine T.conv (.dPure (i := 2) rfl (by kernel_rfl) (fun d _ _ _ _ h => by cases d <;> exact h)) rfl (wants0 rfl) rfl rfl rfl ?_
       refine D.ld 0 5 (str a0.2.1) ?_
       obtain ⟨r18, hg18, hr⟩ := inv_bind hr
       obtain ⟨hc10, hr⟩ := inv_chk hr
       refine T.d2 (i := 3) (j := 6) (by kernel_rfl) ?_ ?_ 
       ·refine T.lit (E := E8) (.dOne rfl (by kernel_rfl)) (vals := [(0, .int .u8 (IntKind.u8.wrap a0.1))]) (cells := #[.int .u8 (IntKind.u8.wrap a0.1)]) rfl (wants0 rfl) rfl rfl rfl rfl rfl (by kernel_rfl) ([(u8 (IntKind.u8.wrap a0.1))] : List UInt8) rfl (fun _ _ _ _ _ => (Encs.c1 (enc := b8) (h1 := fun _ => rfl) (b8_wrap _) rfl)) (fun b17 => ?_)
        refine T.dNext (phi_cons (.inr (Cl.stays 1 rfl)) phi_nil) ?_
        refine D.on 6 ?_
        refine T.bytesOf (.dOne rfl (by kernel_rfl)) rfl (wants0 rfl) rfl (l := a0.2.1) rfl (fun q5 => ?_)
        refine T.dNext (phi_cons (.inr (Cl.stays 2 rfl)) phi_nil) ?_
        refine D.on 7 ?_
        refine D.c1 rfl (by kernel_rfl) rfl rfl Tryd.func20 rfl (fun w hS => wire_Bytes.c hB hS (i0 := 0) rfl hg18) (fun x23 => ?_)
        refine T.dNext (phi_cons (.inr (Cl.stays 3 rfl)) phi_nil) ?_
        refine D.on 8 ?_
        refine T.appBf (.dOne rfl (by kernel_rfl)) 2 0 rfl rfl rfl rfl rfl (wants0 rfl) rfl rfl rfl rfl rfl rfl hc10 (fun _ _ => rfl) (fun A11 c11 => ?_)
        refine T.dNext (phi_cons (.inr (Cl.stays 3 rfl)) phi_nil) ?_
        refine D.asg 9 ?_
        refine T.dDone (by kernel_rfl) ?_
        refine sx ?_
        exact jn [6, 5, 4, 2] 7 (J5 ((([(u8 (IntKind.u8.wrap a0.1))] : List UInt8)) ++ r18) (A11, c11) hr)
       ·refine T.bytesOf (.dOne rfl (by kernel_rfl)) rfl (wants0 rfl) rfl (l := a0.2.1) rfl (fun q5 => ?_)
        refine T.dNext (phi_cons (.inr (Cl.stays 1 rfl)) phi_nil) ?_
        refine T.d2 (i := 3) (j := 7) (by kernel_rfl) ?_ ?_ 
        ·refine T.lit (E := E8) (.dOne rfl (by kernel_rfl)) (vals := [(0, .int .u8 (IntKind.u8.wrap a0.1))]) (cells := #[.int .u8 (IntKind.u8.wrap a0.1)]) rfl (wants0 rfl) rfl rfl rfl rfl rfl (by kernel_rfl) ([(u8 (IntKind.u8.wrap a0.1))] : List UInt8) rfl (fun _ _ _ _ _ => (Encs.c1 (enc := b8) (h1 := fun _ => rfl) (b8_wrap _) rfl)) (fun b17 => ?_)
         refine T.dNext (phi_cons (.inr (Cl.stays 2 rfl)) phi_nil) ?_
         refine D.on 7 ?_
         refine D.c1 rfl (by kernel_rfl) rfl rfl Tryd.func20 rfl (fun w hS => wire_Bytes.c hB hS (i0 := 1) rfl hg18) (fun x23 => ?_)
         refine T.dNext (phi_cons (.inr (Cl.stays 3 rfl)) phi_nil) ?_
         refine D.on 8 ?_
         refine T.appBf (.dOne rfl (by kernel_rfl)) 1 0 rfl rfl rfl rfl rfl (wants0 rfl) rfl rfl rfl rfl rfl rfl hc10 (fun _ _ => rfl) (fun A11 c11 => ?_)
         refine T.dNext (phi_cons (.inr (Cl.stays 3 rfl)) phi_nil) ?_
         refine D.asg 9 ?_
         refine T.dDone (by kernel_rfl) ?_
         refine sx ?_
         exact jn [6, 5, 4, 1] 7 (J5 ((([(u8 (IntKind.u8.wrap a0.1))] : List UInt8)) ++ r18) (A11, c11) hr)
        ·refine D.c1 rfl (by kernel_rfl) rfl rfl Tryd.func20 rfl (fun w hS => wire_Bytes.c hB hS (i0 := 0) rfl hg18) (fun x23 => ?_)
         refine T.dNext (phi_cons (.inr (Cl.stays 2 rfl)) phi_nil) ?_
         refine D.on 3 ?_
         refine T.lit (E := E8) (.dOne rfl (by kernel_rfl)) (vals := [(0, .int .u8 (IntKind.u8.wrap a0.1))]) (cells := #[.int .u8 (IntKind.u8.wrap a0.1)]) rfl (wants0 rfl) rfl rfl rfl rfl rfl (by kernel_rfl) ([(u8 (IntKind.u8.wrap a0.1))] : List UInt8) rfl (fun _ _ _ _ _ => (Encs.c1 (enc := b8) (h1 := fun _ => rfl) (b8_wrap _) rfl)) (fun b17 => ?_)
         refine T.dNext (phi_cons (.inr (Cl.stays 3 rfl)) phi_nil) ?_
         refine D.on 8 ?_
         refine T.appBf (.dOne rfl (by kernel_rfl)) 0 1 rfl rfl rfl rfl rfl (wants0 rfl) rfl rfl rfl rfl rfl rfl hc10 (fun _ _ => rfl) (fun A11 c11 => ?_)
         refine T.dNext (phi_cons (.inr (Cl.stays 3 rfl)) phi_nil) ?_
         refine D.asg 9 ?_
         refine T.dDone (by kernel_rfl) ?_
         refine sx ?_
         exact jn [6, 5, 4, 0] 7 (J5 ((([(u8 (IntKind.u8.wrap a0.1))] : List UInt8)) ++ r18) (A11, c11) hr)
     ·refine br hr (fun hb6 hr => ?_) (fun hb6 hr => ?_)
      ·obtain ⟨r19, hg19, hr⟩ := inv_bind hr
       refine A.c1 rfl rfl Tryd.func51 rfl (fun w hS => entry_inside_k6.c hB hS (i0a := 3) (i0b := 2) (i0c := 1) (a0 := a0) rfl rfl rfl hb1 hb2 hb3 hb4 hb5 hb6 hg19) (fun x24 => ?_)
       refine st ?_
       refine T.seqJ (fun (s6 : List UInt8) (x25 : ty3) => [(3, .iface 104 (.agg #[.int .i64 a0.1, str a0.2.1, str a0.2.2.1.1, .slice A0a a0.2.2.1.2.1.length c0a, .slice A0b a0.2.2.1.2.2.length c0b, .slice A0c a0.2.2.2.1.length c0c, .int .i64 a0.2.2.2.2.1.1, .int .i64 a0.2.2.2.2.1.2.1, str a0.2.2.2.2.1.2.2, .int .i64 a0.2.2.2.2.2.1, .int .i64 a0.2.2.2.2.2.2.1.1, .int .i64 a0.2.2.2.2.2.2.1.2.1, str a0.2.2.2.2.2.2.1.2.2, .int .i64 a0.2.2.2.2.2.2.2.1.1, .int .i64 a0.2.2.2.2.2.2.2.1.2.1, str a0.2.2.2.2.2.2.2.1.2.2, .int .i64 a0.2.2.2.2.2.2.2.2])), (4, .slice x25.1 s6.length x25.2)]) (fun s6 x25 => Ro el9 A0a c0a a0.2.2.1.2.1 :: Ro el11 A0b c0b a0.2.2.1.2.2 :: Ro el2 A0c c0c a0.2.2.2.1 :: Bf E8 5 x25.1 x25.2 s6 :: hs) (fun s6 => entry_op.k6 a0 s6 = some r) (fun s6 x25 hk6 => ?_) (fun J6 => ?_)
       ·unfold entry_op.k6 at hk6
        refine sq ?_
        refine T.assertNo2 .list (by kernel_rfl) rfl (wants0 rfl) rfl rfl rfl (z := .agg #[.int .i64 0, str (([] : List UInt8)), str (([] : List UInt8)), .slice none 0 0, .slice none 0 0, .slice none 0 0, .int .i64 0, .int .i64 0, str (([] : List UInt8)), .int .i64 0, .int .i64 0, .int .i64 0, str (([] : List UInt8)), .int .i64 0, .int .i64 0, str (([] : List UInt8)), .int .i64 0]) rfl ?_
        refine st ?_
        refine A.al rfl (fun b18 => ?_)
        refine sq ?_
        refine T.condF rfl rfl ?_
        refine sq ?_
        refine T.assertNo2 .list (by kernel_rfl) rfl (wants0 rfl) rfl rfl rfl (z := .agg #[.int .i64 0, str (([] : List UInt8)), str (([] : List UInt8)), .slice none 0 0, .slice none 0 0, .slice none 0 0, .int .i64 0, .int .i64 0, str (([] : List UInt8)), .int .i64 0, .int .i64 0, .int .i64 0, str (([] : List UInt8)), .int .i64 0, .int .i64 0, str (([] : List UInt8)), .int .i64 0]) rfl ?_
        refine st ?_
        refine A.al rfl (fun b19 => ?_)
        refine sq ?_
        refine T.condF rfl rfl ?_
        refine sq ?_
        refine T.assertNo2 .list (by kernel_rfl) rfl (wants0 rfl) rfl rfl rfl (z := .agg #[.int .i64 0, str (([] : List UInt8)), str (([] : List UInt8)), .slice none 0 0, .slice none 0 0, .slice none 0 0, .int .i64 0, .int .i64 0, str (([] : List UInt8)), .int .i64 0, .int .i64 0, .int .i64 0, str (([] : List UInt8)), .int .i64 0, .int .i64 0, str (([] : List UInt8)), .int .i64 0]) rfl ?_
        refine st ?_
        refine A.al rfl (fun b20 => ?_)
        refine sq ?_
        refine T.condF rfl rfl ?_
        refine sq ?_
        refine T.assertYes1 .list (by kernel_rfl) rfl (wants0 rfl) rfl rfl ?_
        refine A.al rfl (fun b21 => ?_)
        refine sq ?_
        refine T.dStart mixed ?_
        refine D.mv 0 ?_
        refine D.fi 1 ?_
        refine D.fi 2 ?_
        refine D.fi 6 ?_
        refine D.fi 7 ?_
        refine T.dAdd 12 (fun w => w.heap[b21]? = some (.cells [.int .i64 a0.1, str a0.2.1, str a0.2.2.1.1, .slice A0a a0.2.2.1.2.1.length c0a, .slice A0b a0.2.2.1.2.2.length c0b, .slice A0c a0.2.2.2.1.length c0c, .int .i64 a0.2.2.2.2.1.1, .int .i64 a0.2.2.2.2.1.2.1, str a0.2.2.2.2.1.2.2, .int .i64 a0.2.2.2.2.2.1, .int .i64 a0.2.2.2.2.2.2.1.1, .int .i64 a0.2.2.2.2.2.2.1.2.1, str a0.2.2.2.2.2.2.1.2.2, .int .i64 a0.2.2.2.2.2.2.2.1.1, .int .i64 a0.2.2.2.2.2.2.2.1.2.1, str a0.2.2.2.2.2.2.2.1.2.2, .int .i64 a0.2.2.2.2.2.2.2.2].toArray 104 (0, 0))) (Cl.stays 0 rfl) ?_
        refine T.valS 0 (i := 3) (.agg #[.int .i64 a0.2.2.2.2.2.2.1.1, .int .i64 a0.2.2.2.2.2.2.1.2.1, str a0.2.2.2.2.2.2.1.2.2]) rfl rfl (by kernel_rfl) (by kernel_rfl) (fun d _ _ _ _ h => by cases d <;> exact h) (wants0 rfl) rfl (run_ldClN rfl rfl (vs := [.int .i64 a0.2.2.2.2.2.2.1.1, .int .i64 a0.2.2.2.2.2.2.1.2.1, str a0.2.2.2.2.2.2.1.2.2]) rfl rfl) ?_
        refine T.valS 0 (i := 8) (.agg #[.int .i64 a0.2.2.2.2.2.2.2.1.1, .int .i64 a0.2.2.2.2.2.2.2.1.2.1, str a0.2.2.2.2.2.2.2.1.2.2]) rfl rfl (by kernel_rfl) (by kernel_rfl) (fun d _ _ _ _ h => by cases d <;> exact h) (wants0 rfl) rfl (run_ldClN rfl rfl (vs := [.int .i64 a0.2.2.2.2.2.2.2.1.1, .int .i64 a0.2.2.2.2.2.2.2.1.2.1, str a0.2.2.2.2.2.2.2.1.2.2]) rfl rfl) ?_
        obtain ⟨r20, hg20, hk6⟩ := inv_bind hk6
        refine D.on 4 ?_
        refine D.c1 rfl (by kernel_rfl) rfl rfl Tryd.func53 rfl (fun w hS => entry_value.c hB hS (a0 := a0.2.2.2.2.2.2.1)  hg20) (fun x26 => ?_)
        refine T.dNext (phi_cons (.inr (Cl.stays 1 rfl)) phi_nil) ?_
        obtain ⟨hc11, hk6⟩ := inv_chk hk6
        refine D.on 5 ?_
        refine T.appBf (.dOne rfl (by kernel_rfl)) 8 0 rfl rfl rfl rfl rfl (wants0 rfl) rfl rfl rfl rfl rfl rfl hc11 (fun _ _ => rfl) (fun A12 c12 => ?_)
        refine T.dNext (phi_cons (.inr (Cl.stays 1 rfl)) phi_nil) ?_
        obtain ⟨r21, hg21, hk6⟩ := inv_bind hk6
        refine D.on 9 ?_
        refine D.c1 rfl (by kernel_rfl) rfl rfl Tryd.func53 rfl (fun w hS => entry_value.c hB hS (a0 := a0.2.2.2.2.2.2.2.1)  hg21) (fun x27 => ?_)
        refine T.dNext (phi_cons (.inr (Cl.stays 2 rfl)) phi_nil) ?_
        obtain ⟨hc12, hk6⟩ := inv_chk hk6
        refine D.on 10 ?_
        refine T.appBf (.dOne rfl (by kernel_rfl)) 9 0 rfl rfl rfl rfl rfl (wants0 rfl) rfl rfl rfl rfl rfl rfl hc12 (fun _ _ => rfl) (fun A13 c13 => ?_)
        refine T.dNext (phi_cons (.inr (Cl.stays 2 rfl)) phi_nil) ?_
        refine D.asg 11 ?_
        refine T.dDone (by kernel_rfl) ?_
        refine sq ?_
        refine T.conv .list rfl (wants0 rfl) rfl rfl rfl ?_
        refine st ?_
        refine T.conv .list rfl (wants0 rfl) rfl rfl rfl ?_
        refine T.lit (E := E8) .list (vals := [(0, .int .u8 (IntKind.u8.wrap a0.2.2.2.2.2.1)), (1, .int .u8 (IntKind.u8.wrap a0.2.2.2.2.2.2.2.2))]) (cells := #[.int .u8 (IntKind.u8.wrap a0.2.2.2.2.2.1), .int .u8 (IntKind.u8.wrap a0.2.2.2.2.2.2.2.2)]) rfl (wants0 rfl) rfl rfl rfl rfl rfl (by kernel_rfl) ([(u8 (IntKind.u8.wrap a0.2.2.2.2.2.1)), (u8 (IntKind.u8.wrap a0.2.2.2.2.2.2.2.2))] : List UInt8) rfl (fun _ _ _ _ _ => (Encs.c1 (enc := b8) (h1 := fun _ => rfl) (b8_wrap _) (Encs.c1 (enc := b8) (h1 := fun _ => rfl) (b8_wrap _) rfl))) (fun b22 => ?_)
        obtain ⟨hc13, hk6⟩ := inv_chk hk6
        refine T.appBf .list 10 0 rfl rfl rfl rfl rfl (wants0 rfl) rfl rfl rfl rfl rfl rfl hc13 (fun _ _ => rfl) (fun A14 c14 => ?_)
        refine st ?_
        obtain rfl := inv_some hk6
        refine pk [10] 11 ?_
        refine T.ret1 rfl rfl (fun w hS => ⟨(A14, c14), rfl, hS⟩)
       ·refine T.dStart mixed ?_
        refine D.fi 0 ?_
        refine D.fi 4 ?_
        refine T.dAdd 10 (fun w => w.heap[b1]? = some (.cells [.int .i64 a0.1, str a0.2.1, str a0.2.2.1.1, .slice A0a a0.2.2.1.2.1.length c0a, .slice A0b a0.2.2.1.2.2.length c0b, .slice A0c a0.2.2.2.1.length c0c, .int .i64 a0.2.2.2.2.1.1, .int .i64 a0.2.2.2.2.1.2.1, str a0.2.2.2.2.1.2.2, .int .i64 a0.2.2.2.2.2.1, .int .i64 a0.2.2.2.2.2.2.1.1, .int .i64 a0.2.2.2.2.2.2.1.2.1, str a0.2.2.2.2.2.2.1.2.2, .int .i64 a0.2.2.2.2.2.2.2.1.1, .int .i64 a0.2.2.2.2.2.2.2.1.2.1, str a0.2.2.2.2.2.2.2.1.2.2, .int .i64 a0.2.2.2.2.2.2.2.2].toArray 66 (0, 0))) (Cl.stays 0 rfl) ?_
        refine D.ld 0 1 (.int .i64 a0.1) ?_
        refine T.conv (.dPure (i := 2) rfl (by kernel_rfl) (fun d _ _ _ _ h => by cases d <;> exact h)) rfl (wants0 rfl) rfl rfl rfl ?_
        refine D.ld 0 5 (str a0.2.1) ?_
        obtain ⟨r22, hg22, hr⟩ := inv_bind hr
        obtain ⟨hc14, hr⟩ := inv_chk hr
        refine T.d2 (i := 3) (j := 6) (by kernel_rfl) ?_ ?_ 
        ·refine T.lit (E := E8) (.dOne rfl (by kernel_rfl)) (vals := [(0, .int .u8 (IntKind.u8.wrap a0.1))]) (cells := #[.int .u8 (IntKind.u8.wrap a0.1)]) rfl (wants0 rfl) rfl rfl rfl rfl rfl (by kernel_rfl) ([(u8 (IntKind.u8.wrap a0.1))] : List UInt8) rfl (fun _ _ _ _ _ => (Encs.c1 (enc := b8) (h1 := fun _ => rfl) (b8_wrap _) rfl)) (fun b23 => ?_)
         refine T.dNext (phi_cons (.inr (Cl.stays 1 rfl)) phi_nil) ?_
         refine D.on 6 ?_
         refine T.bytesOf (.dOne rfl (by kernel_rfl)) rfl (wants0 rfl) rfl (l := a0.2.1) rfl (fun q6 => ?_)
         refine T.dNext (phi_cons (.inr (Cl.stays 2 rfl)) phi_nil) ?_
         refine D.on 7 ?_
         refine D.c1 rfl (by kernel_rfl) rfl rfl Tryd.func20 rfl (fun w hS => wire_Bytes.c hB hS (i0 := 0) rfl hg22) (fun x28 => ?_)
         refine T.dNext (phi_cons (.inr (Cl.stays 3 rfl)) phi_nil) ?_
         refine D.on 8 ?_
         refine T.appBf (.dOne rfl (by kernel_rfl)) 2 0 rfl rfl rfl rfl rfl (wants0 rfl) rfl rfl rfl rfl rfl rfl hc14 (fun _ _ => rfl) (fun A15 c15 => ?_)
         refine T.dNext (phi_cons (.inr (Cl.stays 3 rfl)) phi_nil) ?_
         refine D.asg 9 ?_
         refine T.dDone (by kernel_rfl) ?_
         refine sx ?_
         exact jn [6, 5, 4, 2] 7 (J6 ((([(u8 (IntKind.u8.wrap a0.1))] : List UInt8)) ++ r22) (A15, c15) hr)
        ·refine T.bytesOf (.dOne rfl (by kernel_rfl)) rfl (wants0 rfl) rfl (l := a0.2.1) rfl (fun q6 => ?_)
         refine T.dNext (phi_cons (.inr (Cl.stays 1 rfl)) phi_nil) ?_
         refine T.d2 (i := 3) (j := 7) (by kernel_rfl) ?_ ?_ 
         ·refine T.lit (E := E8) (.dOne rfl (by kernel_rfl)) (vals := [(0, .int .u8 (IntKind.u8.wrap a0.1))]) (cells := #[.int .u8 (IntKind.u8.wrap a0.1)]) rfl (wants0 rfl) rfl rfl rfl rfl rfl (by kernel_rfl) ([(u8 (IntKind.u8.wrap a0.1))] : List UInt8) rfl (fun _ _ _ _ _ => (Encs.c1 (enc := b8) (h1 := fun _ => rfl) (b8_wrap _) rfl)) (fun b23 => ?_)
          refine T.dNext (phi_cons (.inr (Cl.stays 2 rfl)) phi_nil) ?_
          refine D.on 7 ?_
          refine D.c1 rfl (by kernel_rfl) rfl rfl Tryd.func20 rfl (fun w hS => wire_Bytes.c hB hS (i0 := 1) rfl hg22) (fun x28 => ?_)
          refine T.dNext (phi_cons (.inr (Cl.stays 3 rfl)) phi_nil) ?_
          refine D.on 8 ?_
          refine T.appBf (.dOne rfl (by kernel_rfl)) 1 0 rfl rfl rfl rfl rfl (wants0 rfl) rfl rfl rfl rfl rfl rfl hc14 (fun _ _ => rfl) (fun A15 c15 => ?_)
          refine T.dNext (phi_cons (.inr (Cl.stays 3 rfl)) phi_nil) ?_
          refine D.asg 9 ?_
          refine T.dDone (by kernel_rfl) ?_
          refine sx ?_
          exact jn [6, 5, 4, 1] 7 (J6 ((([(u8 (IntKind.u8.wrap a0.1))] : List UInt8)) ++ r22) (A15, c15) hr)
         ·refine D.c1 rfl (by kernel_rfl) rfl rfl Tryd.func20 rfl (fun w hS => wire_Bytes.c hB hS (i0 := 0) rfl hg22) (fun x28 => ?_)
          refine T.dNext (phi_cons (.inr (Cl.stays 2 rfl)) phi_nil) ?_
          refine D.on 3 ?_
          refine T.lit (E := E8) (.dOne rfl (by kernel_rfl)) (vals := [(0, .int .u8 (IntKind.u8.wrap a0.1))]) (cells := #[.int .u8 (IntKind.u8.wrap a0.1)]) rfl (wants0 rfl) rfl rfl rfl rfl rfl (by kernel_rfl) ([(u8 (IntKind.u8.wrap a0.1))] : List UInt8) rfl (fun _ _ _ _ _ => (Encs.c1 (enc := b8) (h1 := fun _ => rfl) (b8_wrap _) rfl)) (fun b23 => ?_)
          refine T.dNext (phi_cons (.inr (Cl.stays 3 rfl)) phi_nil) ?_
          refine D.on 8 ?_
          refine T.appBf (.dOne rfl (by kernel_rfl)) 0 1 rfl rfl rfl rfl rfl (wants0 rfl) rfl rfl rfl rfl rfl rfl hc14 (fun _ _ => rfl) (fun A15 c15 => ?_)
          refine T.dNext (phi_cons (.inr (Cl.stays 3 rfl)) phi_nil) ?_
          refine D.asg 9 ?_
          refine T.dDone (by kernel_rfl) ?_
          refine sx ?_
          exact jn [6, 5, 4, 0] 7 (J6 ((([(u8 (IntKind.u8.wrap a0.1))] : List UInt8)) ++ r22) (A15, c15) hr)
      ·cases hr

noncomputable def entry_Encode.k2 (s2 : List UInt8) : Option ty1 :=
  some (s2, 0)
noncomputable def entry_Encode.k3 (s3 : ty1) (s4 : List UInt8) : Option (ty1 ⊕ (List UInt8)) :=
  some (.inl (s4, IntKind.i64.wrap (s3.2 + 1)))
noncomputable def entry_Encode.st2 (a0 : Int × Int × (List ty8) × Int) (s3 : ty1) (s5 : ty1) : Option (ty1 ⊕ (List UInt8)) :=
  (if ((decide (s5.2 < ((((((a0.2.2.1.getD (s3.2 : Int).toNat default)).2.2)).length : Int))))) = true then chk (0 ≤ s5.2 ∧ s5.2 < (((((a0.2.2.1.getD (s3.2 : Int).toNat default)).2.2)).length : Int)) ((entry_op.impl (((((((((a0.2.2.1.getD (s3.2 : Int).toNat default)).2.2)).getD (s5.2 : Int).toNat default)).1), (((((((a0.2.2.1.getD (s3.2 : Int).toNat default)).2.2)).getD (s5.2 : Int).toNat default)).2.1), (((((((((a0.2.2.1.getD (s3.2 : Int).toNat default)).2.2)).getD (s5.2 : Int).toNat default)).2.2.1).1), ((((((((a0.2.2.1.getD (s3.2 : Int).toNat default)).2.2)).getD (s5.2 : Int).toNat default)).2.2.1).2.1), ((((((((a0.2.2.1.getD (s3.2 : Int).toNat default)).2.2)).getD (s5.2 : Int).toNat default)).2.2.1).2.2)), (((((((a0.2.2.1.getD (s3.2 : Int).toNat default)).2.2)).getD (s5.2 : Int).toNat default)).2.2.2.1), (((((((((a0.2.2.1.getD (s3.2 : Int).toNat default)).2.2)).getD (s5.2 : Int).toNat default)).2.2.2.2.1).1), ((((((((a0.2.2.1.getD (s3.2 : Int).toNat default)).2.2)).getD (s5.2 : Int).toNat default)).2.2.2.2.1).2.1), ((((((((a0.2.2.1.getD (s3.2 : Int).toNat default)).2.2)).getD (s5.2 : Int).toNat default)).2.2.2.2.1).2.2)), (((((((a0.2.2.1.getD (s3.2 : Int).toNat default)).2.2)).getD (s5.2 : Int).toNat default)).2.2.2.2.2.1), (((((((((a0.2.2.1.getD (s3.2 : Int).toNat default)).2.2)).getD (s5.2 : Int).toNat default)).2.2.2.2.2.2.1).1), ((((((((a0.2.2.1.getD (s3.2 : Int).toNat default)).2.2)).getD (s5.2 : Int).toNat default)).2.2.2.2.2.2.1).2.1), ((((((((a0.2.2.1.getD (s3.2 : Int).toNat default)).2.2)).getD (s5.2 : Int).toNat default)).2.2.2.2.2.2.1).2.2)), (((((((((a0.2.2.1.getD (s3.2 : Int).toNat default)).2.2)).getD (s5.2 : Int).toNat default)).2.2.2.2.2.2.2.1).1), ((((((((a0.2.2.1.getD (s3.2 : Int).toNat default)).2.2)).getD (s5.2 : Int).toNat default)).2.2.2.2.2.2.2.1).2.1), ((((((((a0.2.2.1.getD (s3.2 : Int).toNat default)).2.2)).getD (s5.2 : Int).toNat default)).2.2.2.2.2.2.2.1).2.2)), (((((((a0.2.2.1.getD (s3.2 : Int).toNat default)).2.2)).getD (s5.2 : Int).toNat default)).2.2.2.2.2.2.2.2)))).bind fun r3 => chk ((s5.1.length + r3.length) * 1 ≤ 140737488355328) (some (.inl ((s5.1 ++ r3), IntKind.i64.wrap (s5.2 + 1))))) else some (.inr s5.1))
noncomputable def entry_Encode.st1 (a0 : Int × Int × (List ty8) × Int) (s3 : ty1) : Option (ty1 ⊕ (List UInt8)) :=
  (if ((decide (s3.2 < ((a0.2.2.1.length : Int))))) = true then chk (0 ≤ s3.2 ∧ s3.2 < (a0.2.2.1.length : Int)) (chk ((s3.1.length + (([(u8 (IntKind.u8.wrap ((((a0.2.2.1.getD (s3.2 : Int).toNat default)).1))))] : List UInt8)).length) * 1 ≤ 140737488355328) ((wire_Uint.impl ((((a0.2.2.1.getD (s3.2 : Int).toNat default)).2.1))).bind fun r2 => chk ((((s3.1 ++ (([(u8 (IntKind.u8.wrap ((((a0.2.2.1.getD (s3.2 : Int).toNat default)).1))))] : List UInt8)))).length + r2.length) * 1 ≤ 140737488355328) (chk ((((((s3.1 ++ (([(u8 (IntKind.u8.wrap ((((a0.2.2.1.getD (s3.2 : Int).toNat default)).1))))] : List UInt8)))) ++ r2)).length + (([(u8 (IntKind.u8.wrap ((((((a0.2.2.1.getD (s3.2 : Int).toNat default)).2.2)).length : Int))))] : List UInt8)).length) * 1 ≤ 140737488355328) ((loop (entry_Encode.st2 a0 s3) ((((((s3.1 ++ (([(u8 (IntKind.u8.wrap ((((a0.2.2.1.getD (s3.2 : Int).toNat default)).1))))] : List UInt8)))) ++ r2)) ++ (([(u8 (IntKind.u8.wrap ((((((a0.2.2.1.getD (s3.2 : Int).toNat default)).2.2)).length : Int))))] : List UInt8))), 0)).bind (fun e2 => entry_Encode.k3 s3 e2))))) else some (.inr s3.1))
noncomputable def entry_Encode.k1 (a0 : Int × Int × (List ty8) × Int) (s1 : List UInt8) : Option ty1 :=
  (loop (entry_Encode.st1 a0) (s1, 0)).bind (fun e1 => entry_Encode.k2 e1)
noncomputable def entry_Encode.impl (a0 : Int × Int × (List ty8) × Int) : Option ty1 :=
  (entry_Right.impl a0).bind fun r1 => (if ((!r1)) = true then some (([] : List UInt8), 1) else (wire_Uint.impl a0.2.2.2).bind fun r4 => chk (((([(u8 (IntKind.u8.wrap a0.1)), (u8 (IntKind.u8.wrap a0.2.1))] : List UInt8)).length + r4.length) * 1 ≤ 140737488355328) (entry_Encode.k1 a0 ((([(u8 (IntKind.u8.wrap a0.1)), (u8 (IntKind.u8.wrap a0.2.1))] : List UInt8)) ++ r4)))
theorem entry_Encode.c {a0 : Int × Int × (List ty8) × Int} {i0a c0a : Nat} {A0a : Option Addr} (hB : Base B) (hS : St B (hs) w) (h0a : (hs)[i0a]? = some (Ro el20 A0a c0a a0.2.2.1)) {r : ty1} (hr : entry_Encode.impl a0 = some r) :
    Calls Tryd.prog 12 #[.agg #[.int .i64 a0.1, .int .i64 a0.2.1, .slice A0a a0.2.2.1.length c0a, .int .i64 a0.2.2.2]] w fun e w' => ∃ x : ty3, e = .returned (.tuple #[.slice x.1 r.1.length x.2, .int .i64 r.2]) ∧ St B (Bf E8 5 x.1 x.2 r.1 :: hs) w' := by
 unfold entry_Encode.impl at hr
 refine calls_TD Tryd.func12 rfl rfl rfl hS ?_
 refine T.front i0a h0a ?_
 refine sq ?_
 refine A.bx rfl rfl (fun b1 => ?_)
 refine A.al rfl (fun b2 => ?_)
 refine A.al rfl (fun b3 => ?_)
 refine sq ?_
 obtain ⟨r1, hg1, hr⟩ := inv_bind hr
 refine A.c1 rfl rfl Tryd.func13 rfl (fun w hS => entry_Right.c hB hS (i0a := 3) (a0 := a0) rfl hg1) (fun x1 => ?_)
 refine T.not .list rfl (wants0 rfl) rfl rfl ?_
 refine st ?_
 refine A.cd hr rfl (fun hb1 hr => ?_) (fun hb1 hr => ?_)
 ·refine sq ?_
  refine T.retD ?_
  obtain rfl := inv_some hr
  refine T.nilBf E8 5 ?_
  refine T.lvOut2 rfl (OutRun.cell1 2 rfl rfl rfl) (OutRun.cell1 1 rfl rfl rfl) (fun w hS => ⟨(none, 0), rfl, hS.pick [0] 5 rfl rfl nla rfl⟩)
 ·refine sq ?_
  refine T.makeFunc .list (f := 28) (vs := [.pointer (some ⟨b2, 0, none⟩), .pointer (some ⟨b3, 0, none⟩)]) rfl (wants0 rfl) rfl rfl ?_
  refine T.defer .list (run_deferV (vs := []) (caps := [.pointer (some ⟨b2, 0, none⟩), .pointer (some ⟨b3, 0, none⟩)]) rfl rfl rfl) (wants0 rfl) rfl ?_
  refine st ?_
  refine T.seqJ (fun (s1 : List UInt8) (x2 : ty3) => [(1, .pointer (some ⟨b1, 0, none⟩)), (2, .pointer (some ⟨b2, 0, none⟩)), (3, .pointer (some ⟨b3, 0, none⟩))]) (fun s1 x2 => Cl b1 36 [.int .i64 a0.1, .int .i64 a0.2.1, .slice A0a a0.2.2.1.length c0a, .int .i64 a0.2.2.2] :: Ro el20 A0a c0a a0.2.2.1 :: Cl b2 26 [.slice x2.1 s1.length x2.2] :: Bf E8 5 x2.1 x2.2 s1 :: Cl b3 22 [.int .i64 0] :: hs) (fun s1 => entry_Encode.k1 a0 s1 = some r) (fun s1 x2 hk1 => ?_) (fun J1 => ?_)
  ·unfold entry_Encode.k1 at hk1
   refine T.seqJ (fun (s2 : List UInt8) (x3 : ty3) => [(2, .pointer (some ⟨b2, 0, none⟩)), (3, .pointer (some ⟨b3, 0, none⟩))]) (fun s2 x3 => Cl b2 26 [.slice x3.1 s2.length x3.2] :: Bf E8 5 x3.1 x3.2 s2 :: Cl b3 22 [.int .i64 0] :: hs) (fun s2 => entry_Encode.k2 s2 = some r) (fun s2 x3 hk2 => ?_) (fun J2 => ?_)
   ·unfold entry_Encode.k2 at hk2
    refine sq ?_
    refine T.retD ?_
    refine T.lvCons (args := []) (caps := [.pointer (some ⟨b2, 0, none⟩), .pointer (some ⟨b3, 0, none⟩)]) (vs := [.pointer (some ⟨b2, 0, none⟩), .pointer (some ⟨b3, 0, none⟩)]) (v := .tuple #[]) Tryd.func28 rfl (by decide) rfl (fun w hS => entry_Encode_1.d hB hS) (fun (_ : Unit) => ?_)
    obtain rfl := inv_some hk2
    refine T.lvOut2 rfl (OutRun.cell1 0 rfl rfl rfl) (OutRun.cell1 2 rfl rfl rfl) (fun w hS => ⟨(x3.1, x3.2), rfl, hS.pick [1] 3 rfl rfl nla rfl⟩)
   ·refine sq ?_
    obtain ⟨e1, hl1, hk1⟩ := inv_bind hk1
    refine jn [2, 3, 4, 1] 5 (T.loop (s0 := (s1, 0)) (env := fun s3 x4 => [(2, .pointer (some ⟨b2, 0, none⟩)), (3, .pointer (some ⟨b3, 0, none⟩)), (24, .slice A0a a0.2.2.1.length c0a), (25, .int .i64 ((a0.2.2.1.length : Int))), (26, .int .i64 s3.2)]) (hs := fun (s3 : ty1) (x4 : ty3) => Cl b2 26 [.slice x4.1 s3.1.length x4.2] :: Bf E8 5 x4.1 x4.2 s3.1 :: Cl b3 22 [.int .i64 0] :: Ro el20 A0a c0a a0.2.2.1 :: hs) hl1 (x2.1, x2.2) (fun K1 s3 x4 o1 he1 hm1 hx1 => ?_))
    unfold entry_Encode.st1 at he1
    refine sq ?_
    refine A.cd he1 rfl (fun hb2 he1 => ?_) (fun hb2 he1 => ?_)
    ·refine st ?_
     refine T.seqJ (fun (s4 : List UInt8) (x5 : ty3) => [(2, .pointer (some ⟨b2, 0, none⟩)), (3, .pointer (some ⟨b3, 0, none⟩)), (24, .slice A0a a0.2.2.1.length c0a), (25, .int .i64 ((a0.2.2.1.length : Int))), (26, .int .i64 s3.2)]) (fun s4 x5 => Cl b2 26 [.slice x5.1 s4.length x5.2] :: Bf E8 5 x5.1 x5.2 s4 :: Cl b3 22 [.int .i64 0] :: Ro el20 A0a c0a a0.2.2.1 :: hs) (fun s4 => entry_Encode.k3 s3 s4 = some o1) (fun s4 x5 hk3 => ?_) (fun J3 => ?_)
     ·unfold entry_Encode.k3 at hk3
      refine T.region ?_
      refine sx ?_
      obtain rfl := inv_some hk3
      exact jn [0, 1, 2, 3] 4 (hm1 (s4, IntKind.i64.wrap (s3.2 + 1)) rfl (x5.1, x5.2))
     ·refine sq ?_
      obtain ⟨hc1, he1⟩ := inv_chk he1
      refine T.idxRo .list 3 rfl rfl (wants0 rfl) rfl rfl rfl hc1.1 hc1.2 (Nat.le_refl _) ?_
      refine T.ldFRo 3 .list Fd.self (Sh.pair Sh.sc (Sh.pair Sh.sc Sh.slice)) rfl (.inl rfl) rfl rfl hc1.1 hc1.2 rfl (wants0 rfl) rfl rfl rfl (v := fun x6 => .agg #[.int .i64 ((((a0.2.2.1.getD (s3.2 : Int).toNat default)).1)), .int .i64 ((((a0.2.2.1.getD (s3.2 : Int).toNat default)).2.1)), .slice x6.2.2.1 (((((a0.2.2.1.getD (s3.2 : Int).toNat default)).2.2)).length) x6.2.2.2]) (hs' := fun x6 => Ro el17 x6.2.2.1 x6.2.2.2 ((((a0.2.2.1.getD (s3.2 : Int).toNat default)).2.2)) :: Cl b2 26 [.slice x4.1 s3.1.length x4.2] :: Bf E8 5 x4.1 x4.2 s3.1 :: Cl b3 22 [.int .i64 0] :: Ro el20 A0a c0a a0.2.2.1 :: hs) (fun _ => rfl) (fun _ => rfl) (fun x6 => ?_)
      refine A.al rfl (fun b4 => ?_)
      refine sq ?_
      refine T.dStart mixed ?_
      refine D.fi 1 ?_
      refine D.fi 6 ?_
      refine T.dAdd 10 (fun w => w.heap[b2]? = some (.cells [.slice x4.1 s3.1.length x4.2].toArray 26 (0, 0))) (Cl.stays 2 rfl) ?_
      refine D.ld 0 0 (.slice x4.1 s3.1.length x4.2) ?_
      refine T.dAdd 11 (fun w => w.heap[b4]? = some (.cells [.int .i64 ((((a0.2.2.1.getD (s3.2 : Int).toNat default)).1)), .int .i64 ((((a0.2.2.1.getD (s3.2 : Int).toNat default)).2.1)), .slice x6.2.2.1 (((((a0.2.2.1.getD (s3.2 : Int).toNat default)).2.2)).length) x6.2.2.2].toArray 58 (0, 0))) (Cl.stays 0 rfl) ?_
      refine D.ld 0 2 (.int .i64 ((((a0.2.2.1.getD (s3.2 : Int).toNat default)).1))) ?_
      refine T.conv (.dPure (i := 3) rfl (by kernel_rfl) (fun d _ _ _ _ h => by cases d <;> exact h)) rfl (wants0 rfl) rfl rfl rfl ?_
      refine D.ld 0 7 (.int .i64 ((((a0.2.2.1.getD (s3.2 : Int).toNat default)).2.1))) ?_
      refine D.on 4 ?_
      refine T.lit (E := E8) (.dOne rfl (by kernel_rfl)) (vals := [(0, .int .u8 (IntKind.u8.wrap ((((a0.2.2.1.getD (s3.2 : Int).toNat default)).1))))]) (cells := #[.int .u8 (IntKind.u8.wrap ((((a0.2.2.1.getD (s3.2 : Int).toNat default)).1)))]) rfl (wants0 rfl) rfl rfl rfl rfl rfl (by kernel_rfl) ([(u8 (IntKind.u8.wrap ((((a0.2.2.1.getD (s3.2 : Int).toNat default)).1))))] : List UInt8) rfl (fun _ _ _ _ _ => (Encs.c1 (enc := b8) (h1 := fun _ => rfl) (b8_wrap _) rfl)) (fun b5 => ?_)
      refine T.dNext (phi_cons (.inr (Cl.stays 1 rfl)) (phi_cons (.inr (Cl.stays 3 rfl)) phi_nil)) ?_
      obtain ⟨hc2, he1⟩ := inv_chk he1
      refine D.on 5 ?_
      refine T.appBf (.dOne rfl (by kernel_rfl)) 4 0 rfl rfl rfl rfl rfl (wants0 rfl) rfl rfl rfl rfl rfl rfl hc2 (fun _ _ => rfl) (fun A2 c2 => ?_)
      refine T.dNext (phi_cons (.inr (Cl.stays 1 rfl)) (phi_cons (.inr (Cl.stays 3 rfl)) phi_nil)) ?_
      obtain ⟨r2, hg2, he1⟩ := inv_bind he1
      refine D.on 8 ?_
      refine D.c1 rfl (by kernel_rfl) rfl rfl Tryd.func18 rfl (fun w hS => wire_Uint.c hB hS  hg2) (fun x7 => ?_)
      refine T.dNext (phi_cons (.inr (Cl.stays 2 rfl)) (phi_cons (.inr (Cl.stays 4 rfl)) phi_nil)) ?_
      obtain ⟨hc3, he1⟩ := inv_chk he1
      refine D.on 9 ?_
      refine T.appBf (.dOne rfl (by kernel_rfl)) 5 0 rfl rfl rfl rfl rfl (wants0 rfl) rfl rfl rfl rfl rfl rfl hc3 (fun _ _ => rfl) (fun A3 c3 => ?_)
      refine T.dNext (phi_cons (.inr (Cl.stays 2 rfl)) (phi_cons (.inr (Cl.stays 4 rfl)) phi_nil)) ?_
      refine D.on 10 ?_
      refine T.store (.dOne rfl (by kernel_rfl)) 4 rfl rfl (wants0 rfl) rfl rfl rfl rfl (Nat.le_of_ble_eq_true rfl) rfl (cs' := [.slice A3 (((((s3.1 ++ (([(u8 (IntKind.u8.wrap ((((a0.2.2.1.getD (s3.2 : Int).toNat default)).1))))] : List UInt8)))) ++ r2)).length) c3]) rfl rfl ?_
      refine T.dNext (phi_cons (.inr (Cl.stays 2 rfl)) (phi_cons (.inl (by kernel_rfl)) phi_nil)) ?_
      refine T.dDone (by kernel_rfl) ?_
      refine sq ?_
      refine T.conv .list rfl (wants0 rfl) rfl rfl rfl ?_
      refine T.lit (E := E8) .list (vals := [(0, .int .u8 (IntKind.u8.wrap ((((((a0.2.2.1.getD (s3.2 : Int).toNat default)).2.2)).length : Int))))]) (cells := #[.int .u8 (IntKind.u8.wrap ((((((a0.2.2.1.getD (s3.2 : Int).toNat default)).2.2)).length : Int)))]) rfl (wants0 rfl) rfl rfl rfl rfl rfl (by kernel_rfl) ([(u8 (IntKind.u8.wrap ((((((a0.2.2.1.getD (s3.2 : Int).toNat default)).2.2)).length : Int))))] : List UInt8) rfl (fun _ _ _ _ _ => (Encs.c1 (enc := b8) (h1 := fun _ => rfl) (b8_wrap _) rfl)) (fun b6 => ?_)
      obtain ⟨hc4, he1⟩ := inv_chk he1
      refine T.appBf .list 6 0 rfl rfl rfl rfl rfl (wants0 rfl) rfl rfl rfl rfl rfl rfl hc4 (fun _ _ => rfl) (fun A4 c4 => ?_)
      refine sq ?_
      obtain ⟨e2, hl2, he1⟩ := inv_bind he1
      refine jn [5, 6, 7, 8, 4] 9 (T.loop (s0 := ((((((s3.1 ++ (([(u8 (IntKind.u8.wrap ((((a0.2.2.1.getD (s3.2 : Int).toNat default)).1))))] : List UInt8)))) ++ r2)) ++ (([(u8 (IntKind.u8.wrap ((((((a0.2.2.1.getD (s3.2 : Int).toNat default)).2.2)).length : Int))))] : List UInt8))), 0)) (env := fun s5 x8 => [(2, .pointer (some ⟨b2, 0, none⟩)), (3, .pointer (some ⟨b3, 0, none⟩)), (24, .slice A0a a0.2.2.1.length c0a), (25, .int .i64 ((a0.2.2.1.length : Int))), (26, .int .i64 s3.2), (48, .slice x6.2.2.1 (((((a0.2.2.1.getD (s3.2 : Int).toNat default)).2.2)).length) x6.2.2.2), (49, .int .i64 ((((((a0.2.2.1.getD (s3.2 : Int).toNat default)).2.2)).length : Int))), (50, .int .i64 s5.2)]) (hs := fun (s5 : ty1) (x8 : ty3) => Cl b2 26 [.slice x8.1 s5.1.length x8.2] :: Bf E8 5 x8.1 x8.2 s5.1 :: Cl b3 22 [.int .i64 0] :: Ro el20 A0a c0a a0.2.2.1 :: Ro el17 x6.2.2.1 x6.2.2.2 ((((a0.2.2.1.getD (s3.2 : Int).toNat default)).2.2)) :: hs) hl2 (A4, c4) (fun K2 s5 x8 o2 he2 hm2 hx2 => ?_))
      unfold entry_Encode.st2 at he2
      refine sq ?_
      refine A.cd he2 rfl (fun hb3 he2 => ?_) (fun hb3 he2 => ?_)
      ·refine sq ?_
       obtain ⟨hc5, he2⟩ := inv_chk he2
       refine T.idxRo .list 4 rfl rfl (wants0 rfl) rfl rfl rfl hc5.1 hc5.2 (Nat.le_refl _) ?_
       refine T.ldFRo 4 .list Fd.self (Sh.pair Sh.sc (Sh.pair Sh.sc (Sh.pair (Sh.pair Sh.sc (Sh.pair Sh.slice Sh.slice)) (Sh.pair Sh.slice (Sh.pair (Sh.pair Sh.sc (Sh.pair Sh.sc Sh.sc)) (Sh.pair Sh.sc (Sh.pair (Sh.pair Sh.sc (Sh.pair Sh.sc Sh.sc)) (Sh.pair (Sh.pair Sh.sc (Sh.pair Sh.sc Sh.sc)) Sh.sc)))))))) rfl (.inl rfl) rfl rfl hc5.1 hc5.2 rfl (wants0 rfl) rfl rfl rfl (v := fun x9 => .agg #[.int .i64 ((((((((a0.2.2.1.getD (s3.2 : Int).toNat default)).2.2)).getD (s5.2 : Int).toNat default)).1)), str ((((((((a0.2.2.1.getD (s3.2 : Int).toNat default)).2.2)).getD (s5.2 : Int).toNat default)).2.1)), str (((((((((a0.2.2.1.getD (s3.2 : Int).toNat default)).2.2)).getD (s5.2 : Int).toNat default)).2.2.1).1)), .slice x9.2.2.1.2.1.1 ((((((((((a0.2.2.1.getD (s3.2 : Int).toNat default)).2.2)).getD (s5.2 : Int).toNat default)).2.2.1).2.1)).length) x9.2.2.1.2.1.2, .slice x9.2.2.1.2.2.1 ((((((((((a0.2.2.1.getD (s3.2 : Int).toNat default)).2.2)).getD (s5.2 : Int).toNat default)).2.2.1).2.2)).length) x9.2.2.1.2.2.2, .slice x9.2.2.2.1.1 (((((((((a0.2.2.1.getD (s3.2 : Int).toNat default)).2.2)).getD (s5.2 : Int).toNat default)).2.2.2.1)).length) x9.2.2.2.1.2, .int .i64 (((((((((a0.2.2.1.getD (s3.2 : Int).toNat default)).2.2)).getD (s5.2 : Int).toNat default)).2.2.2.2.1).1)), .int .i64 (((((((((a0.2.2.1.getD (s3.2 : Int).toNat default)).2.2)).getD (s5.2 : Int).toNat default)).2.2.2.2.1).2.1)), str (((((((((a0.2.2.1.getD (s3.2 : Int).toNat default)).2.2)).getD (s5.2 : Int).toNat default)).2.2.2.2.1).2.2)), .int .i64 ((((((((a0.2.2.1.getD (s3.2 : Int).toNat default)).2.2)).getD (s5.2 : Int).toNat default)).2.2.2.2.2.1)), .int .i64 (((((((((a0.2.2.1.getD (s3.2 : Int).toNat default)).2.2)).getD (s5.2 : Int).toNat default)).2.2.2.2.2.2.1).1)), .int .i64 (((((((((a0.2.2.1.getD (s3.2 : Int).toNat default)).2.2)).getD (s5.2 : Int).toNat default)).2.2.2.2.2.2.1).2.1)), str (((((((((a0.2.2.1.getD (s3.2 : Int).toNat default)).2.2)).getD (s5.2 : Int).toNat default)).2.2.2.2.2.2.1).2.2)), .int .i64 (((((((((a0.2.2.1.getD (s3.2 : Int).toNat default)).2.2)).getD (s5.2 : Int).toNat default)).2.2.2.2.2.2.2.1).1)), .int .i64 (((((((((a0.2.2.1.getD (s3.2 : Int).toNat default)).2.2)).getD (s5.2 : Int).toNat default)).2.2.2.2.2.2.2.1).2.1)), str (((((((((a0.2.2.1.getD (s3.2 : Int).toNat default)).2.2)).getD (s5.2 : Int).toNat default)).2.2.2.2.2.2.2.1).2.2)), .int .i64 ((((((((a0.2.2.1.getD (s3.2 : Int).toNat default)).2.2)).getD (s5.2 : Int).toNat default)).2.2.2.2.2.2.2.2))]) (hs' := fun x9 => Ro el9 x9.2.2.1.2.1.1 x9.2.2.1.2.1.2 (((((((((a0.2.2.1.getD (s3.2 : Int).toNat default)).2.2)).getD (s5.2 : Int).toNat default)).2.2.1).2.1)) :: Ro el11 x9.2.2.1.2.2.1 x9.2.2.1.2.2.2 (((((((((a0.2.2.1.getD (s3.2 : Int).toNat default)).2.2)).getD (s5.2 : Int).toNat default)).2.2.1).2.2)) :: Ro el2 x9.2.2.2.1.1 x9.2.2.2.1.2 ((((((((a0.2.2.1.getD (s3.2 : Int).toNat default)).2.2)).getD (s5.2 : Int).toNat default)).2.2.2.1)) :: Cl b2 26 [.slice x8.1 s5.1.length x8.2] :: Bf E8 5 x8.1 x8.2 s5.1 :: Cl b3 22 [.int .i64 0] :: Ro el20 A0a c0a a0.2.2.1 :: Ro el17 x6.2.2.1 x6.2.2.2 ((((a0.2.2.1.getD (s3.2 : Int).toNat default)).2.2)) :: hs) (fun _ => rfl) (fun _ => rfl) (fun x9 => ?_)
       refine A.al rfl (fun b7 => ?_)
       refine st ?_
       refine T.dStart mixed ?_
       refine T.dAdd 4 (fun w => w.heap[b2]? = some (.cells [.slice x8.1 s5.1.length x8.2].toArray 26 (0, 0))) (Cl.stays 4 rfl) ?_
       refine D.ld 0 0 (.slice x8.1 s5.1.length x8.2) ?_
       refine T.dAdd 5 (fun w => w.heap[b7]? = some (.cells [.int .i64 ((((((((a0.2.2.1.getD (s3.2 : Int).toNat default)).2.2)).getD (s5.2 : Int).toNat default)).1)), str ((((((((a0.2.2.1.getD (s3.2 : Int).toNat default)).2.2)).getD (s5.2 : Int).toNat default)).2.1)), str (((((((((a0.2.2.1.getD (s3.2 : Int).toNat default)).2.2)).getD (s5.2 : Int).toNat default)).2.2.1).1)), .slice x9.2.2.1.2.1.1 ((((((((((a0.2.2.1.getD (s3.2 : Int).toNat default)).2.2)).getD (s5.2 : Int).toNat default)).2.2.1).2.1)).length) x9.2.2.1.2.1.2, .slice x9.2.2.1.2.2.1 ((((((((((a0.2.2.1.getD (s3.2 : Int).toNat default)).2.2)).getD (s5.2 : Int).toNat default)).2.2.1).2.2)).length) x9.2.2.1.2.2.2, .slice x9.2.2.2.1.1 (((((((((a0.2.2.1.getD (s3.2 : Int).toNat default)).2.2)).getD (s5.2 : Int).toNat default)).2.2.2.1)).length) x9.2.2.2.1.2, .int .i64 (((((((((a0.2.2.1.getD (s3.2 : Int).toNat default)).2.2)).getD (s5.2 : Int).toNat default)).2.2.2.2.1).1)), .int .i64 (((((((((a0.2.2.1.getD (s3.2 : Int).toNat default)).2.2)).getD (s5.2 : Int).toNat default)).2.2.2.2.1).2.1)), str (((((((((a0.2.2.1.getD (s3.2 : Int).toNat default)).2.2)).getD (s5.2 : Int).toNat default)).2.2.2.2.1).2.2)), .int .i64 ((((((((a0.2.2.1.getD (s3.2 : Int).toNat default)).2.2)).getD (s5.2 : Int).toNat default)).2.2.2.2.2.1)), .int .i64 (((((((((a0.2.2.1.getD (s3.2 : Int).toNat default)).2.2)).getD (s5.2 : Int).toNat default)).2.2.2.2.2.2.1).1)), .int .i64 (((((((((a0.2.2.1.getD (s3.2 : Int).toNat default)).2.2)).getD (s5.2 : Int).toNat default)).2.2.2.2.2.2.1).2.1)), str (((((((((a0.2.2.1.getD (s3.2 : Int).toNat default)).2.2)).getD (s5.2 : Int).toNat default)).2.2.2.2.2.2.1).2.2)), .int .i64 (((((((((a0.2.2.1.getD (s3.2 : Int).toNat default)).2.2)).getD (s5.2 : Int).toNat default)).2.2.2.2.2.2.2.1).1)), .int .i64 (((((((((a0.2.2.1.getD (s3.2 : Int).toNat default)).2.2)).getD (s5.2 : Int).toNat default)).2.2.2.2.2.2.2.1).2.1)), str (((((((((a0.2.2.1.getD (s3.2 : Int).toNat default)).2.2)).getD (s5.2 : Int).toNat default)).2.2.2.2.2.2.2.1).2.2)), .int .i64 ((((((((a0.2.2.1.getD (s3.2 : Int).toNat default)).2.2)).getD (s5.2 : Int).toNat default)).2.2.2.2.2.2.2.2))].toArray 66 (0, 0))) (Cl.stays 0 rfl) ?_
       refine T.valS 0 (i := 1) (.agg #[.int .i64 ((((((((a0.2.2.1.getD (s3.2 : Int).toNat default)).2.2)).getD (s5.2 : Int).toNat default)).1)), str ((((((((a0.2.2.1.getD (s3.2 : Int).toNat default)).2.2)).getD (s5.2 : Int).toNat default)).2.1)), str (((((((((a0.2.2.1.getD (s3.2 : Int).toNat default)).2.2)).getD (s5.2 : Int).toNat default)).2.2.1).1)), .slice x9.2.2.1.2.1.1 ((((((((((a0.2.2.1.getD (s3.2 : Int).toNat default)).2.2)).getD (s5.2 : Int).toNat default)).2.2.1).2.1)).length) x9.2.2.1.2.1.2, .slice x9.2.2.1.2.2.1 ((((((((((a0.2.2.1.getD (s3.2 : Int).toNat default)).2.2)).getD (s5.2 : Int).toNat default)).2.2.1).2.2)).length) x9.2.2.1.2.2.2, .slice x9.2.2.2.1.1 (((((((((a0.2.2.1.getD (s3.2 : Int).toNat default)).2.2)).getD (s5.2 : Int).toNat default)).2.2.2.1)).length) x9.2.2.2.1.2, .int .i64 (((((((((a0.2.2.1.getD (s3.2 : Int).toNat default)).2.2)).getD (s5.2 : Int).toNat default)).2.2.2.2.1).1)), .int .i64 (((((((((a0.2.2.1.getD (s3.2 : Int).toNat default)).2.2)).getD (s5.2 : Int).toNat default)).2.2.2.2.1).2.1)), str (((((((((a0.2.2.1.getD (s3.2 : Int).toNat default)).2.2)).getD (s5.2 : Int).toNat default)).2.2.2.2.1).2.2)), .int .i64 ((((((((a0.2.2.1.getD (s3.2 : Int).toNat default)).2.2)).getD (s5.2 : Int).toNat default)).2.2.2.2.2.1)), .int .i64 (((((((((a0.2.2.1.getD (s3.2 : Int).toNat default)).2.2)).getD (s5.2 : Int).toNat default)).2.2.2.2.2.2.1).1)), .int .i64 (((((((((a0.2.2.1.getD (s3.2 : Int).toNat default)).2.2)).getD (s5.2 : Int).toNat default)).2.2.2.2.2.2.1).2.1)), str (((((((((a0.2.2.1.getD (s3.2 : Int).toNat default)).2.2)).getD (s5.2 : Int).toNat default)).2.2.2.2.2.2.1).2.2)), .int .i64 (((((((((a0.2.2.1.getD (s3.2 : Int).toNat default)).2.2)).getD (s5.2 : Int).toNat default)).2.2.2.2.2.2.2.1).1)), .int .i64 (((((((((a0.2.2.1.getD (s3.2 : Int).toNat default)).2.2)).getD (s5.2 : Int).toNat default)).2.2.2.2.2.2.2.1).2.1)), str (((((((((a0.2.2.1.getD (s3.2 : Int).toNat default)).2.2)).getD (s5.2 : Int).toNat default)).2.2.2.2.2.2.2.1).2.2)), .int .i64 ((((((((a0.2.2.1.getD (s3.2 : Int).toNat default)).2.2)).getD (s5.2 : Int).toNat default)).2.2.2.2.2.2.2.2))]) rfl rfl (by kernel_rfl) (by kernel_rfl) (fun d _ _ _ _ h => by cases d <;> exact h) (wants0 rfl) rfl (run_ldClN rfl rfl (vs := [.int .i64 ((((((((a0.2.2.1.getD (s3.2 : Int).toNat default)).2.2)).getD (s5.2 : Int).toNat default)).1)), str ((((((((a0.2.2.1.getD (s3.2 : Int).toNat default)).2.2)).getD (s5.2 : Int).toNat default)).2.1)), str (((((((((a0.2.2.1.getD (s3.2 : Int).toNat default)).2.2)).getD (s5.2 : Int).toNat default)).2.2.1).1)), .slice x9.2.2.1.2.1.1 ((((((((((a0.2.2.1.getD (s3.2 : Int).toNat default)).2.2)).getD (s5.2 : Int).toNat default)).2.2.1).2.1)).length) x9.2.2.1.2.1.2, .slice x9.2.2.1.2.2.1 ((((((((((a0.2.2.1.getD (s3.2 : Int).toNat default)).2.2)).getD (s5.2 : Int).toNat default)).2.2.1).2.2)).length) x9.2.2.1.2.2.2, .slice x9.2.2.2.1.1 (((((((((a0.2.2.1.getD (s3.2 : Int).toNat default)).2.2)).getD (s5.2 : Int).toNat default)).2.2.2.1)).length) x9.2.2.2.1.2, .int .i64 (((((((((a0.2.2.1.getD (s3.2 : Int).toNat default)).2.2)).getD (s5.2 : Int).toNat default)).2.2.2.2.1).1)), .int .i64 (((((((((a0.2.2.1.getD (s3.2 : Int).toNat default)).2.2)).getD (s5.2 : Int).toNat default)).2.2.2.2.1).2.1)), str (((((((((a0.2.2.1.getD (s3.2 : Int).toNat default)).2.2)).getD (s5.2 : Int).toNat default)).2.2.2.2.1).2.2)), .int .i64 ((((((((a0.2.2.1.getD (s3.2 : Int).toNat default)).2.2)).getD (s5.2 : Int).toNat default)).2.2.2.2.2.1)), .int .i64 (((((((((a0.2.2.1.getD (s3.2 : Int).toNat default)).2.2)).getD (s5.2 : Int).toNat default)).2.2.2.2.2.2.1).1)), .int .i64 (((((((((a0.2.2.1.getD (s3.2 : Int).toNat default)).2.2)).getD (s5.2 : Int).toNat default)).2.2.2.2.2.2.1).2.1)), str (((((((((a0.2.2.1.getD (s3.2 : Int).toNat default)).2.2)).getD (s5.2 : Int).toNat default)).2.2.2.2.2.2.1).2.2)), .int .i64 (((((((((a0.2.2.1.getD (s3.2 : Int).toNat default)).2.2)).getD (s5.2 : Int).toNat default)).2.2.2.2.2.2.2.1).1)), .int .i64 (((((((((a0.2.2.1.getD (s3.2 : Int).toNat default)).2.2)).getD (s5.2 : Int).toNat default)).2.2.2.2.2.2.2.1).2.1)), str (((((((((a0.2.2.1.getD (s3.2 : Int).toNat default)).2.2)).getD (s5.2 : Int).toNat default)).2.2.2.2.2.2.2.1).2.2)), .int .i64 ((((((((a0.2.2.1.getD (s3.2 : Int).toNat default)).2.2)).getD (s5.2 : Int).toNat default)).2.2.2.2.2.2.2.2))]) rfl rfl) ?_
       obtain ⟨r3, hg3, he2⟩ := inv_bind he2
       refine D.on 2 ?_
       refine D.c1 rfl (by kernel_rfl) rfl rfl Tryd.func29 rfl (fun w hS => entry_op.c hB hS (i0a := 1) (i0b := 2) (i0c := 3) (a0 := ((((((((a0.2.2.1.getD (s3.2 : Int).toNat default)).2.2)).getD (s5.2 : Int).toNat default)).1), (((((((a0.2.2.1.getD (s3.2 : Int).toNat default)).2.2)).getD (s5.2 : Int).toNat default)).2.1), (((((((((a0.2.2.1.getD (s3.2 : Int).toNat default)).2.2)).getD (s5.2 : Int).toNat default)).2.2.1).1), ((((((((a0.2.2.1.getD (s3.2 : Int).toNat default)).2.2)).getD (s5.2 : Int).toNat default)).2.2.1).2.1), ((((((((a0.2.2.1.getD (s3.2 : Int).toNat default)).2.2)).getD (s5.2 : Int).toNat default)).2.2.1).2.2)), (((((((a0.2.2.1.getD (s3.2 : Int).toNat default)).2.2)).getD (s5.2 : Int).toNat default)).2.2.2.1), (((((((((a0.2.2.1.getD (s3.2 : Int).toNat default)).2.2)).getD (s5.2 : Int).toNat default)).2.2.2.2.1).1), ((((((((a0.2.2.1.getD (s3.2 : Int).toNat default)).2.2)).getD (s5.2 : Int).toNat default)).2.2.2.2.1).2.1), ((((((((a0.2.2.1.getD (s3.2 : Int).toNat default)).2.2)).getD (s5.2 : Int).toNat default)).2.2.2.2.1).2.2)), (((((((a0.2.2.1.getD (s3.2 : Int).toNat default)).2.2)).getD (s5.2 : Int).toNat default)).2.2.2.2.2.1), (((((((((a0.2.2.1.getD (s3.2 : Int).toNat default)).2.2)).getD (s5.2 : Int).toNat default)).2.2.2.2.2.2.1).1), ((((((((a0.2.2.1.getD (s3.2 : Int).toNat default)).2.2)).getD (s5.2 : Int).toNat default)).2.2.2.2.2.2.1).2.1), ((((((((a0.2.2.1.getD (s3.2 : Int).toNat default)).2.2)).getD (s5.2 : Int).toNat default)).2.2.2.2.2.2.1).2.2)), (((((((((a0.2.2.1.getD (s3.2 : Int).toNat default)).2.2)).getD (s5.2 : Int).toNat default)).2.2.2.2.2.2.2.1).1), ((((((((a0.2.2.1.getD (s3.2 : Int).toNat default)).2.2)).getD (s5.2 : Int).toNat default)).2.2.2.2.2.2.2.1).2.1), ((((((((a0.2.2.1.getD (s3.2 : Int).toNat default)).2.2)).getD (s5.2 : Int).toNat default)).2.2.2.2.2.2.2.1).2.2)), (((((((a0.2.2.1.getD (s3.2 : Int).toNat default)).2.2)).getD (s5.2 : Int).toNat default)).2.2.2.2.2.2.2.2))) rfl rfl rfl hg3) (fun x10 => ?_)
       refine T.dNext (phi_cons (.inr (Cl.stays 1 rfl)) (phi_cons (.inr (Cl.stays 5 rfl)) phi_nil)) ?_
       obtain ⟨hc6, he2⟩ := inv_chk he2
       refine D.on 3 ?_
       refine T.appBf (.dOne rfl (by kernel_rfl)) 6 0 rfl rfl rfl rfl rfl (wants0 rfl) rfl rfl rfl rfl rfl rfl hc6 (fun _ _ => rfl) (fun A5 c5 => ?_)
       refine T.dNext (phi_cons (.inr (Cl.stays 1 rfl)) (phi_cons (.inr (Cl.stays 5 rfl)) phi_nil)) ?_
       refine D.on 4 ?_
       refine T.store (.dOne rfl (by kernel_rfl)) 5 rfl rfl (wants0 rfl) rfl rfl rfl rfl (Nat.le_of_ble_eq_true rfl) rfl (cs' := [.slice A5 (((s5.1 ++ r3)).length) c5]) rfl rfl ?_
       refine T.dNext (phi_cons (.inr (Cl.stays 1 rfl)) (phi_cons (.inl (by kernel_rfl)) phi_nil)) ?_
       refine T.dDone (by kernel_rfl) ?_
       refine sx ?_
       refine T.region ?_
       refine sx ?_
       obtain rfl := inv_some he2
       exact jn [5, 6, 7, 8, 9] 10 (hm2 ((s5.1 ++ r3), IntKind.i64.wrap (s5.2 + 1)) rfl (A5, c5))
      ·refine T.exit ?_
       refine sx ?_
       obtain rfl := inv_some he2
       obtain rfl := hx2 _ rfl
       refine sx ?_
       exact jn [0, 1, 2, 3] 5 (J3 s5.1 (x8.1, x8.2) he1)
    ·refine T.exit ?_
     refine sx ?_
     obtain rfl := inv_some he1
     obtain rfl := hx1 _ rfl
     refine sx ?_
     exact jn [0, 1, 2] 4 (J2 s3.1 (x4.1, x4.2) hk1)
  ·refine T.dStart mixed ?_
   refine D.fi 0 ?_
   refine D.fi 3 ?_
   refine D.fi 7 ?_
   refine T.dAdd 12 (fun w => w.heap[b1]? = some (.cells [.int .i64 a0.1, .int .i64 a0.2.1, .slice A0a a0.2.2.1.length c0a, .int .i64 a0.2.2.2].toArray 36 (0, 0))) (Cl.stays 2 rfl) ?_
   refine D.ld 0 1 (.int .i64 a0.1) ?_
   refine T.conv (.dPure (i := 2) rfl (by kernel_rfl) (fun d _ _ _ _ h => by cases d <;> exact h)) rfl (wants0 rfl) rfl rfl rfl ?_
   refine D.ld 0 4 (.int .i64 a0.2.1) ?_
   refine T.conv (.dPure (i := 5) rfl (by kernel_rfl) (fun d _ _ _ _ h => by cases d <;> exact h)) rfl (wants0 rfl) rfl rfl rfl ?_
   refine D.ld 0 8 (.int .i64 a0.2.2.2) ?_
   obtain ⟨r4, hg4, hr⟩ := inv_bind hr
   obtain ⟨hc7, hr⟩ := inv_chk hr
   refine T.d2 (i := 6) (j := 9) (by kernel_rfl) ?_ ?_ 
   ·refine T.lit (E := E8) (.dOne rfl (by kernel_rfl)) (vals := [(0, .int .u8 (IntKind.u8.wrap a0.1)), (1, .int .u8 (IntKind.u8.wrap a0.2.1))]) (cells := #[.int .u8 (IntKind.u8.wrap a0.1), .int .u8 (IntKind.u8.wrap a0.2.1)]) rfl (wants0 rfl) rfl rfl rfl rfl rfl (by kernel_rfl) ([(u8 (IntKind.u8.wrap a0.1)), (u8 (IntKind.u8.wrap a0.2.1))] : List UInt8) rfl (fun _ _ _ _ _ => (Encs.c1 (enc := b8) (h1 := fun _ => rfl) (b8_wrap _) (Encs.c1 (enc := b8) (h1 := fun _ => rfl) (b8_wrap _) rfl))) (fun b8 => ?_)
    refine T.dNext (phi_cons (.inr (Cl.stays 3 rfl)) phi_nil) ?_
    refine D.on 9 ?_
    refine D.c1 rfl (by kernel_rfl) rfl rfl Tryd.func18 rfl (fun w hS => wire_Uint.c hB hS  hg4) (fun x11 => ?_)
    refine T.dNext (phi_cons (.inr (Cl.stays 4 rfl)) phi_nil) ?_
    refine D.on 10 ?_
    refine T.appBf (.dOne rfl (by kernel_rfl)) 1 0 rfl rfl rfl rfl rfl (wants0 rfl) rfl rfl rfl rfl rfl rfl hc7 (fun _ _ => rfl) (fun A6 c6 => ?_)
    refine T.dNext (phi_cons (.inr (Cl.stays 4 rfl)) phi_nil) ?_
    refine D.on 11 ?_
    refine T.store (.dOne rfl (by kernel_rfl)) 3 rfl rfl (wants0 rfl) rfl rfl rfl rfl (Nat.le_of_ble_eq_true rfl) rfl (cs' := [.slice A6 ((((([(u8 (IntKind.u8.wrap a0.1)), (u8 (IntKind.u8.wrap a0.2.1))] : List UInt8)) ++ r4)).length) c6]) rfl rfl ?_
    refine T.dNext (phi_cons (.inr (Cl.stays 4 rfl)) phi_nil) ?_
    refine T.dDone (by kernel_rfl) ?_
    refine sx ?_
    exact jn [4, 5, 3, 1, 2] 6 (J1 ((([(u8 (IntKind.u8.wrap a0.1)), (u8 (IntKind.u8.wrap a0.2.1))] : List UInt8)) ++ r4) (A6, c6) hr)
   ·refine D.c1 rfl (by kernel_rfl) rfl rfl Tryd.func18 rfl (fun w hS => wire_Uint.c hB hS  hg4) (fun x11 => ?_)
    refine T.dNext (phi_cons (.inr (Cl.stays 3 rfl)) phi_nil) ?_
    refine D.on 6 ?_
    refine T.lit (E := E8) (.dOne rfl (by kernel_rfl)) (vals := [(0, .int .u8 (IntKind.u8.wrap a0.1)), (1, .int .u8 (IntKind.u8.wrap a0.2.1))]) (cells := #[.int .u8 (IntKind.u8.wrap a0.1), .int .u8 (IntKind.u8.wrap a0.2.1)]) rfl (wants0 rfl) rfl rfl rfl rfl rfl (by kernel_rfl) ([(u8 (IntKind.u8.wrap a0.1)), (u8 (IntKind.u8.wrap a0.2.1))] : List UInt8) rfl (fun _ _ _ _ _ => (Encs.c1 (enc := b8) (h1 := fun _ => rfl) (b8_wrap _) (Encs.c1 (enc := b8) (h1 := fun _ => rfl) (b8_wrap _) rfl))) (fun b8 => ?_)
    refine T.dNext (phi_cons (.inr (Cl.stays 4 rfl)) phi_nil) ?_
    refine D.on 10 ?_
    refine T.appBf (.dOne rfl (by kernel_rfl)) 0 1 rfl rfl rfl rfl rfl (wants0 rfl) rfl rfl rfl rfl rfl rfl hc7 (fun _ _ => rfl) (fun A6 c6 => ?_)
    refine T.dNext (phi_cons (.inr (Cl.stays 4 rfl)) phi_nil) ?_
    refine D.on 11 ?_
    refine T.store (.dOne rfl (by kernel_rfl)) 3 rfl rfl (wants0 rfl) rfl rfl rfl rfl (Nat.le_of_ble_eq_true rfl) rfl (cs' := [.slice A6 ((((([(u8 (IntKind.u8.wrap a0.1)), (u8 (IntKind.u8.wrap a0.2.1))] : List UInt8)) ++ r4)).length) c6]) rfl rfl ?_
    refine T.dNext (phi_cons (.inr (Cl.stays 4 rfl)) phi_nil) ?_
    refine T.dDone (by kernel_rfl) ?_
    refine sx ?_
    exact jn [4, 5, 3, 0, 2] 6 (J1 ((([(u8 (IntKind.u8.wrap a0.1)), (u8 (IntKind.u8.wrap a0.2.1))] : List UInt8)) ++ r4) (A6, c6) hr)
end Go.Proofs.YtpogdeibkghhaaaDoor
