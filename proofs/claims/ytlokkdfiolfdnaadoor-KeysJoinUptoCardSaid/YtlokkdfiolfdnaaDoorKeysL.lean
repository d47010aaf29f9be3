/- KeysL: what the functions compute, and that the program computes it; printed by a program of ours. -/
import Derived.Test.YtlokkdfiolfdnaaDoorRef
set_option linter.unusedVariables false
set_option linter.unusedSimpArgs false
namespace Go.Proofs.YtlokkdfiolfdnaaDoor
open Go.RowKit
noncomputable def law2_few.impl (l0 : List (Int × Int × (List UInt8))) (a1 : Int) : Option ((Int × (List (Int × Int × (List UInt8))))) :=
  chk (0 ≤ (min ((l0.length : Int)) a1) ∧ (min ((l0.length : Int)) a1) ≤ (l0.length : Int)) (chk (((([] : List (Int × Int × (List UInt8)))).length + (subl l0 0 (min ((l0.length : Int)) a1)).length) * 32 ≤ 140737488355328) (chk (((((([] : List (Int × Int × (List UInt8)))) ++ (subl l0 0 (min ((l0.length : Int)) a1)))).length + (([(-7, 0, ([] : List UInt8))] : List (Int × Int × (List UInt8)))).length) * 32 ≤ 140737488355328) (chk (0 ≤ (min ((l0.length : Int)) a1) ∧ (min ((l0.length : Int)) a1) ≤ ((((((([] : List (Int × Int × (List UInt8)))) ++ (subl l0 0 (min ((l0.length : Int)) a1)))) ++ (([(-7, 0, ([] : List UInt8))] : List (Int × Int × (List UInt8)))))).length : Int)) (some (min ((l0.length : Int)) a1, ((((([] : List (Int × Int × (List UInt8)))) ++ (subl l0 0 (min ((l0.length : Int)) a1)))) ++ (([(-7, 0, ([] : List UInt8))] : List (Int × Int × (List UInt8))))))))))
set_option maxRecDepth 100000 in
set_option maxHeartbeats 1000000 in
theorem law2_few.c {B : World} {hs : List MP} {w : World} {i0 c0 : Nat} {A0 : Option Addr} {l0 : List (Int × Int × (List UInt8))} {a1 : Int} (hB : Base B) (hS : St B (hs) w) (h0 : (hs)[i0]? = some (Ro (Elt.pair E64 (Elt.pair E64 EStr)) A0 c0 l0)) {r : (Int × (List (Int × Int × (List UInt8))))} (hr : law2_few.impl l0 a1 = some r) :
    Calls Tryd.prog 15 #[.slice A0 l0.length c0, .int .i64 a1] w fun e w' => ∃ x : (Option Addr × Nat), e = .returned (.slice x.1 (subl r.2 0 r.1).length x.2) ∧ St B (Bf (Elt.pair E64 (Elt.pair E64 EStr)) 23 x.1 x.2 r.2 :: hs) w' := by
  unfold law2_few.impl at hr
  refine calls_T Tryd.func15 rfl rfl rfl hS ?_
  refine T.front i0 h0 ?_
  refine T.seq ?_
  refine T.region ?_
  refine T.assign .list rfl (wants0 rfl) rfl rfl ?_
  refine T.nil ?_
  refine T.then_normal ?_
  refine T.seq ?_
  refine T.region ?_
  refine T.move .list rfl (wants0 rfl) rfl rfl ?_
  refine T.lenSlice .list rfl (wants0 rfl) rfl rfl ?_
  refine T.move .list rfl (wants0 rfl) rfl rfl ?_
  refine T.min2 .list rfl (wants0 rfl) rfl rfl rfl ?_
  refine T.assign .list rfl (wants0 rfl) rfl rfl ?_
  refine T.nil ?_
  refine T.then_normal ?_
  refine T.seq ?_
  refine T.region ?_
  refine T.assign .list rfl (wants0 rfl) rfl rfl ?_
  refine T.nil ?_
  refine T.then_normal ?_
  refine T.seq ?_
  refine T.region ?_
  refine T.move .list rfl (wants0 rfl) rfl rfl ?_
  refine T.move .list rfl (wants0 rfl) rfl rfl ?_
  refine T.move .list rfl (wants0 rfl) rfl rfl ?_
  obtain ⟨hc1, hr⟩ := inv_chk hr
  refine T.cut0 .list 0 rfl rfl rfl (wants0 rfl) rfl rfl (.inl rfl) (.inr ⟨_, _, rfl, rfl⟩) hc1.1 hc1.2 ?_
  refine T.nilBf (Elt.pair E64 (Elt.pair E64 EStr)) 23 ?_
  obtain ⟨hc2, hr⟩ := inv_chk hr
  refine T.appRo .list 0 1 rfl rfl rfl rfl rfl (wants0 rfl) rfl rfl rfl rfl rfl rfl hc2 (fun _ _ => rfl) (fun A3 c3 => ?_)
  refine T.assign .list rfl (wants0 rfl) rfl rfl ?_
  refine T.nil ?_
  refine T.then_normal ?_
  refine T.seq ?_
  refine T.region ?_
  refine T.move .list rfl (wants0 rfl) rfl rfl ?_
  refine T.build .list (vals := [(0, .int .i64 (-7))]) (cells := #[.int .i64 (-7), .int .i64 0, str (([] : List UInt8))]) rfl (wants0 rfl) rfl rfl (run_buildStruct (sizes := [1, 1, 1]) (by kernel_rfl) (by kernel_rfl)) ?_
  refine T.lit (E := Elt.pair E64 (Elt.pair E64 EStr)) .list (vals := [(0, .agg #[.int .i64 (-7), .int .i64 0, str (([] : List UInt8))])]) (cells := #[.int .i64 (-7), .int .i64 0, str (([] : List UInt8))]) rfl (wants0 rfl) rfl rfl rfl rfl rfl (by kernel_rfl) ([(-7, 0, ([] : List UInt8))] : List (Int × Int × (List UInt8))) rfl (fun _ _ _ _ ho => (Has.encs ho (Has.pair (Has.sc rfl) (Has.pair (Has.sc rfl) (Has.sc rfl) rfl) rfl) rfl rfl)) (fun b1 => ?_)
  obtain ⟨hc3, hr⟩ := inv_chk hr
  refine T.appBf .list 1 0 rfl rfl rfl rfl rfl (wants0 rfl) rfl rfl rfl rfl rfl rfl hc3 (fun _ _ => rfl) (fun A4 c4 => ?_)
  refine T.move .list rfl (wants0 rfl) rfl rfl ?_
  obtain ⟨hc4, hr⟩ := inv_chk hr
  refine T.cut0Bf .list 1 rfl rfl rfl (wants0 rfl) rfl rfl (.inl rfl) (.inr ⟨_, _, rfl, rfl⟩) hc4.1 hc4.2 ?_
  refine T.assign .list rfl (wants0 rfl) rfl rfl ?_
  refine T.nil ?_
  refine T.then_normal ?_
  refine T.ret ?_
  obtain rfl := inv_some hr
  refine T.pick [1] 4 rfl rfl (Nat.le_add_left _ _) rfl ?_
  refine T.ret1 rfl rfl (fun w hS => ⟨(A4, c4), rfl, hS⟩)

noncomputable def law2_right.k1 (s1 : (List (Int × Int × (List UInt8)))) : Option ((List (Int × Int × (List UInt8)))) :=
  some s1
noncomputable def law2_right.k3 (s2 : (List (Int × Int × (List UInt8))) × Int) (s4 : (List (Int × Int × (List UInt8)))) : Option (((List (Int × Int × (List UInt8))) × Int) ⊕ ((List (Int × Int × (List UInt8))))) :=
  some (.inl (s4, IntKind.i64.wrap (s2.2 + 1)))
noncomputable def law2_right.k2 (s2 : (List (Int × Int × (List UInt8))) × Int) (l0 : List (Int × Int × (List UInt8))) (s3 : Bool) : Option (((List (Int × Int × (List UInt8))) × Int) ⊕ ((List (Int × Int × (List UInt8))))) :=
  (if s3 = true then chk (0 ≤ s2.2 ∧ s2.2 < (l0.length : Int)) ((ref2_Right.impl (((l0).getD (s2.2 : Int).toNat default))).bind fun r1 => (if ((decide (r1 = 0))) = true then chk (0 ≤ s2.2 ∧ s2.2 < (l0.length : Int)) (chk ((s2.1.length + (([((l0).getD (s2.2 : Int).toNat default)] : List (Int × Int × (List UInt8)))).length) * 32 ≤ 140737488355328) (law2_right.k3 s2 (s2.1 ++ (([((l0).getD (s2.2 : Int).toNat default)] : List (Int × Int × (List UInt8))))))) else law2_right.k3 s2 s2.1)) else some (.inr s2.1))
noncomputable def law2_right.st1 (l0 : List (Int × Int × (List UInt8))) (s2 : (List (Int × Int × (List UInt8))) × Int) : Option (((List (Int × Int × (List UInt8))) × Int) ⊕ ((List (Int × Int × (List UInt8))))) :=
  (if ((decide (s2.2 < ((l0.length : Int))))) = true then law2_right.k2 s2 l0 (decide ((((s2.1.length : Int))) < 6)) else law2_right.k2 s2 l0 false)
noncomputable def law2_right.impl (l0 : List (Int × Int × (List UInt8))) : Option ((List (Int × Int × (List UInt8)))) :=
  (loop (law2_right.st1 l0) (([] : List (Int × Int × (List UInt8))), 0)).bind (fun e1 => law2_right.k1 e1)
set_option maxRecDepth 100000 in
set_option maxHeartbeats 1000000 in
theorem law2_right.c {B : World} {hs : List MP} {w : World} {i0 c0 : Nat} {A0 : Option Addr} {l0 : List (Int × Int × (List UInt8))} (hB : Base B) (hS : St B (hs) w) (h0 : (hs)[i0]? = some (Ro (Elt.pair E64 (Elt.pair E64 EStr)) A0 c0 l0)) {r : (List (Int × Int × (List UInt8)))} (hr : law2_right.impl l0 = some r) :
    Calls Tryd.prog 21 #[.slice A0 l0.length c0] w fun e w' => ∃ x : (Option Addr × Nat), e = .returned (.slice x.1 r.length x.2) ∧ St B (Bf (Elt.pair E64 (Elt.pair E64 EStr)) 23 x.1 x.2 r :: hs) w' := by
  unfold law2_right.impl at hr
  refine calls_T Tryd.func21 rfl rfl rfl hS ?_
  refine T.front i0 h0 ?_
  refine T.seq ?_
  refine T.region ?_
  refine T.assign .list rfl (wants0 rfl) rfl rfl ?_
  refine T.nil ?_
  refine T.then_normal ?_
  refine T.seq ?_
  refine T.region ?_
  refine T.assign .list rfl (wants0 rfl) rfl rfl ?_
  refine T.nil ?_
  refine T.then_normal ?_
  refine T.seqJ (fun (s1 : (List (Int × Int × (List UInt8)))) (x1 : (Option Addr × Nat)) => [(3, .slice x1.1 s1.length x1.2)]) (fun s1 x1 => Bf (Elt.pair E64 (Elt.pair E64 EStr)) 23 x1.1 x1.2 s1 :: hs) (fun s1 => law2_right.k1 s1 = some r) (fun s1 x1 hk1 => ?_) (fun J1 => ?_)
  · unfold law2_right.k1 at hk1
    refine T.seq ?_
    refine T.region ?_
    refine T.move .list rfl (wants0 rfl) rfl rfl ?_
    refine T.assign .list rfl (wants0 rfl) rfl rfl ?_
    refine T.nil ?_
    refine T.then_normal ?_
    refine T.ret ?_
    obtain rfl := inv_some hk1
    refine T.pick [0] 1 rfl rfl (Nat.le_add_left _ _) rfl ?_
    refine T.ret1 rfl rfl (fun w hS => ⟨(x1.1, x1.2), rfl, hS⟩)
  · refine T.seq ?_
    refine T.region ?_
    refine T.assign .list rfl (wants0 rfl) rfl rfl ?_
    refine T.nil ?_
    refine T.then_normal ?_
    refine T.block ?_
    obtain ⟨e1, hl1, hr⟩ := inv_bind hr
    refine T.nilBf (Elt.pair E64 (Elt.pair E64 EStr)) 23 ?_
    refine T.le (EnvLe.cons rfl (EnvLe.cons rfl (EnvLe.cons rfl EnvLe.nil))) (T.pick [1, 0] 2 rfl rfl (Nat.le_add_left _ _) rfl (T.loop (s0 := (([] : List (Int × Int × (List UInt8))), 0)) (env := fun s2 x2 => [(0, .slice A0 l0.length c0), (3, .slice x2.1 s2.1.length x2.2), (4, .int .i64 s2.2)]) (hs := fun (s2 : (List (Int × Int × (List UInt8))) × Int) (x2 : (Option Addr × Nat)) => Ro (Elt.pair E64 (Elt.pair E64 EStr)) A0 c0 l0 :: Bf (Elt.pair E64 (Elt.pair E64 EStr)) 23 x2.1 x2.2 s2.1 :: hs) hl1 (none, 0) (fun K1 s2 x2 o1 he1 hm1 hx1 => ?_)))
    unfold law2_right.st1 at he1
    refine T.seq ?_
    refine T.seqJ (fun (s3 : Bool) (x3 : Unit) => [(0, .slice A0 l0.length c0), (3, .slice x2.1 s2.1.length x2.2), (4, .int .i64 s2.2), (13, .bool s3)]) (fun s3 x3 => Ro (Elt.pair E64 (Elt.pair E64 EStr)) A0 c0 l0 :: Bf (Elt.pair E64 (Elt.pair E64 EStr)) 23 x2.1 x2.2 s2.1 :: hs) (fun s3 => law2_right.k2 s2 l0 s3 = some o1) (fun s3 x3 hk2 => ?_) (fun J2 => ?_)
    · unfold law2_right.k2 at hk2
      refine T.cond rfl (fun hb1 => ?_) (fun hb1 => ?_)
      · replace hk2 := inv_posB hb1 hk2
        refine T.skip ?_
        refine T.then_normal ?_
        refine T.seqJ (fun (s4 : (List (Int × Int × (List UInt8)))) (x4 : (Option Addr × Nat)) => [(0, .slice A0 l0.length c0), (3, .slice x4.1 s4.length x4.2), (4, .int .i64 s2.2)]) (fun s4 x4 => Ro (Elt.pair E64 (Elt.pair E64 EStr)) A0 c0 l0 :: Bf (Elt.pair E64 (Elt.pair E64 EStr)) 23 x4.1 x4.2 s4 :: hs) (fun s4 => law2_right.k3 s2 s4 = some o1) (fun s4 x4 hk3 => ?_) (fun J3 => ?_)
        · unfold law2_right.k3 at hk3
          refine T.region ?_
          refine T.move .list rfl (wants0 rfl) rfl rfl ?_
          refine T.bin .list rfl (wants0 rfl) rfl rfl rfl rfl ?_
          refine T.assign .list rfl (wants0 rfl) rfl rfl ?_
          refine T.nil ?_
          refine T.then_normal ?_
          obtain rfl := inv_some hk3
          exact T.le (EnvLe.cons rfl (EnvLe.cons rfl (EnvLe.cons rfl EnvLe.nil))) (T.pick [0, 1] 2 rfl rfl (Nat.le_add_left _ _) rfl (hm1 _ rfl (x4.1, x4.2)))
        · refine T.block ?_
          refine T.seq ?_
          refine T.region ?_
          refine T.move .list rfl (wants0 rfl) rfl rfl ?_
          refine T.move .list rfl (wants0 rfl) rfl rfl ?_
          obtain ⟨hc1, hk2⟩ := inv_chk hk2
          refine T.idxRo .list 0 rfl rfl (wants0 rfl) rfl rfl rfl hc1.1 hc1.2 (Nat.le_refl _) ?_
          refine T.ldFRo 0 .list Fd.self (Sh.pair Sh.sc (Sh.pair Sh.sc Sh.sc)) rfl (.inl rfl) rfl rfl hc1.1 hc1.2 rfl (wants0 rfl) rfl rfl rfl (v := fun x5 => .agg #[.int .i64 (((((l0).getD (s2.2 : Int).toNat default)).1)), .int .i64 (((((l0).getD (s2.2 : Int).toNat default)).2.1)), str (((((l0).getD (s2.2 : Int).toNat default)).2.2))]) (hs' := fun x5 => Ro (Elt.pair E64 (Elt.pair E64 EStr)) A0 c0 l0 :: Bf (Elt.pair E64 (Elt.pair E64 EStr)) 23 x2.1 x2.2 s2.1 :: hs) (fun _ => rfl) (fun _ => rfl) (fun x5 => ?_)
          obtain ⟨r1, hg1, hk2⟩ := inv_bind hk2
          refine T.call .list (wants0 rfl) rfl (run_callF (vs := [_]) rfl Tryd.func12 rfl (by decide) rfl) (fun w hS => ref2_Right.c hB hS  hg1) (fun x6 => ?_)
          refine T.bin .list rfl (wants0 rfl) rfl rfl rfl rfl ?_
          refine T.nil ?_
          refine T.then_normal ?_
          refine T.cond rfl (fun hb2 => ?_) (fun hb2 => ?_)
          · replace hk2 := inv_posB hb2 hk2
            refine T.region ?_
            refine T.move .list rfl (wants0 rfl) rfl rfl ?_
            refine T.move .list rfl (wants0 rfl) rfl rfl ?_
            refine T.move .list rfl (wants0 rfl) rfl rfl ?_
            obtain ⟨hc2, hk2⟩ := inv_chk hk2
            refine T.idxRo .list 0 rfl rfl (wants0 rfl) rfl rfl rfl hc2.1 hc2.2 (Nat.le_refl _) ?_
            refine T.ldFRo 0 .list Fd.self (Sh.pair Sh.sc (Sh.pair Sh.sc Sh.sc)) rfl (.inl rfl) rfl rfl hc2.1 hc2.2 rfl (wants0 rfl) rfl rfl rfl (v := fun x7 => .agg #[.int .i64 (((((l0).getD (s2.2 : Int).toNat default)).1)), .int .i64 (((((l0).getD (s2.2 : Int).toNat default)).2.1)), str (((((l0).getD (s2.2 : Int).toNat default)).2.2))]) (hs' := fun x7 => Ro (Elt.pair E64 (Elt.pair E64 EStr)) A0 c0 l0 :: Bf (Elt.pair E64 (Elt.pair E64 EStr)) 23 x2.1 x2.2 s2.1 :: hs) (fun _ => rfl) (fun _ => rfl) (fun x7 => ?_)
            refine T.lit (E := Elt.pair E64 (Elt.pair E64 EStr)) .list (vals := [(0, .agg #[.int .i64 (((((l0).getD (s2.2 : Int).toNat default)).1)), .int .i64 (((((l0).getD (s2.2 : Int).toNat default)).2.1)), str (((((l0).getD (s2.2 : Int).toNat default)).2.2))])]) (cells := #[.int .i64 (((((l0).getD (s2.2 : Int).toNat default)).1)), .int .i64 (((((l0).getD (s2.2 : Int).toNat default)).2.1)), str (((((l0).getD (s2.2 : Int).toNat default)).2.2))]) rfl (wants0 rfl) rfl rfl rfl rfl rfl (by kernel_rfl) ([((l0).getD (s2.2 : Int).toNat default)] : List (Int × Int × (List UInt8))) rfl (fun _ _ _ _ ho => (Has.encs ho (Has.pair (Has.sc rfl) (Has.pair (Has.sc rfl) (Has.sc rfl) rfl) rfl) rfl rfl)) (fun b1 => ?_)
            obtain ⟨hc3, hk2⟩ := inv_chk hk2
            refine T.appBf .list 2 0 rfl rfl rfl rfl rfl (wants0 rfl) rfl rfl rfl rfl rfl rfl hc3 (fun _ _ => rfl) (fun A2 c2 => ?_)
            refine T.assign .list rfl (wants0 rfl) rfl rfl ?_
            refine T.nil ?_
            refine T.in_normal ?_
            refine T.then_normal ?_
            exact T.le (EnvLe.cons rfl (EnvLe.cons rfl (EnvLe.cons rfl EnvLe.nil))) (T.pick [1, 2] 3 rfl rfl (Nat.le_add_left _ _) rfl (J3 (s2.1 ++ (([((l0).getD (s2.2 : Int).toNat default)] : List (Int × Int × (List UInt8))))) (A2, c2) hk2))
          · replace hk2 := inv_negB hb2 hk2
            refine T.skip ?_
            refine T.in_normal ?_
            refine T.then_normal ?_
            exact T.le (EnvLe.cons rfl (EnvLe.cons rfl (EnvLe.cons rfl EnvLe.nil))) (T.pick [0, 1] 2 rfl rfl (Nat.le_add_left _ _) rfl (J3 s2.1 (x2.1, x2.2) hk2))
      · replace hk2 := inv_negB hb1 hk2
        refine T.exit ?_
        refine T.then_exit ?_
        refine T.then_exit ?_
        obtain rfl := inv_some hk2
        obtain rfl := hx1 _ rfl
        refine T.in_hit ?_
        refine T.then_normal ?_
        exact T.le (EnvLe.cons rfl EnvLe.nil) (T.pick [1] 2 rfl rfl (Nat.le_add_left _ _) rfl (J1 s2.1 (x2.1, x2.2) hr))
    · refine T.region ?_
      refine T.move .list rfl (wants0 rfl) rfl rfl ?_
      refine T.move .list rfl (wants0 rfl) rfl rfl ?_
      refine T.lenSlice .list rfl (wants0 rfl) rfl rfl ?_
      refine T.bin .list rfl (wants0 rfl) rfl rfl rfl rfl ?_
      refine T.move .list rfl (wants0 rfl) rfl rfl ?_
      refine T.bool (b := (decide (s2.2 < ((l0.length : Int))))) (fun hb3 => ?_) (fun hb3 => ?_)
      · replace he1 := inv_posB hb3 he1
        refine T.move .list rfl (wants1 rfl rfl rfl hb3) rfl rfl ?_
        refine T.lenSlice .list rfl (wants1 rfl rfl rfl hb3) rfl rfl ?_
        refine T.bin .list rfl (wants1 rfl rfl rfl hb3) rfl rfl rfl rfl ?_
        refine T.pickT .list rfl (wants0 rfl) rfl rfl hb3 rfl ?_
        refine T.nil ?_
        refine T.then_normal ?_
        exact T.le (EnvLe.cons rfl (EnvLe.cons rfl (EnvLe.cons rfl (EnvLe.cons rfl EnvLe.nil)))) (T.pick [0, 1] 2 rfl rfl (Nat.le_add_left _ _) rfl (J2 (decide ((((s2.1.length : Int))) < 6)) () he1))
      · replace he1 := inv_negB hb3 he1
        refine T.leave .list (wantsNot rfl rfl rfl hb3) rfl ?_
        refine T.leave .list (wantsNot rfl rfl rfl hb3) rfl ?_
        refine T.leave .list (wantsNot rfl rfl rfl hb3) rfl ?_
        refine T.pickF .list rfl (wants0 rfl) rfl rfl hb3 rfl ?_
        refine T.nil ?_
        refine T.then_normal ?_
        exact T.le (EnvLe.cons rfl (EnvLe.cons rfl (EnvLe.cons rfl (EnvLe.cons rfl EnvLe.nil)))) (T.pick [0, 1] 2 rfl rfl (Nat.le_add_left _ _) rfl (J2 false () he1))

noncomputable def law2_told.impl  : Option Bool :=
  (keys_Key.impl (([(1, 1, ([] : List UInt8)), (2, 0, [97])] : List (Int × Int × (List UInt8))))).bind fun r1 => (keys_Read.impl (([(9 : UInt8)] : List UInt8))).bind fun r2 => (if ((decide (r1.2 = 0))) = true then (if ((decide (r1.1 = ([2, 128, 0, 0, 0, 0, 0, 0, 1, 3, 0, 0, 98, 0, 0, 0] : List UInt8)))) = true then (if ((decide (r2.2 = 11))) = true then (keys_Fold.impl ([195, 128, 206, 163, 208, 150, 120])).bind fun r3 => (if ((decide (r3 = ([195, 160, 207, 131, 208, 182, 120] : List UInt8)))) = true then (keys_Runes.impl ([195, 164, 120])).bind fun r4 => (if ((decide (r4 = 2))) = true then (keys_Compare.impl (([(3, 0, ([] : List UInt8))] : List (Int × Int × (List UInt8)))) (([(1, 9, ([] : List UInt8))] : List (Int × Int × (List UInt8))))).bind fun r5 => some (decide (r5 = 1)) else some false) else some false) else some false) else some false) else some false)
set_option maxRecDepth 100000 in
set_option maxHeartbeats 1000000 in
theorem law2_told.c {B : World} {hs : List MP} {w : World} (hB : Base B) (hS : St B (hs) w) {r : Bool} (hr : law2_told.impl  = some r) :
    Calls Tryd.prog 10 #[] w fun e w' => ∃ x : Unit, e = .returned (.bool r) ∧ St B (hs) w' := by
  unfold law2_told.impl at hr
  refine calls_T Tryd.func10 rfl rfl rfl hS ?_
  refine T.seq ?_
  refine T.region ?_
  refine T.assign .list rfl (wants0 rfl) rfl rfl ?_
  refine T.nil ?_
  refine T.then_normal ?_
  refine T.seq ?_
  refine T.region ?_
  refine T.build .list (vals := [(0, .int .i64 1), (1, .int .i64 1)]) (cells := #[.int .i64 1, .int .i64 1, str (([] : List UInt8))]) rfl (wants0 rfl) rfl rfl (run_buildStruct (sizes := [1, 1, 1]) (by kernel_rfl) (by kernel_rfl)) ?_
  refine T.build .list (vals := [(0, .int .i64 2), (2, str ([97]))]) (cells := #[.int .i64 2, .int .i64 0, str ([97])]) rfl (wants0 rfl) rfl rfl (run_buildStruct (sizes := [1, 1, 1]) (by kernel_rfl) (by kernel_rfl)) ?_
  refine T.lit (E := Elt.pair E64 (Elt.pair E64 EStr)) .list (vals := [(0, .agg #[.int .i64 1, .int .i64 1, str (([] : List UInt8))]), (1, .agg #[.int .i64 2, .int .i64 0, str ([97])])]) (cells := #[.int .i64 1, .int .i64 1, str (([] : List UInt8)), .int .i64 2, .int .i64 0, str ([97])]) rfl (wants0 rfl) rfl rfl rfl rfl rfl (by kernel_rfl) ([(1, 1, ([] : List UInt8)), (2, 0, [97])] : List (Int × Int × (List UInt8))) rfl (fun _ _ _ _ ho => (Has.encs ho (Has.pair (Has.sc rfl) (Has.pair (Has.sc rfl) (Has.sc rfl) rfl) rfl) (Has.encs ho (Has.pair (Has.sc rfl) (Has.pair (Has.sc rfl) (Has.sc rfl) rfl) rfl) rfl rfl) rfl)) (fun b1 => ?_)
  refine T.freeze 0 rfl rfl rfl ?_
  obtain ⟨r1, hg1, hr⟩ := inv_bind hr
  refine T.call .list (wants0 rfl) rfl (run_callF (vs := [_]) rfl Tryd.func16 rfl (by decide) rfl) (fun w hS => keys_Key.c hB hS (i0 := 0) rfl hg1) (fun x1 => ?_)
  refine T.move .list rfl (wants0 rfl) rfl rfl ?_
  refine T.extract .list rfl (wants0 rfl) rfl rfl rfl ?_
  refine T.extract .list rfl (wants0 rfl) rfl rfl rfl ?_
  refine T.assign .list rfl (wants0 rfl) rfl rfl ?_
  refine T.assign .list rfl (wants0 rfl) rfl rfl ?_
  refine T.nil ?_
  refine T.then_normal ?_
  refine T.seq ?_
  refine T.region ?_
  refine T.lit (E := E8) .list (vals := [(0, .int .u8 9)]) (cells := #[.int .u8 9]) rfl (wants0 rfl) rfl rfl rfl rfl rfl (by kernel_rfl) ([(9 : UInt8)] : List UInt8) rfl (fun _ _ _ _ _ => (Encs.c1 (enc := b8) (h1 := fun _ => rfl) rfl rfl)) (fun b2 => ?_)
  refine T.freeze 0 rfl rfl rfl ?_
  obtain ⟨r2, hg2, hr⟩ := inv_bind hr
  refine T.call .list (wants0 rfl) rfl (run_callF (vs := [_]) rfl Tryd.func18 rfl (by decide) rfl) (fun w hS => keys_Read.c hB hS (i0 := 0) rfl hg2) (fun x2 => ?_)
  refine T.move .list rfl (wants0 rfl) rfl rfl ?_
  refine T.extract .list rfl (wants0 rfl) rfl rfl rfl ?_
  refine T.extract .list rfl (wants0 rfl) rfl rfl rfl ?_
  refine T.assign .list rfl (wants0 rfl) rfl rfl ?_
  refine T.assign .list rfl (wants0 rfl) rfl rfl ?_
  refine T.nil ?_
  refine T.then_normal ?_
  refine T.seq ?_
  refine T.region ?_
  refine T.move .list rfl (wants0 rfl) rfl rfl ?_
  refine T.bin .list rfl (wants0 rfl) rfl rfl rfl rfl ?_
  refine T.move .list rfl (wants0 rfl) rfl rfl ?_
  refine T.bool (b := (decide (r1.2 = 0))) (fun hb1 => ?_) (fun hb1 => ?_)
  · replace hr := inv_posB hb1 hr
    refine T.move .list rfl (wants1 rfl rfl rfl hb1) rfl rfl ?_
    refine T.strBf .list 2 rfl rfl (wants1 rfl rfl rfl hb1) rfl rfl rfl ?_
    refine T.strEq .list rfl (wants1 rfl rfl rfl hb1) rfl (l := r1.1) (l' := ([2, 128, 0, 0, 0, 0, 0, 0, 1, 3, 0, 0, 98, 0, 0, 0])) rfl rfl ?_
    refine T.pickT .list rfl (wants0 rfl) rfl rfl hb1 rfl ?_
    refine T.move .list rfl (wants0 rfl) rfl rfl ?_
    refine T.bool (b := (decide (r1.1 = ([2, 128, 0, 0, 0, 0, 0, 0, 1, 3, 0, 0, 98, 0, 0, 0] : List UInt8)))) (fun hb2 => ?_) (fun hb2 => ?_)
    · replace hr := inv_posB hb2 hr
      refine T.move .list rfl (wants1 rfl rfl rfl hb2) rfl rfl ?_
      refine T.bin .list rfl (wants1 rfl rfl rfl hb2) rfl rfl rfl rfl ?_
      refine T.pickT .list rfl (wants0 rfl) rfl rfl hb2 rfl ?_
      refine T.move .list rfl (wants0 rfl) rfl rfl ?_
      refine T.bool (b := (decide (r2.2 = 11))) (fun hb3 => ?_) (fun hb3 => ?_)
      · replace hr := inv_posB hb3 hr
        obtain ⟨r3, hg3, hr⟩ := inv_bind hr
        refine T.call .list (wants1 rfl rfl rfl hb3) rfl (run_callF (vs := [_]) rfl Tryd.func24 rfl (by decide) rfl) (fun w hS => keys_Fold.c hB hS  hg3) (fun x3 => ?_)
        refine T.strEq .list rfl (wants1 rfl rfl rfl hb3) rfl (l := r3) (l' := ([195, 160, 207, 131, 208, 182, 120])) rfl rfl ?_
        refine T.pickT .list rfl (wants0 rfl) rfl rfl hb3 rfl ?_
        refine T.move .list rfl (wants0 rfl) rfl rfl ?_
        refine T.bool (b := (decide (r3 = ([195, 160, 207, 131, 208, 182, 120] : List UInt8)))) (fun hb4 => ?_) (fun hb4 => ?_)
        · replace hr := inv_posB hb4 hr
          obtain ⟨r4, hg4, hr⟩ := inv_bind hr
          refine T.call .list (wants1 rfl rfl rfl hb4) rfl (run_callF (vs := [_]) rfl Tryd.func13 rfl (by decide) rfl) (fun w hS => keys_Runes.c hB hS  hg4) (fun x4 => ?_)
          refine T.bin .list rfl (wants1 rfl rfl rfl hb4) rfl rfl rfl rfl ?_
          refine T.pickT .list rfl (wants0 rfl) rfl rfl hb4 rfl ?_
          refine T.move .list rfl (wants0 rfl) rfl rfl ?_
          refine T.bool (b := (decide (r4 = 2))) (fun hb5 => ?_) (fun hb5 => ?_)
          · replace hr := inv_posB hb5 hr
            refine T.build .list (vals := [(0, .int .i64 3)]) (cells := #[.int .i64 3, .int .i64 0, str (([] : List UInt8))]) rfl (wants1 rfl rfl rfl hb5) rfl rfl (run_buildStruct (sizes := [1, 1, 1]) (by kernel_rfl) (by kernel_rfl)) ?_
            refine T.lit (E := Elt.pair E64 (Elt.pair E64 EStr)) .list (vals := [(0, .agg #[.int .i64 3, .int .i64 0, str (([] : List UInt8))])]) (cells := #[.int .i64 3, .int .i64 0, str (([] : List UInt8))]) rfl (wants1 rfl rfl rfl hb5) rfl rfl rfl rfl rfl (by kernel_rfl) ([(3, 0, ([] : List UInt8))] : List (Int × Int × (List UInt8))) rfl (fun _ _ _ _ ho => (Has.encs ho (Has.pair (Has.sc rfl) (Has.pair (Has.sc rfl) (Has.sc rfl) rfl) rfl) rfl rfl)) (fun b3 => ?_)
            refine T.build .list (vals := [(0, .int .i64 1), (1, .int .i64 9)]) (cells := #[.int .i64 1, .int .i64 9, str (([] : List UInt8))]) rfl (wants1 rfl rfl rfl hb5) rfl rfl (run_buildStruct (sizes := [1, 1, 1]) (by kernel_rfl) (by kernel_rfl)) ?_
            refine T.lit (E := Elt.pair E64 (Elt.pair E64 EStr)) .list (vals := [(0, .agg #[.int .i64 1, .int .i64 9, str (([] : List UInt8))])]) (cells := #[.int .i64 1, .int .i64 9, str (([] : List UInt8))]) rfl (wants1 rfl rfl rfl hb5) rfl rfl rfl rfl rfl (by kernel_rfl) ([(1, 9, ([] : List UInt8))] : List (Int × Int × (List UInt8))) rfl (fun _ _ _ _ ho => (Has.encs ho (Has.pair (Has.sc rfl) (Has.pair (Has.sc rfl) (Has.sc rfl) rfl) rfl) rfl rfl)) (fun b4 => ?_)
            refine T.freeze 1 rfl rfl rfl ?_
            refine T.freeze 0 rfl rfl rfl ?_
            obtain ⟨r5, hg5, hr⟩ := inv_bind hr
            refine T.call .list (wants1 rfl rfl rfl hb5) rfl (run_callF (vs := [_, _]) rfl Tryd.func22 rfl (by decide) rfl) (fun w hS => keys_Compare.c hB hS (i0 := 1) (i1 := 0) rfl rfl hg5) (fun x5 => ?_)
            refine T.bin .list rfl (wants1 rfl rfl rfl hb5) rfl rfl rfl rfl ?_
            refine T.pickT .list rfl (wants0 rfl) rfl rfl hb5 rfl ?_
            refine T.assign .list rfl (wants0 rfl) rfl rfl ?_
            refine T.nil ?_
            refine T.then_normal ?_
            refine T.ret ?_
            obtain rfl := inv_some hr
            refine T.pick [] 6 rfl rfl (Nat.le_add_left _ _) rfl ?_
            refine T.ret1 rfl rfl (fun w hS => ⟨(), rfl, hS⟩)
          · replace hr := inv_negB hb5 hr
            refine T.leave .list (wantsNot rfl rfl rfl hb5) rfl ?_
            refine T.leave .list (wantsNot rfl rfl rfl hb5) rfl ?_
            refine T.leave .list (wantsNot rfl rfl rfl hb5) rfl ?_
            refine T.leave .list (wantsNot rfl rfl rfl hb5) rfl ?_
            refine T.leave .list (wantsNot rfl rfl rfl hb5) rfl ?_
            refine T.leave .list (wantsNot rfl rfl rfl hb5) rfl ?_
            refine T.pickF .list rfl (wants0 rfl) rfl rfl hb5 rfl ?_
            refine T.assign .list rfl (wants0 rfl) rfl rfl ?_
            refine T.nil ?_
            refine T.then_normal ?_
            refine T.ret ?_
            obtain rfl := inv_some hr
            refine T.pick [] 4 rfl rfl (Nat.le_add_left _ _) rfl ?_
            refine T.ret1 rfl rfl (fun w hS => ⟨(), rfl, hS⟩)
        · replace hr := inv_negB hb4 hr
          refine T.leave .list (wantsNot rfl rfl rfl hb4) rfl ?_
          refine T.leave .list (wantsNot rfl rfl rfl hb4) rfl ?_
          refine T.pickF .list rfl (wants0 rfl) rfl rfl hb4 rfl ?_
          refine T.move .list rfl (wants0 rfl) rfl rfl ?_
          refine T.leave .list (wantsNot rfl rfl rfl rfl) rfl ?_
          refine T.leave .list (wantsNot rfl rfl rfl rfl) rfl ?_
          refine T.leave .list (wantsNot rfl rfl rfl rfl) rfl ?_
          refine T.leave .list (wantsNot rfl rfl rfl rfl) rfl ?_
          refine T.leave .list (wantsNot rfl rfl rfl rfl) rfl ?_
          refine T.leave .list (wantsNot rfl rfl rfl rfl) rfl ?_
          refine T.pickF .list rfl (wants0 rfl) rfl rfl rfl rfl ?_
          refine T.assign .list rfl (wants0 rfl) rfl rfl ?_
          refine T.nil ?_
          refine T.then_normal ?_
          refine T.ret ?_
          obtain rfl := inv_some hr
          refine T.pick [] 4 rfl rfl (Nat.le_add_left _ _) rfl ?_
          refine T.ret1 rfl rfl (fun w hS => ⟨(), rfl, hS⟩)
      · replace hr := inv_negB hb3 hr
        refine T.leave .list (wantsNot rfl rfl rfl hb3) rfl ?_
        refine T.leave .list (wantsNot rfl rfl rfl hb3) rfl ?_
        refine T.pickF .list rfl (wants0 rfl) rfl rfl hb3 rfl ?_
        refine T.move .list rfl (wants0 rfl) rfl rfl ?_
        refine T.leave .list (wantsNot rfl rfl rfl rfl) rfl ?_
        refine T.leave .list (wantsNot rfl rfl rfl rfl) rfl ?_
        refine T.pickF .list rfl (wants0 rfl) rfl rfl rfl rfl ?_
        refine T.move .list rfl (wants0 rfl) rfl rfl ?_
        refine T.leave .list (wantsNot rfl rfl rfl rfl) rfl ?_
        refine T.leave .list (wantsNot rfl rfl rfl rfl) rfl ?_
        refine T.leave .list (wantsNot rfl rfl rfl rfl) rfl ?_
        refine T.leave .list (wantsNot rfl rfl rfl rfl) rfl ?_
        refine T.leave .list (wantsNot rfl rfl rfl rfl) rfl ?_
        refine T.leave .list (wantsNot rfl rfl rfl rfl) rfl ?_
        refine T.pickF .list rfl (wants0 rfl) rfl rfl rfl rfl ?_
        refine T.assign .list rfl (wants0 rfl) rfl rfl ?_
        refine T.nil ?_
        refine T.then_normal ?_
        refine T.ret ?_
        obtain rfl := inv_some hr
        refine T.pick [] 4 rfl rfl (Nat.le_add_left _ _) rfl ?_
        refine T.ret1 rfl rfl (fun w hS => ⟨(), rfl, hS⟩)
    · replace hr := inv_negB hb2 hr
      refine T.leave .list (wantsNot rfl rfl rfl hb2) rfl ?_
      refine T.leave .list (wantsNot rfl rfl rfl hb2) rfl ?_
      refine T.pickF .list rfl (wants0 rfl) rfl rfl hb2 rfl ?_
      refine T.move .list rfl (wants0 rfl) rfl rfl ?_
      refine T.leave .list (wantsNot rfl rfl rfl rfl) rfl ?_
      refine T.leave .list (wantsNot rfl rfl rfl rfl) rfl ?_
      refine T.pickF .list rfl (wants0 rfl) rfl rfl rfl rfl ?_
      refine T.move .list rfl (wants0 rfl) rfl rfl ?_
      refine T.leave .list (wantsNot rfl rfl rfl rfl) rfl ?_
      refine T.leave .list (wantsNot rfl rfl rfl rfl) rfl ?_
      refine T.pickF .list rfl (wants0 rfl) rfl rfl rfl rfl ?_
      refine T.move .list rfl (wants0 rfl) rfl rfl ?_
      refine T.leave .list (wantsNot rfl rfl rfl rfl) rfl ?_
      refine T.leave .list (wantsNot rfl rfl rfl rfl) rfl ?_
      refine T.leave .list (wantsNot rfl rfl rfl rfl) rfl ?_
      refine T.leave .list (wantsNot rfl rfl rfl rfl) rfl ?_
      refine T.leave .list (wantsNot rfl rfl rfl rfl) rfl ?_
      refine T.leave .list (wantsNot rfl rfl rfl rfl) rfl ?_
      refine T.pickF .list rfl (wants0 rfl) rfl rfl rfl rfl ?_
      refine T.assign .list rfl (wants0 rfl) rfl rfl ?_
      refine T.nil ?_
      refine T.then_normal ?_
      refine T.ret ?_
      obtain rfl := inv_some hr
      refine T.pick [] 4 rfl rfl (Nat.le_add_left _ _) rfl ?_
      refine T.ret1 rfl rfl (fun w hS => ⟨(), rfl, hS⟩)
  · replace hr := inv_negB hb1 hr
    refine T.leave .list (wantsNot rfl rfl rfl hb1) rfl ?_
    refine T.leave .list (wantsNot rfl rfl rfl hb1) rfl ?_
    refine T.leave .list (wantsNot rfl rfl rfl hb1) rfl ?_
    refine T.pickF .list rfl (wants0 rfl) rfl rfl hb1 rfl ?_
    refine T.move .list rfl (wants0 rfl) rfl rfl ?_
    refine T.leave .list (wantsNot rfl rfl rfl rfl) rfl ?_
    refine T.leave .list (wantsNot rfl rfl rfl rfl) rfl ?_
    refine T.pickF .list rfl (wants0 rfl) rfl rfl rfl rfl ?_
    refine T.move .list rfl (wants0 rfl) rfl rfl ?_
    refine T.leave .list (wantsNot rfl rfl rfl rfl) rfl ?_
    refine T.leave .list (wantsNot rfl rfl rfl rfl) rfl ?_
    refine T.pickF .list rfl (wants0 rfl) rfl rfl rfl rfl ?_
    refine T.move .list rfl (wants0 rfl) rfl rfl ?_
    refine T.leave .list (wantsNot rfl rfl rfl rfl) rfl ?_
    refine T.leave .list (wantsNot rfl rfl rfl rfl) rfl ?_
    refine T.pickF .list rfl (wants0 rfl) rfl rfl rfl rfl ?_
    refine T.move .list rfl (wants0 rfl) rfl rfl ?_
    refine T.leave .list (wantsNot rfl rfl rfl rfl) rfl ?_
    refine T.leave .list (wantsNot rfl rfl rfl rfl) rfl ?_
    refine T.leave .list (wantsNot rfl rfl rfl rfl) rfl ?_
    refine T.leave .list (wantsNot rfl rfl rfl rfl) rfl ?_
    refine T.leave .list (wantsNot rfl rfl rfl rfl) rfl ?_
    refine T.leave .list (wantsNot rfl rfl rfl rfl) rfl ?_
    refine T.pickF .list rfl (wants0 rfl) rfl rfl rfl rfl ?_
    refine T.assign .list rfl (wants0 rfl) rfl rfl ?_
    refine T.nil ?_
    refine T.then_normal ?_
    refine T.ret ?_
    obtain rfl := inv_some hr
    refine T.pick [] 4 rfl rfl (Nat.le_add_left _ _) rfl ?_
    refine T.ret1 rfl rfl (fun w hS => ⟨(), rfl, hS⟩)

noncomputable def law2_KeysRight.impl (a0 : Int × Int × (List UInt8)) (l1 : List UInt8) : Option Bool :=
  (law2_told.impl ).bind fun r1 => (if r1 = true then (keys_Right.impl ((a0.1, a0.2.1, a0.2.2))).bind fun r2 => (ref2_Right.impl ((a0.1, a0.2.1, a0.2.2))).bind fun r3 => (if ((decide (r2 = r3))) = true then (keys_Runes.impl l1).bind fun r4 => (ref2_Runes.impl l1).bind fun r5 => some (decide (r4 = r5)) else some false) else some false)
set_option maxRecDepth 100000 in
set_option maxHeartbeats 1000000 in
theorem law2_KeysRight.c {B : World} {hs : List MP} {w : World} {a0 : Int × Int × (List UInt8)} {l1 : List UInt8} (hB : Base B) (hS : St B (hs) w) {r : Bool} (hr : law2_KeysRight.impl a0 l1 = some r) :
    Calls Tryd.prog 3 #[.agg #[.int .i64 a0.1, .int .i64 a0.2.1, str a0.2.2], str l1] w fun e w' => ∃ x : Unit, e = .returned (.bool r) ∧ St B (hs) w' := by
  unfold law2_KeysRight.impl at hr
  refine calls_T Tryd.func3 rfl rfl rfl hS ?_
  refine T.seq ?_
  refine T.region ?_
  refine T.boxS .list rfl (wants0 rfl) rfl rfl (cs := [.int .i64 a0.1, .int .i64 a0.2.1, str a0.2.2]) rfl (fun b1 => ?_)
  refine T.assign .list rfl (wants0 rfl) rfl rfl ?_
  refine T.nil ?_
  refine T.then_normal ?_
  refine T.seq ?_
  refine T.dStart mixed ?_
  obtain ⟨r1, hg1, hr⟩ := inv_bind hr
  refine T.dOnly (i := 0) (by kernel_rfl) ?_
  refine T.call (.dOne rfl (by kernel_rfl)) (wants0 rfl) rfl (run_callF (vs := []) rfl Tryd.func10 rfl (by decide) rfl) (fun w hS => law2_told.c hB hS  hg1) (fun x1 => ?_)
  refine T.dNext phi_nil ?_
  refine T.move (.dPure (i := 1) rfl (by kernel_rfl) (fun d _ _ _ _ h => by cases d <;> exact h)) rfl (wants0 rfl) rfl rfl ?_
  refine T.bool (b := r1) (fun hb1 => ?_) (fun hb1 => ?_)
  · replace hr := inv_posB hb1 hr
    refine T.dAdd 16 (fun w => w.heap[b1]? = some (.cells [.int .i64 a0.1, .int .i64 a0.2.1, str a0.2.2].toArray 23 (0, 0))) (Cl.stays 0 rfl) ?_
    refine T.valS 0 (i := 2) (.agg #[.int .i64 a0.1, .int .i64 a0.2.1, str a0.2.2]) rfl rfl (by kernel_rfl) (by kernel_rfl) (fun d _ _ _ _ h => by cases d <;> exact h) (wants1 rfl rfl rfl hb1) rfl (run_ldClN rfl rfl (vs := [.int .i64 a0.1, .int .i64 a0.2.1, str a0.2.2]) rfl rfl) ?_
    refine T.valS 0 (i := 4) (.agg #[.int .i64 a0.1, .int .i64 a0.2.1, str a0.2.2]) rfl rfl (by kernel_rfl) (by kernel_rfl) (fun d _ _ _ _ h => by cases d <;> exact h) (wants1 rfl rfl rfl hb1) rfl (run_ldClN rfl rfl (vs := [.int .i64 a0.1, .int .i64 a0.2.1, str a0.2.2]) rfl rfl) ?_
    obtain ⟨r2, hg2, hr⟩ := inv_bind hr
    refine T.dOnly (i := 3) (by kernel_rfl) ?_
    refine T.call (.dOne rfl (by kernel_rfl)) (wants1 rfl rfl rfl hb1) rfl (run_callF (vs := [_]) rfl Tryd.func11 rfl (by decide) rfl) (fun w hS => keys_Right.c hB hS  hg2) (fun x2 => ?_)
    refine T.dNext (phi_cons (.inr (Cl.stays 0 rfl)) phi_nil) ?_
    obtain ⟨r3, hg3, hr⟩ := inv_bind hr
    refine T.dOnly (i := 5) (by kernel_rfl) ?_
    refine T.call (.dOne rfl (by kernel_rfl)) (wants1 rfl rfl rfl hb1) rfl (run_callF (vs := [_]) rfl Tryd.func12 rfl (by decide) rfl) (fun w hS => ref2_Right.c hB hS  hg3) (fun x3 => ?_)
    refine T.dNext (phi_cons (.inr (Cl.stays 0 rfl)) phi_nil) ?_
    refine T.bin (.dPure (i := 6) rfl (by kernel_rfl) (fun d _ _ _ _ h => by cases d <;> exact h)) rfl (wants1 rfl rfl rfl hb1) rfl rfl rfl rfl ?_
    refine T.pickT (.dPure (i := 7) rfl (by kernel_rfl) (fun d _ _ _ _ h => by cases d <;> exact h)) rfl (wants0 rfl) rfl rfl hb1 rfl ?_
    refine T.move (.dPure (i := 8) rfl (by kernel_rfl) (fun d _ _ _ _ h => by cases d <;> exact h)) rfl (wants0 rfl) rfl rfl ?_
    refine T.bool (b := (decide (r2 = r3))) (fun hb2 => ?_) (fun hb2 => ?_)
    · replace hr := inv_posB hb2 hr
      refine T.move (.dPure (i := 9) rfl (by kernel_rfl) (fun d _ _ _ _ h => by cases d <;> exact h)) rfl (wants1 rfl rfl rfl hb2) rfl rfl ?_
      refine T.move (.dPure (i := 11) rfl (by kernel_rfl) (fun d _ _ _ _ h => by cases d <;> exact h)) rfl (wants1 rfl rfl rfl hb2) rfl rfl ?_
      obtain ⟨r4, hg4, hr⟩ := inv_bind hr
      refine T.dOnly (i := 10) (by kernel_rfl) ?_
      refine T.call (.dOne rfl (by kernel_rfl)) (wants1 rfl rfl rfl hb2) rfl (run_callF (vs := [_]) rfl Tryd.func13 rfl (by decide) rfl) (fun w hS => keys_Runes.c hB hS  hg4) (fun x4 => ?_)
      refine T.dNext (phi_cons (.inr (Cl.stays 0 rfl)) phi_nil) ?_
      obtain ⟨r5, hg5, hr⟩ := inv_bind hr
      refine T.dOnly (i := 12) (by kernel_rfl) ?_
      refine T.call (.dOne rfl (by kernel_rfl)) (wants1 rfl rfl rfl hb2) rfl (run_callF (vs := [_]) rfl Tryd.func14 rfl (by decide) rfl) (fun w hS => ref2_Runes.c hB hS  hg5) (fun x5 => ?_)
      refine T.dNext (phi_cons (.inr (Cl.stays 0 rfl)) phi_nil) ?_
      refine T.bin (.dPure (i := 13) rfl (by kernel_rfl) (fun d _ _ _ _ h => by cases d <;> exact h)) rfl (wants1 rfl rfl rfl hb2) rfl rfl rfl rfl ?_
      refine T.pickT (.dPure (i := 14) rfl (by kernel_rfl) (fun d _ _ _ _ h => by cases d <;> exact h)) rfl (wants0 rfl) rfl rfl hb2 rfl ?_
      refine T.assign (.dPure (i := 15) rfl (by kernel_rfl) (fun d _ _ _ _ h => by cases d <;> exact h)) rfl (wants0 rfl) rfl rfl ?_
      refine T.dDone (by kernel_rfl) ?_
      refine T.then_normal ?_
      refine T.ret ?_
      obtain rfl := inv_some hr
      refine T.pick [] 1 rfl rfl (Nat.le_add_left _ _) rfl ?_
      refine T.ret1 rfl rfl (fun w hS => ⟨(), rfl, hS⟩)
    · replace hr := inv_negB hb2 hr
      refine T.leave (.dPure (i := 9) rfl (by kernel_rfl) (fun d _ _ _ _ h => by cases d <;> exact h)) (wantsNot rfl rfl rfl hb2) rfl ?_
      refine T.leave (.dPure (i := 10) rfl (by kernel_rfl) (fun d _ _ _ _ h => by cases d <;> exact h)) (wantsNot rfl rfl rfl hb2) rfl ?_
      refine T.leave (.dPure (i := 11) rfl (by kernel_rfl) (fun d _ _ _ _ h => by cases d <;> exact h)) (wantsNot rfl rfl rfl hb2) rfl ?_
      refine T.leave (.dPure (i := 12) rfl (by kernel_rfl) (fun d _ _ _ _ h => by cases d <;> exact h)) (wantsNot rfl rfl rfl hb2) rfl ?_
      refine T.leave (.dPure (i := 13) rfl (by kernel_rfl) (fun d _ _ _ _ h => by cases d <;> exact h)) (wantsNot rfl rfl rfl hb2) rfl ?_
      refine T.pickF (.dPure (i := 14) rfl (by kernel_rfl) (fun d _ _ _ _ h => by cases d <;> exact h)) rfl (wants0 rfl) rfl rfl hb2 rfl ?_
      refine T.assign (.dPure (i := 15) rfl (by kernel_rfl) (fun d _ _ _ _ h => by cases d <;> exact h)) rfl (wants0 rfl) rfl rfl ?_
      refine T.dDone (by kernel_rfl) ?_
      refine T.then_normal ?_
      refine T.ret ?_
      obtain rfl := inv_some hr
      refine T.pick [] 1 rfl rfl (Nat.le_add_left _ _) rfl ?_
      refine T.ret1 rfl rfl (fun w hS => ⟨(), rfl, hS⟩)
  · replace hr := inv_negB hb1 hr
    refine T.leave (.dPure (i := 2) rfl (by kernel_rfl) (fun d _ _ _ _ h => by cases d <;> exact h)) (wantsNot rfl rfl rfl hb1) rfl ?_
    refine T.leave (.dPure (i := 3) rfl (by kernel_rfl) (fun d _ _ _ _ h => by cases d <;> exact h)) (wantsNot rfl rfl rfl hb1) rfl ?_
    refine T.leave (.dPure (i := 4) rfl (by kernel_rfl) (fun d _ _ _ _ h => by cases d <;> exact h)) (wantsNot rfl rfl rfl hb1) rfl ?_
    refine T.leave (.dPure (i := 5) rfl (by kernel_rfl) (fun d _ _ _ _ h => by cases d <;> exact h)) (wantsNot rfl rfl rfl hb1) rfl ?_
    refine T.leave (.dPure (i := 6) rfl (by kernel_rfl) (fun d _ _ _ _ h => by cases d <;> exact h)) (wantsNot rfl rfl rfl hb1) rfl ?_
    refine T.pickF (.dPure (i := 7) rfl (by kernel_rfl) (fun d _ _ _ _ h => by cases d <;> exact h)) rfl (wants0 rfl) rfl rfl hb1 rfl ?_
    refine T.move (.dPure (i := 8) rfl (by kernel_rfl) (fun d _ _ _ _ h => by cases d <;> exact h)) rfl (wants0 rfl) rfl rfl ?_
    refine T.leave (.dPure (i := 9) rfl (by kernel_rfl) (fun d _ _ _ _ h => by cases d <;> exact h)) (wantsNot rfl rfl rfl rfl) rfl ?_
    refine T.leave (.dPure (i := 10) rfl (by kernel_rfl) (fun d _ _ _ _ h => by cases d <;> exact h)) (wantsNot rfl rfl rfl rfl) rfl ?_
    refine T.leave (.dPure (i := 11) rfl (by kernel_rfl) (fun d _ _ _ _ h => by cases d <;> exact h)) (wantsNot rfl rfl rfl rfl) rfl ?_
    refine T.leave (.dPure (i := 12) rfl (by kernel_rfl) (fun d _ _ _ _ h => by cases d <;> exact h)) (wantsNot rfl rfl rfl rfl) rfl ?_
    refine T.leave (.dPure (i := 13) rfl (by kernel_rfl) (fun d _ _ _ _ h => by cases d <;> exact h)) (wantsNot rfl rfl rfl rfl) rfl ?_
    refine T.pickF (.dPure (i := 14) rfl (by kernel_rfl) (fun d _ _ _ _ h => by cases d <;> exact h)) rfl (wants0 rfl) rfl rfl rfl rfl ?_
    refine T.assign (.dPure (i := 15) rfl (by kernel_rfl) (fun d _ _ _ _ h => by cases d <;> exact h)) rfl (wants0 rfl) rfl rfl ?_
    refine T.dDone (by kernel_rfl) ?_
    refine T.then_normal ?_
    refine T.ret ?_
    obtain rfl := inv_some hr
    refine T.pick [] 1 rfl rfl (Nat.le_add_left _ _) rfl ?_
    refine T.ret1 rfl rfl (fun w hS => ⟨(), rfl, hS⟩)

noncomputable def law2_KeysBytes.impl (l0 : List (Int × Int × (List UInt8))) (l1 : List UInt8) : Option Bool :=
  (law2_few.impl l0 8).bind fun r1 => (keys_Key.impl (subl r1.2 0 r1.1)).bind fun r2 => (ref2_Key.impl (subl r1.2 0 r1.1)).bind fun r3 => (keys_Read.impl l1).bind fun r4 => (ref2_Read.impl l1).bind fun r5 => (law2_told.impl ).bind fun r6 => (if r6 = true then (if ((decide (r2.1 = r3.1))) = true then (if ((decide (r2.2 = r3.2))) = true then (ref2_Same.impl r4.1 r5.1).bind fun r7 => (if r7 = true then (if ((decide (r4.2 = r5.2))) = true then chk (0 ≤ (((subl r1.2 0 r1.1).length : Int)) ∧ (((subl r1.2 0 r1.1).length : Int)) ≤ (l0.length : Int)) ((ref2_Same.impl (subl r1.2 0 r1.1) (subl l0 0 (((subl r1.2 0 r1.1).length : Int)))).bind fun r8 => (if r8 = true then chk (0 ≤ (IntKind.i64.wrap ((((subl r1.2 0 r1.1).length : Int)) + 1)) ∧ (IntKind.i64.wrap ((((subl r1.2 0 r1.1).length : Int)) + 1)) ≤ (r1.2.length : Int)) (chk (0 ≤ (((subl r1.2 0 r1.1).length : Int)) ∧ (((subl r1.2 0 r1.1).length : Int)) < ((subl r1.2 0 (IntKind.i64.wrap ((((subl r1.2 0 r1.1).length : Int)) + 1))).length : Int)) (some (decide (((((((subl r1.2 0 (IntKind.i64.wrap ((((subl r1.2 0 r1.1).length : Int)) + 1))).getD (((subl r1.2 0 r1.1).length : Int) : Int).toNat default)).1))) = (-7))))) else some false)) else some false) else some false) else some false) else some false) else some false)
set_option maxRecDepth 100000 in
set_option maxHeartbeats 1000000 in
theorem law2_KeysBytes.c {B : World} {hs : List MP} {w : World} {i0 c0 : Nat} {A0 : Option Addr} {l0 : List (Int × Int × (List UInt8))} {i1 c1 : Nat} {A1 : Option Addr} {l1 : List UInt8} (hB : Base B) (hS : St B (hs) w) (h0 : (hs)[i0]? = some (Ro (Elt.pair E64 (Elt.pair E64 EStr)) A0 c0 l0)) (h1 : (hs)[i1]? = some (Ro E8 A1 c1 l1)) {r : Bool} (hr : law2_KeysBytes.impl l0 l1 = some r) :
    Calls Tryd.prog 4 #[.slice A0 l0.length c0, .slice A1 l1.length c1] w fun e w' => ∃ x : Unit, e = .returned (.bool r) ∧ St B (hs) w' := by
  unfold law2_KeysBytes.impl at hr
  refine calls_T Tryd.func4 rfl rfl rfl hS ?_
  refine T.front i0 h0 ?_
  refine T.front (i1 + 1) h1 ?_
  refine T.seq ?_
  refine T.region ?_
  refine T.assign .list rfl (wants0 rfl) rfl rfl ?_
  refine T.nil ?_
  refine T.then_normal ?_
  refine T.seq ?_
  refine T.region ?_
  refine T.move .list rfl (wants0 rfl) rfl rfl ?_
  obtain ⟨r1, hg1, hr⟩ := inv_bind hr
  refine T.call .list (wants0 rfl) rfl (run_callF (vs := [_, _]) rfl Tryd.func15 rfl (by decide) rfl) (fun w hS => law2_few.c hB hS (i0 := 1) rfl hg1) (fun x1 => ?_)
  refine T.assign .list rfl (wants0 rfl) rfl rfl ?_
  refine T.nil ?_
  refine T.then_normal ?_
  refine T.seq ?_
  refine T.region ?_
  refine T.move .list rfl (wants0 rfl) rfl rfl ?_
  refine T.freeze 0 rfl rfl rfl ?_
  refine T.viewRo 0 (b := r1.1) rfl ?_
  obtain ⟨r2, hg2, hr⟩ := inv_bind hr
  refine T.call .list (wants0 rfl) rfl (run_callF (vs := [_]) rfl Tryd.func16 rfl (by decide) rfl) (fun w hS => keys_Key.c hB hS (i0 := 0) rfl hg2) (fun x2 => ?_)
  refine T.move .list rfl (wants0 rfl) rfl rfl ?_
  refine T.extract .list rfl (wants0 rfl) rfl rfl rfl ?_
  refine T.extract .list rfl (wants0 rfl) rfl rfl rfl ?_
  refine T.assign .list rfl (wants0 rfl) rfl rfl ?_
  refine T.assign .list rfl (wants0 rfl) rfl rfl ?_
  refine T.nil ?_
  refine T.then_normal ?_
  refine T.seq ?_
  refine T.region ?_
  refine T.move .list rfl (wants0 rfl) rfl rfl ?_
  refine T.viewRo 2 (b := r1.1) rfl ?_
  obtain ⟨r3, hg3, hr⟩ := inv_bind hr
  refine T.call .list (wants0 rfl) rfl (run_callF (vs := [_]) rfl Tryd.func17 rfl (by decide) rfl) (fun w hS => ref2_Key.c hB hS (i0 := 0) rfl hg3) (fun x3 => ?_)
  refine T.move .list rfl (wants0 rfl) rfl rfl ?_
  refine T.extract .list rfl (wants0 rfl) rfl rfl rfl ?_
  refine T.extract .list rfl (wants0 rfl) rfl rfl rfl ?_
  refine T.assign .list rfl (wants0 rfl) rfl rfl ?_
  refine T.assign .list rfl (wants0 rfl) rfl rfl ?_
  refine T.nil ?_
  refine T.then_normal ?_
  refine T.seq ?_
  refine T.region ?_
  refine T.move .list rfl (wants0 rfl) rfl rfl ?_
  obtain ⟨r4, hg4, hr⟩ := inv_bind hr
  refine T.call .list (wants0 rfl) rfl (run_callF (vs := [_]) rfl Tryd.func18 rfl (by decide) rfl) (fun w hS => keys_Read.c hB hS (i0 := 5) rfl hg4) (fun x4 => ?_)
  refine T.move .list rfl (wants0 rfl) rfl rfl ?_
  refine T.extract .list rfl (wants0 rfl) rfl rfl rfl ?_
  refine T.extract .list rfl (wants0 rfl) rfl rfl rfl ?_
  refine T.assign .list rfl (wants0 rfl) rfl rfl ?_
  refine T.assign .list rfl (wants0 rfl) rfl rfl ?_
  refine T.nil ?_
  refine T.then_normal ?_
  refine T.seq ?_
  refine T.region ?_
  refine T.move .list rfl (wants0 rfl) rfl rfl ?_
  obtain ⟨r5, hg5, hr⟩ := inv_bind hr
  refine T.call .list (wants0 rfl) rfl (run_callF (vs := [_]) rfl Tryd.func19 rfl (by decide) rfl) (fun w hS => ref2_Read.c hB hS (i0 := 6) rfl hg5) (fun x5 => ?_)
  refine T.move .list rfl (wants0 rfl) rfl rfl ?_
  refine T.extract .list rfl (wants0 rfl) rfl rfl rfl ?_
  refine T.extract .list rfl (wants0 rfl) rfl rfl rfl ?_
  refine T.assign .list rfl (wants0 rfl) rfl rfl ?_
  refine T.assign .list rfl (wants0 rfl) rfl rfl ?_
  refine T.nil ?_
  refine T.then_normal ?_
  refine T.seq ?_
  refine T.region ?_
  obtain ⟨r6, hg6, hr⟩ := inv_bind hr
  refine T.call .list (wants0 rfl) rfl (run_callF (vs := []) rfl Tryd.func10 rfl (by decide) rfl) (fun w hS => law2_told.c hB hS  hg6) (fun x6 => ?_)
  refine T.move .list rfl (wants0 rfl) rfl rfl ?_
  refine T.bool (b := r6) (fun hb1 => ?_) (fun hb1 => ?_)
  · replace hr := inv_posB hb1 hr
    refine T.move .list rfl (wants1 rfl rfl rfl hb1) rfl rfl ?_
    refine T.strBf .list 4 rfl rfl (wants1 rfl rfl rfl hb1) rfl rfl rfl ?_
    refine T.move .list rfl (wants1 rfl rfl rfl hb1) rfl rfl ?_
    refine T.strBf .list 2 rfl rfl (wants1 rfl rfl rfl hb1) rfl rfl rfl ?_
    refine T.strEq .list rfl (wants1 rfl rfl rfl hb1) rfl (l := r2.1) (l' := r3.1) rfl rfl ?_
    refine T.pickT .list rfl (wants0 rfl) rfl rfl hb1 rfl ?_
    refine T.move .list rfl (wants0 rfl) rfl rfl ?_
    refine T.bool (b := (decide (r2.1 = r3.1))) (fun hb2 => ?_) (fun hb2 => ?_)
    · replace hr := inv_posB hb2 hr
      refine T.move .list rfl (wants1 rfl rfl rfl hb2) rfl rfl ?_
      refine T.move .list rfl (wants1 rfl rfl rfl hb2) rfl rfl ?_
      refine T.bin .list rfl (wants1 rfl rfl rfl hb2) rfl rfl rfl rfl ?_
      refine T.pickT .list rfl (wants0 rfl) rfl rfl hb2 rfl ?_
      refine T.move .list rfl (wants0 rfl) rfl rfl ?_
      refine T.bool (b := (decide (r2.2 = r3.2))) (fun hb3 => ?_) (fun hb3 => ?_)
      · replace hr := inv_posB hb3 hr
        refine T.move .list rfl (wants1 rfl rfl rfl hb3) rfl rfl ?_
        refine T.move .list rfl (wants1 rfl rfl rfl hb3) rfl rfl ?_
        refine T.freeze 1 rfl rfl rfl ?_
        refine T.freeze 0 rfl rfl rfl ?_
        obtain ⟨r7, hg7, hr⟩ := inv_bind hr
        refine T.call .list (wants1 rfl rfl rfl hb3) rfl (run_callF (vs := [_, _]) rfl Tryd.func20 rfl (by decide) rfl) (fun w hS => ref2_Same.c hB hS (i0 := 1) (i1 := 0) rfl rfl hg7) (fun x7 => ?_)
        refine T.pickT .list rfl (wants0 rfl) rfl rfl hb3 rfl ?_
        refine T.move .list rfl (wants0 rfl) rfl rfl ?_
        refine T.bool (b := r7) (fun hb4 => ?_) (fun hb4 => ?_)
        · replace hr := inv_posB hb4 hr
          refine T.move .list rfl (wants1 rfl rfl rfl hb4) rfl rfl ?_
          refine T.move .list rfl (wants1 rfl rfl rfl hb4) rfl rfl ?_
          refine T.bin .list rfl (wants1 rfl rfl rfl hb4) rfl rfl rfl rfl ?_
          refine T.pickT .list rfl (wants0 rfl) rfl rfl hb4 rfl ?_
          refine T.move .list rfl (wants0 rfl) rfl rfl ?_
          refine T.bool (b := (decide (r4.2 = r5.2))) (fun hb5 => ?_) (fun hb5 => ?_)
          · replace hr := inv_posB hb5 hr
            refine T.move .list rfl (wants1 rfl rfl rfl hb5) rfl rfl ?_
            refine T.move .list rfl (wants1 rfl rfl rfl hb5) rfl rfl ?_
            refine T.move .list rfl (wants1 rfl rfl rfl hb5) rfl rfl ?_
            refine T.lenSlice .list rfl (wants1 rfl rfl rfl hb5) rfl rfl ?_
            obtain ⟨hc1, hr⟩ := inv_chk hr
            refine T.cut0 .list 8 rfl rfl rfl (wants1 rfl rfl rfl hb5) rfl rfl (.inl rfl) (.inr ⟨_, _, rfl, rfl⟩) hc1.1 hc1.2 ?_
            refine T.viewRo 7 (b := r1.1) rfl ?_
            obtain ⟨r8, hg8, hr⟩ := inv_bind hr
            refine T.call .list (wants1 rfl rfl rfl hb5) rfl (run_callF (vs := [_, _]) rfl Tryd.func20 rfl (by decide) rfl) (fun w hS => ref2_Same.c hB hS (i0 := 0) (i1 := 1) rfl rfl hg8) (fun x8 => ?_)
            refine T.pickT .list rfl (wants0 rfl) rfl rfl hb5 rfl ?_
            refine T.move .list rfl (wants0 rfl) rfl rfl ?_
            refine T.bool (b := r8) (fun hb6 => ?_) (fun hb6 => ?_)
            · replace hr := inv_posB hb6 hr
              refine T.move .list rfl (wants1 rfl rfl rfl hb6) rfl rfl ?_
              refine T.move .list rfl (wants1 rfl rfl rfl hb6) rfl rfl ?_
              refine T.lenSlice .list rfl (wants1 rfl rfl rfl hb6) rfl rfl ?_
              refine T.bin .list rfl (wants1 rfl rfl rfl hb6) rfl rfl rfl rfl ?_
              obtain ⟨hc2, hr⟩ := inv_chk hr
              refine T.cut0 .list 8 rfl rfl rfl (wants1 rfl rfl rfl hb6) rfl rfl (.inl rfl) (.inr ⟨_, _, rfl, rfl⟩) hc2.1 hc2.2 ?_
              refine T.move .list rfl (wants1 rfl rfl rfl hb6) rfl rfl ?_
              refine T.lenSlice .list rfl (wants1 rfl rfl rfl hb6) rfl rfl ?_
              obtain ⟨hc3, hr⟩ := inv_chk hr
              refine T.idxRo .list 0 rfl rfl (wants1 rfl rfl rfl hb6) rfl rfl rfl hc3.1 hc3.2 (Nat.le_refl _) ?_
              refine T.fieldRo .list 0 rfl hc3.1 hc3.2 rfl (wants1 rfl rfl rfl hb6) rfl rfl ?_
              refine T.fldRo 0 .list (Fd.fst Fd.self) rfl rfl hc3.1 hc3.2 rfl (wants1 rfl rfl rfl hb6) rfl rfl rfl ?_
              refine T.bin .list rfl (wants1 rfl rfl rfl hb6) rfl rfl rfl rfl ?_
              refine T.pickT .list rfl (wants0 rfl) rfl rfl hb6 rfl ?_
              refine T.assign .list rfl (wants0 rfl) rfl rfl ?_
              refine T.nil ?_
              refine T.then_normal ?_
              refine T.ret ?_
              obtain rfl := inv_some hr
              refine T.pick [] 12 rfl rfl (Nat.le_add_left _ _) rfl ?_
              refine T.ret1 rfl rfl (fun w hS => ⟨(), rfl, hS⟩)
            · replace hr := inv_negB hb6 hr
              refine T.leave .list (wantsNot rfl rfl rfl hb6) rfl ?_
              refine T.leave .list (wantsNot rfl rfl rfl hb6) rfl ?_
              refine T.leave .list (wantsNot rfl rfl rfl hb6) rfl ?_
              refine T.leave .list (wantsNot rfl rfl rfl hb6) rfl ?_
              refine T.leave .list (wantsNot rfl rfl rfl hb6) rfl ?_
              refine T.leave .list (wantsNot rfl rfl rfl hb6) rfl ?_
              refine T.leave .list (wantsNot rfl rfl rfl hb6) rfl ?_
              refine T.leave .list (wantsNot rfl rfl rfl hb6) rfl ?_
              refine T.leave .list (wantsNot rfl rfl rfl hb6) rfl ?_
              refine T.leave .list (wantsNot rfl rfl rfl hb6) rfl ?_
              refine T.leave .list (wantsNot rfl rfl rfl hb6) rfl ?_
              refine T.pickF .list rfl (wants0 rfl) rfl rfl hb6 rfl ?_
              refine T.assign .list rfl (wants0 rfl) rfl rfl ?_
              refine T.nil ?_
              refine T.then_normal ?_
              refine T.ret ?_
              obtain rfl := inv_some hr
              refine T.pick [] 11 rfl rfl (Nat.le_add_left _ _) rfl ?_
              refine T.ret1 rfl rfl (fun w hS => ⟨(), rfl, hS⟩)
          · replace hr := inv_negB hb5 hr
            refine T.leave .list (wantsNot rfl rfl rfl hb5) rfl ?_
            refine T.leave .list (wantsNot rfl rfl rfl hb5) rfl ?_
            refine T.leave .list (wantsNot rfl rfl rfl hb5) rfl ?_
            refine T.leave .list (wantsNot rfl rfl rfl hb5) rfl ?_
            refine T.leave .list (wantsNot rfl rfl rfl hb5) rfl ?_
            refine T.leave .list (wantsNot rfl rfl rfl hb5) rfl ?_
            refine T.pickF .list rfl (wants0 rfl) rfl rfl hb5 rfl ?_
            refine T.move .list rfl (wants0 rfl) rfl rfl ?_
            refine T.leave .list (wantsNot rfl rfl rfl rfl) rfl ?_
            refine T.leave .list (wantsNot rfl rfl rfl rfl) rfl ?_
            refine T.leave .list (wantsNot rfl rfl rfl rfl) rfl ?_
            refine T.leave .list (wantsNot rfl rfl rfl rfl) rfl ?_
            refine T.leave .list (wantsNot rfl rfl rfl rfl) rfl ?_
            refine T.leave .list (wantsNot rfl rfl rfl rfl) rfl ?_
            refine T.leave .list (wantsNot rfl rfl rfl rfl) rfl ?_
            refine T.leave .list (wantsNot rfl rfl rfl rfl) rfl ?_
            refine T.leave .list (wantsNot rfl rfl rfl rfl) rfl ?_
            refine T.leave .list (wantsNot rfl rfl rfl rfl) rfl ?_
            refine T.leave .list (wantsNot rfl rfl rfl rfl) rfl ?_
            refine T.pickF .list rfl (wants0 rfl) rfl rfl rfl rfl ?_
            refine T.assign .list rfl (wants0 rfl) rfl rfl ?_
            refine T.nil ?_
            refine T.then_normal ?_
            refine T.ret ?_
            obtain rfl := inv_some hr
            refine T.pick [] 9 rfl rfl (Nat.le_add_left _ _) rfl ?_
            refine T.ret1 rfl rfl (fun w hS => ⟨(), rfl, hS⟩)
        · replace hr := inv_negB hb4 hr
          refine T.leave .list (wantsNot rfl rfl rfl hb4) rfl ?_
          refine T.leave .list (wantsNot rfl rfl rfl hb4) rfl ?_
          refine T.leave .list (wantsNot rfl rfl rfl hb4) rfl ?_
          refine T.pickF .list rfl (wants0 rfl) rfl rfl hb4 rfl ?_
          refine T.move .list rfl (wants0 rfl) rfl rfl ?_
          refine T.leave .list (wantsNot rfl rfl rfl rfl) rfl ?_
          refine T.leave .list (wantsNot rfl rfl rfl rfl) rfl ?_
          refine T.leave .list (wantsNot rfl rfl rfl rfl) rfl ?_
          refine T.leave .list (wantsNot rfl rfl rfl rfl) rfl ?_
          refine T.leave .list (wantsNot rfl rfl rfl rfl) rfl ?_
          refine T.leave .list (wantsNot rfl rfl rfl rfl) rfl ?_
          refine T.pickF .list rfl (wants0 rfl) rfl rfl rfl rfl ?_
          refine T.move .list rfl (wants0 rfl) rfl rfl ?_
          refine T.leave .list (wantsNot rfl rfl rfl rfl) rfl ?_
          refine T.leave .list (wantsNot rfl rfl rfl rfl) rfl ?_
          refine T.leave .list (wantsNot rfl rfl rfl rfl) rfl ?_
          refine T.leave .list (wantsNot rfl rfl rfl rfl) rfl ?_
          refine T.leave .list (wantsNot rfl rfl rfl rfl) rfl ?_
          refine T.leave .list (wantsNot rfl rfl rfl rfl) rfl ?_
          refine T.leave .list (wantsNot rfl rfl rfl rfl) rfl ?_
          refine T.leave .list (wantsNot rfl rfl rfl rfl) rfl ?_
          refine T.leave .list (wantsNot rfl rfl rfl rfl) rfl ?_
          refine T.leave .list (wantsNot rfl rfl rfl rfl) rfl ?_
          refine T.leave .list (wantsNot rfl rfl rfl rfl) rfl ?_
          refine T.pickF .list rfl (wants0 rfl) rfl rfl rfl rfl ?_
          refine T.assign .list rfl (wants0 rfl) rfl rfl ?_
          refine T.nil ?_
          refine T.then_normal ?_
          refine T.ret ?_
          obtain rfl := inv_some hr
          refine T.pick [] 9 rfl rfl (Nat.le_add_left _ _) rfl ?_
          refine T.ret1 rfl rfl (fun w hS => ⟨(), rfl, hS⟩)
      · replace hr := inv_negB hb3 hr
        refine T.leave .list (wantsNot rfl rfl rfl hb3) rfl ?_
        refine T.leave .list (wantsNot rfl rfl rfl hb3) rfl ?_
        refine T.leave .list (wantsNot rfl rfl rfl hb3) rfl ?_
        refine T.pickF .list rfl (wants0 rfl) rfl rfl hb3 rfl ?_
        refine T.move .list rfl (wants0 rfl) rfl rfl ?_
        refine T.leave .list (wantsNot rfl rfl rfl rfl) rfl ?_
        refine T.leave .list (wantsNot rfl rfl rfl rfl) rfl ?_
        refine T.leave .list (wantsNot rfl rfl rfl rfl) rfl ?_
        refine T.pickF .list rfl (wants0 rfl) rfl rfl rfl rfl ?_
        refine T.move .list rfl (wants0 rfl) rfl rfl ?_
        refine T.leave .list (wantsNot rfl rfl rfl rfl) rfl ?_
        refine T.leave .list (wantsNot rfl rfl rfl rfl) rfl ?_
        refine T.leave .list (wantsNot rfl rfl rfl rfl) rfl ?_
        refine T.leave .list (wantsNot rfl rfl rfl rfl) rfl ?_
        refine T.leave .list (wantsNot rfl rfl rfl rfl) rfl ?_
        refine T.leave .list (wantsNot rfl rfl rfl rfl) rfl ?_
        refine T.pickF .list rfl (wants0 rfl) rfl rfl rfl rfl ?_
        refine T.move .list rfl (wants0 rfl) rfl rfl ?_
        refine T.leave .list (wantsNot rfl rfl rfl rfl) rfl ?_
        refine T.leave .list (wantsNot rfl rfl rfl rfl) rfl ?_
        refine T.leave .list (wantsNot rfl rfl rfl rfl) rfl ?_
        refine T.leave .list (wantsNot rfl rfl rfl rfl) rfl ?_
        refine T.leave .list (wantsNot rfl rfl rfl rfl) rfl ?_
        refine T.leave .list (wantsNot rfl rfl rfl rfl) rfl ?_
        refine T.leave .list (wantsNot rfl rfl rfl rfl) rfl ?_
        refine T.leave .list (wantsNot rfl rfl rfl rfl) rfl ?_
        refine T.leave .list (wantsNot rfl rfl rfl rfl) rfl ?_
        refine T.leave .list (wantsNot rfl rfl rfl rfl) rfl ?_
        refine T.leave .list (wantsNot rfl rfl rfl rfl) rfl ?_
        refine T.pickF .list rfl (wants0 rfl) rfl rfl rfl rfl ?_
        refine T.assign .list rfl (wants0 rfl) rfl rfl ?_
        refine T.nil ?_
        refine T.then_normal ?_
        refine T.ret ?_
        obtain rfl := inv_some hr
        refine T.pick [] 9 rfl rfl (Nat.le_add_left _ _) rfl ?_
        refine T.ret1 rfl rfl (fun w hS => ⟨(), rfl, hS⟩)
    · replace hr := inv_negB hb2 hr
      refine T.leave .list (wantsNot rfl rfl rfl hb2) rfl ?_
      refine T.leave .list (wantsNot rfl rfl rfl hb2) rfl ?_
      refine T.leave .list (wantsNot rfl rfl rfl hb2) rfl ?_
      refine T.pickF .list rfl (wants0 rfl) rfl rfl hb2 rfl ?_
      refine T.move .list rfl (wants0 rfl) rfl rfl ?_
      refine T.leave .list (wantsNot rfl rfl rfl rfl) rfl ?_
      refine T.leave .list (wantsNot rfl rfl rfl rfl) rfl ?_
      refine T.leave .list (wantsNot rfl rfl rfl rfl) rfl ?_
      refine T.pickF .list rfl (wants0 rfl) rfl rfl rfl rfl ?_
      refine T.move .list rfl (wants0 rfl) rfl rfl ?_
      refine T.leave .list (wantsNot rfl rfl rfl rfl) rfl ?_
      refine T.leave .list (wantsNot rfl rfl rfl rfl) rfl ?_
      refine T.leave .list (wantsNot rfl rfl rfl rfl) rfl ?_
      refine T.pickF .list rfl (wants0 rfl) rfl rfl rfl rfl ?_
      refine T.move .list rfl (wants0 rfl) rfl rfl ?_
      refine T.leave .list (wantsNot rfl rfl rfl rfl) rfl ?_
      refine T.leave .list (wantsNot rfl rfl rfl rfl) rfl ?_
      refine T.leave .list (wantsNot rfl rfl rfl rfl) rfl ?_
      refine T.leave .list (wantsNot rfl rfl rfl rfl) rfl ?_
      refine T.leave .list (wantsNot rfl rfl rfl rfl) rfl ?_
      refine T.leave .list (wantsNot rfl rfl rfl rfl) rfl ?_
      refine T.pickF .list rfl (wants0 rfl) rfl rfl rfl rfl ?_
      refine T.move .list rfl (wants0 rfl) rfl rfl ?_
      refine T.leave .list (wantsNot rfl rfl rfl rfl) rfl ?_
      refine T.leave .list (wantsNot rfl rfl rfl rfl) rfl ?_
      refine T.leave .list (wantsNot rfl rfl rfl rfl) rfl ?_
      refine T.leave .list (wantsNot rfl rfl rfl rfl) rfl ?_
      refine T.leave .list (wantsNot rfl rfl rfl rfl) rfl ?_
      refine T.leave .list (wantsNot rfl rfl rfl rfl) rfl ?_
      refine T.leave .list (wantsNot rfl rfl rfl rfl) rfl ?_
      refine T.leave .list (wantsNot rfl rfl rfl rfl) rfl ?_
      refine T.leave .list (wantsNot rfl rfl rfl rfl) rfl ?_
      refine T.leave .list (wantsNot rfl rfl rfl rfl) rfl ?_
      refine T.leave .list (wantsNot rfl rfl rfl rfl) rfl ?_
      refine T.pickF .list rfl (wants0 rfl) rfl rfl rfl rfl ?_
      refine T.assign .list rfl (wants0 rfl) rfl rfl ?_
      refine T.nil ?_
      refine T.then_normal ?_
      refine T.ret ?_
      obtain rfl := inv_some hr
      refine T.pick [] 9 rfl rfl (Nat.le_add_left _ _) rfl ?_
      refine T.ret1 rfl rfl (fun w hS => ⟨(), rfl, hS⟩)
  · replace hr := inv_negB hb1 hr
    refine T.leave .list (wantsNot rfl rfl rfl hb1) rfl ?_
    refine T.leave .list (wantsNot rfl rfl rfl hb1) rfl ?_
    refine T.leave .list (wantsNot rfl rfl rfl hb1) rfl ?_
    refine T.leave .list (wantsNot rfl rfl rfl hb1) rfl ?_
    refine T.leave .list (wantsNot rfl rfl rfl hb1) rfl ?_
    refine T.pickF .list rfl (wants0 rfl) rfl rfl hb1 rfl ?_
    refine T.move .list rfl (wants0 rfl) rfl rfl ?_
    refine T.leave .list (wantsNot rfl rfl rfl rfl) rfl ?_
    refine T.leave .list (wantsNot rfl rfl rfl rfl) rfl ?_
    refine T.leave .list (wantsNot rfl rfl rfl rfl) rfl ?_
    refine T.pickF .list rfl (wants0 rfl) rfl rfl rfl rfl ?_
    refine T.move .list rfl (wants0 rfl) rfl rfl ?_
    refine T.leave .list (wantsNot rfl rfl rfl rfl) rfl ?_
    refine T.leave .list (wantsNot rfl rfl rfl rfl) rfl ?_
    refine T.leave .list (wantsNot rfl rfl rfl rfl) rfl ?_
    refine T.pickF .list rfl (wants0 rfl) rfl rfl rfl rfl ?_
    refine T.move .list rfl (wants0 rfl) rfl rfl ?_
    refine T.leave .list (wantsNot rfl rfl rfl rfl) rfl ?_
    refine T.leave .list (wantsNot rfl rfl rfl rfl) rfl ?_
    refine T.leave .list (wantsNot rfl rfl rfl rfl) rfl ?_
    refine T.pickF .list rfl (wants0 rfl) rfl rfl rfl rfl ?_
    refine T.move .list rfl (wants0 rfl) rfl rfl ?_
    refine T.leave .list (wantsNot rfl rfl rfl rfl) rfl ?_
    refine T.leave .list (wantsNot rfl rfl rfl rfl) rfl ?_
    refine T.leave .list (wantsNot rfl rfl rfl rfl) rfl ?_
    refine T.leave .list (wantsNot rfl rfl rfl rfl) rfl ?_
    refine T.leave .list (wantsNot rfl rfl rfl rfl) rfl ?_
    refine T.leave .list (wantsNot rfl rfl rfl rfl) rfl ?_
    refine T.pickF .list rfl (wants0 rfl) rfl rfl rfl rfl ?_
    refine T.move .list rfl (wants0 rfl) rfl rfl ?_
    refine T.leave .list (wantsNot rfl rfl rfl rfl) rfl ?_
    refine T.leave .list (wantsNot rfl rfl rfl rfl) rfl ?_
    refine T.leave .list (wantsNot rfl rfl rfl rfl) rfl ?_
    refine T.leave .list (wantsNot rfl rfl rfl rfl) rfl ?_
    refine T.leave .list (wantsNot rfl rfl rfl rfl) rfl ?_
    refine T.leave .list (wantsNot rfl rfl rfl rfl) rfl ?_
    refine T.leave .list (wantsNot rfl rfl rfl rfl) rfl ?_
    refine T.leave .list (wantsNot rfl rfl rfl rfl) rfl ?_
    refine T.leave .list (wantsNot rfl rfl rfl rfl) rfl ?_
    refine T.leave .list (wantsNot rfl rfl rfl rfl) rfl ?_
    refine T.leave .list (wantsNot rfl rfl rfl rfl) rfl ?_
    refine T.pickF .list rfl (wants0 rfl) rfl rfl rfl rfl ?_
    refine T.assign .list rfl (wants0 rfl) rfl rfl ?_
    refine T.nil ?_
    refine T.then_normal ?_
    refine T.ret ?_
    obtain rfl := inv_some hr
    refine T.pick [] 9 rfl rfl (Nat.le_add_left _ _) rfl ?_
    refine T.ret1 rfl rfl (fun w hS => ⟨(), rfl, hS⟩)

noncomputable def law2_KeysOrder.k4 (r1 : (List (Int × Int × (List UInt8)))) (r2 : (List (Int × Int × (List UInt8)))) (s4 : Bool) : Option Bool :=
  (if s4 = true then some true else chk (0 ≤ (0 : Int) ∧ (0 : Int) < (r1.length : Int)) ((keys_Key.impl (([((r1).getD (0 : Int).toNat default)] : List (Int × Int × (List UInt8))))).bind fun r7 => chk (0 ≤ (0 : Int) ∧ (0 : Int) < (r2.length : Int)) ((keys_Key.impl (([((r2).getD (0 : Int).toNat default)] : List (Int × Int × (List UInt8))))).bind fun r8 => (if ((decide ((((r8.1.length : Int))) < ((r7.1.length : Int))))) = true then some true else chk (0 ≤ ((r7.1.length : Int)) ∧ ((r7.1.length : Int)) ≤ (r8.1.length : Int)) (some (!(decide ((subl r8.1 0 ((r7.1.length : Int))) = r7.1))))))))
noncomputable def law2_KeysOrder.k3 (r1 : (List (Int × Int × (List UInt8)))) (r2 : (List (Int × Int × (List UInt8)))) (s3 : Bool) : Option Bool :=
  (if s3 = true then some false else (if ((decide ((((r1.length : Int))) = 0))) = true then law2_KeysOrder.k4 r1 r2 true else (if ((decide ((((r2.length : Int))) = 0))) = true then law2_KeysOrder.k4 r1 r2 true else chk (0 ≤ (0 : Int) ∧ (0 : Int) < (r1.length : Int)) (chk (0 ≤ (0 : Int) ∧ (0 : Int) < (r2.length : Int)) (law2_KeysOrder.k4 r1 r2 (decide (((r1).getD (0 : Int).toNat default) = ((r2).getD (0 : Int).toNat default))))))))
noncomputable def law2_KeysOrder.k2 (r3 : List UInt8 × Int) (r1 : (List (Int × Int × (List UInt8)))) (r2 : (List (Int × Int × (List UInt8)))) (s2 : Bool) : Option Bool :=
  (if s2 = true then some false else (keys_Read.impl r3.1).bind fun r6 => (if ((decide (r6.2 = 0))) = true then (ref2_Same.impl r6.1 r1).bind fun r9 => law2_KeysOrder.k3 r1 r2 (!r9) else law2_KeysOrder.k3 r1 r2 true))
noncomputable def law2_KeysOrder.k1 (r5 : Int) (r3 : List UInt8 × Int) (r4 : List UInt8 × Int) (r1 : (List (Int × Int × (List UInt8)))) (r2 : (List (Int × Int × (List UInt8)))) (s1 : Bool) : Option Bool :=
  (if s1 = true then some false else (if ((decide ((decide (r5 < 0)) = (Op.bytesLess r3.1 r4.1)))) = true then (if ((decide ((decide (r5 = 0)) = (decide (r3.1 = r4.1))))) = true then (ref2_Same.impl r1 r2).bind fun r10 => law2_KeysOrder.k2 r3 r1 r2 (!(decide ((decide (r5 = 0)) = r10))) else law2_KeysOrder.k2 r3 r1 r2 true) else law2_KeysOrder.k2 r3 r1 r2 true))
noncomputable def law2_KeysOrder.impl (l0 : List (Int × Int × (List UInt8))) (l1 : List (Int × Int × (List UInt8))) : Option Bool :=
  (law2_right.impl l0).bind fun r1 => (law2_right.impl l1).bind fun r2 => (keys_Key.impl r1).bind fun r3 => (keys_Key.impl r2).bind fun r4 => (keys_Compare.impl r1 r2).bind fun r5 => (law2_told.impl ).bind fun r11 => (if r11 = true then (if ((decide (r3.2 = 0))) = true then (if ((decide (r4.2 = 0))) = true then (ref2_Compare.impl r1 r2).bind fun r12 => (if ((decide (r5 = r12))) = true then (keys_Compare.impl r2 r1).bind fun r13 => law2_KeysOrder.k1 r5 r3 r4 r1 r2 (!(decide (r13 = (IntKind.i64.wrap (0 - r5))))) else law2_KeysOrder.k1 r5 r3 r4 r1 r2 true) else law2_KeysOrder.k1 r5 r3 r4 r1 r2 true) else law2_KeysOrder.k1 r5 r3 r4 r1 r2 true) else law2_KeysOrder.k1 r5 r3 r4 r1 r2 true)
set_option maxRecDepth 100000 in
set_option maxHeartbeats 1000000 in
theorem law2_KeysOrder.c {B : World} {hs : List MP} {w : World} {i0 c0 : Nat} {A0 : Option Addr} {l0 : List (Int × Int × (List UInt8))} {i1 c1 : Nat} {A1 : Option Addr} {l1 : List (Int × Int × (List UInt8))} (hB : Base B) (hS : St B (hs) w) (h0 : (hs)[i0]? = some (Ro (Elt.pair E64 (Elt.pair E64 EStr)) A0 c0 l0)) (h1 : (hs)[i1]? = some (Ro (Elt.pair E64 (Elt.pair E64 EStr)) A1 c1 l1)) {r : Bool} (hr : law2_KeysOrder.impl l0 l1 = some r) :
    Calls Tryd.prog 5 #[.slice A0 l0.length c0, .slice A1 l1.length c1] w fun e w' => ∃ x : Unit, e = .returned (.bool r) ∧ St B (hs) w' := by
  unfold law2_KeysOrder.impl at hr
  refine calls_T Tryd.func5 rfl rfl rfl hS ?_
  refine T.front i0 h0 ?_
  refine T.front (i1 + 1) h1 ?_
  refine T.seq ?_
  refine T.region ?_
  refine T.assign .list rfl (wants0 rfl) rfl rfl ?_
  refine T.nil ?_
  refine T.then_normal ?_
  refine T.seq ?_
  refine T.region ?_
  refine T.move .list rfl (wants0 rfl) rfl rfl ?_
  obtain ⟨r1, hg1, hr⟩ := inv_bind hr
  refine T.call .list (wants0 rfl) rfl (run_callF (vs := [_]) rfl Tryd.func21 rfl (by decide) rfl) (fun w hS => law2_right.c hB hS (i0 := 1) rfl hg1) (fun x1 => ?_)
  refine T.move .list rfl (wants0 rfl) rfl rfl ?_
  obtain ⟨r2, hg2, hr⟩ := inv_bind hr
  refine T.call .list (wants0 rfl) rfl (run_callF (vs := [_]) rfl Tryd.func21 rfl (by decide) rfl) (fun w hS => law2_right.c hB hS (i0 := 1) rfl hg2) (fun x2 => ?_)
  refine T.assign .list rfl (wants0 rfl) rfl rfl ?_
  refine T.assign .list rfl (wants0 rfl) rfl rfl ?_
  refine T.nil ?_
  refine T.then_normal ?_
  refine T.seq ?_
  refine T.region ?_
  refine T.move .list rfl (wants0 rfl) rfl rfl ?_
  refine T.freeze 1 rfl rfl rfl ?_
  obtain ⟨r3, hg3, hr⟩ := inv_bind hr
  refine T.call .list (wants0 rfl) rfl (run_callF (vs := [_]) rfl Tryd.func16 rfl (by decide) rfl) (fun w hS => keys_Key.c hB hS (i0 := 1) rfl hg3) (fun x3 => ?_)
  refine T.move .list rfl (wants0 rfl) rfl rfl ?_
  refine T.extract .list rfl (wants0 rfl) rfl rfl rfl ?_
  refine T.extract .list rfl (wants0 rfl) rfl rfl rfl ?_
  refine T.assign .list rfl (wants0 rfl) rfl rfl ?_
  refine T.assign .list rfl (wants0 rfl) rfl rfl ?_
  refine T.nil ?_
  refine T.then_normal ?_
  refine T.seq ?_
  refine T.region ?_
  refine T.move .list rfl (wants0 rfl) rfl rfl ?_
  refine T.freeze 1 rfl rfl rfl ?_
  obtain ⟨r4, hg4, hr⟩ := inv_bind hr
  refine T.call .list (wants0 rfl) rfl (run_callF (vs := [_]) rfl Tryd.func16 rfl (by decide) rfl) (fun w hS => keys_Key.c hB hS (i0 := 1) rfl hg4) (fun x4 => ?_)
  refine T.move .list rfl (wants0 rfl) rfl rfl ?_
  refine T.extract .list rfl (wants0 rfl) rfl rfl rfl ?_
  refine T.extract .list rfl (wants0 rfl) rfl rfl rfl ?_
  refine T.assign .list rfl (wants0 rfl) rfl rfl ?_
  refine T.assign .list rfl (wants0 rfl) rfl rfl ?_
  refine T.nil ?_
  refine T.then_normal ?_
  refine T.seq ?_
  refine T.region ?_
  refine T.move .list rfl (wants0 rfl) rfl rfl ?_
  refine T.move .list rfl (wants0 rfl) rfl rfl ?_
  obtain ⟨r5, hg5, hr⟩ := inv_bind hr
  refine T.call .list (wants0 rfl) rfl (run_callF (vs := [_, _]) rfl Tryd.func22 rfl (by decide) rfl) (fun w hS => keys_Compare.c hB hS (i0 := 3) (i1 := 2) rfl rfl hg5) (fun x5 => ?_)
  refine T.assign .list rfl (wants0 rfl) rfl rfl ?_
  refine T.nil ?_
  refine T.then_normal ?_
  refine T.seq ?_
  refine T.seqJ (fun (s1 : Bool) (x6 : Unit) => [(5, .slice x1.1 r1.length x1.2), (6, .slice x2.1 r2.length x2.2), (7, .slice x3.1 r3.1.length x3.2), (9, .slice x4.1 r4.1.length x4.2), (11, .int .i64 r5), (59, .bool s1)]) (fun s1 x6 => Ro (Elt.pair E64 (Elt.pair E64 EStr)) x1.1 x1.2 r1 :: Ro (Elt.pair E64 (Elt.pair E64 EStr)) x2.1 x2.2 r2 :: Bf E8 5 x3.1 x3.2 r3.1 :: Bf E8 5 x4.1 x4.2 r4.1 :: hs) (fun s1 => law2_KeysOrder.k1 r5 r3 r4 r1 r2 s1 = some r) (fun s1 x6 hk1 => ?_) (fun J1 => ?_)
  · unfold law2_KeysOrder.k1 at hk1
    refine T.cond rfl (fun hb1 => ?_) (fun hb1 => ?_)
    · replace hk1 := inv_posB hb1 hk1
      refine T.seq ?_
      refine T.region ?_
      refine T.assign .list rfl (wants0 rfl) rfl rfl ?_
      refine T.nil ?_
      refine T.then_normal ?_
      refine T.ret ?_
      refine T.then_ret ?_
      obtain rfl := inv_some hk1
      refine T.pick [] 4 rfl rfl (Nat.le_add_left _ _) rfl ?_
      refine T.ret1 rfl rfl (fun w hS => ⟨(), rfl, hS⟩)
    · replace hk1 := inv_negB hb1 hk1
      refine T.skip ?_
      refine T.then_normal ?_
      refine T.seq ?_
      refine T.seqJ (fun (s2 : Bool) (x7 : Unit) => [(5, .slice x1.1 r1.length x1.2), (6, .slice x2.1 r2.length x2.2), (7, .slice x3.1 r3.1.length x3.2), (85, .bool s2)]) (fun s2 x7 => Ro (Elt.pair E64 (Elt.pair E64 EStr)) x1.1 x1.2 r1 :: Ro (Elt.pair E64 (Elt.pair E64 EStr)) x2.1 x2.2 r2 :: Bf E8 5 x3.1 x3.2 r3.1 :: hs) (fun s2 => law2_KeysOrder.k2 r3 r1 r2 s2 = some r) (fun s2 x7 hk2 => ?_) (fun J2 => ?_)
      · unfold law2_KeysOrder.k2 at hk2
        refine T.cond rfl (fun hb2 => ?_) (fun hb2 => ?_)
        · replace hk2 := inv_posB hb2 hk2
          refine T.seq ?_
          refine T.region ?_
          refine T.assign .list rfl (wants0 rfl) rfl rfl ?_
          refine T.nil ?_
          refine T.then_normal ?_
          refine T.ret ?_
          refine T.then_ret ?_
          obtain rfl := inv_some hk2
          refine T.pick [] 3 rfl rfl (Nat.le_add_left _ _) rfl ?_
          refine T.ret1 rfl rfl (fun w hS => ⟨(), rfl, hS⟩)
        · replace hk2 := inv_negB hb2 hk2
          refine T.skip ?_
          refine T.then_normal ?_
          refine T.seq ?_
          refine T.region ?_
          refine T.move .list rfl (wants0 rfl) rfl rfl ?_
          refine T.freeze 2 rfl rfl rfl ?_
          obtain ⟨r6, hg6, hk2⟩ := inv_bind hk2
          refine T.call .list (wants0 rfl) rfl (run_callF (vs := [_]) rfl Tryd.func18 rfl (by decide) rfl) (fun w hS => keys_Read.c hB hS (i0 := 2) rfl hg6) (fun x8 => ?_)
          refine T.move .list rfl (wants0 rfl) rfl rfl ?_
          refine T.extract .list rfl (wants0 rfl) rfl rfl rfl ?_
          refine T.extract .list rfl (wants0 rfl) rfl rfl rfl ?_
          refine T.assign .list rfl (wants0 rfl) rfl rfl ?_
          refine T.assign .list rfl (wants0 rfl) rfl rfl ?_
          refine T.nil ?_
          refine T.then_normal ?_
          refine T.seq ?_
          refine T.seqJ (fun (s3 : Bool) (x9 : Unit) => [(5, .slice x1.1 r1.length x1.2), (6, .slice x2.1 r2.length x2.2), (98, .bool s3)]) (fun s3 x9 => Ro (Elt.pair E64 (Elt.pair E64 EStr)) x1.1 x1.2 r1 :: Ro (Elt.pair E64 (Elt.pair E64 EStr)) x2.1 x2.2 r2 :: hs) (fun s3 => law2_KeysOrder.k3 r1 r2 s3 = some r) (fun s3 x9 hk3 => ?_) (fun J3 => ?_)
          · unfold law2_KeysOrder.k3 at hk3
            refine T.cond rfl (fun hb3 => ?_) (fun hb3 => ?_)
            · replace hk3 := inv_posB hb3 hk3
              refine T.seq ?_
              refine T.region ?_
              refine T.assign .list rfl (wants0 rfl) rfl rfl ?_
              refine T.nil ?_
              refine T.then_normal ?_
              refine T.ret ?_
              refine T.then_ret ?_
              obtain rfl := inv_some hk3
              refine T.pick [] 2 rfl rfl (Nat.le_add_left _ _) rfl ?_
              refine T.ret1 rfl rfl (fun w hS => ⟨(), rfl, hS⟩)
            · replace hk3 := inv_negB hb3 hk3
              refine T.skip ?_
              refine T.then_normal ?_
              refine T.seq ?_
              refine T.seqJ (fun (s4 : Bool) (x10 : Unit) => [(5, .slice x1.1 r1.length x1.2), (6, .slice x2.1 r2.length x2.2), (115, .bool s4)]) (fun s4 x10 => Ro (Elt.pair E64 (Elt.pair E64 EStr)) x1.1 x1.2 r1 :: Ro (Elt.pair E64 (Elt.pair E64 EStr)) x2.1 x2.2 r2 :: hs) (fun s4 => law2_KeysOrder.k4 r1 r2 s4 = some r) (fun s4 x10 hk4 => ?_) (fun J4 => ?_)
              · unfold law2_KeysOrder.k4 at hk4
                refine T.cond rfl (fun hb4 => ?_) (fun hb4 => ?_)
                · replace hk4 := inv_posB hb4 hk4
                  refine T.seq ?_
                  refine T.region ?_
                  refine T.assign .list rfl (wants0 rfl) rfl rfl ?_
                  refine T.nil ?_
                  refine T.then_normal ?_
                  refine T.ret ?_
                  refine T.then_ret ?_
                  obtain rfl := inv_some hk4
                  refine T.pick [] 2 rfl rfl (Nat.le_add_left _ _) rfl ?_
                  refine T.ret1 rfl rfl (fun w hS => ⟨(), rfl, hS⟩)
                · replace hk4 := inv_negB hb4 hk4
                  refine T.skip ?_
                  refine T.then_normal ?_
                  refine T.seq ?_
                  refine T.region ?_
                  refine T.move .list rfl (wants0 rfl) rfl rfl ?_
                  obtain ⟨hc1, hk4⟩ := inv_chk hk4
                  refine T.idxRo .list 0 rfl rfl (wants0 rfl) rfl rfl rfl hc1.1 hc1.2 (Nat.le_refl _) ?_
                  refine T.ldFRo 0 .list Fd.self (Sh.pair Sh.sc (Sh.pair Sh.sc Sh.sc)) rfl (.inl rfl) rfl rfl hc1.1 hc1.2 rfl (wants0 rfl) rfl rfl rfl (v := fun x11 => .agg #[.int .i64 (((((r1).getD (0 : Int).toNat default)).1)), .int .i64 (((((r1).getD (0 : Int).toNat default)).2.1)), str (((((r1).getD (0 : Int).toNat default)).2.2))]) (hs' := fun x11 => Ro (Elt.pair E64 (Elt.pair E64 EStr)) x1.1 x1.2 r1 :: Ro (Elt.pair E64 (Elt.pair E64 EStr)) x2.1 x2.2 r2 :: hs) (fun _ => rfl) (fun _ => rfl) (fun x11 => ?_)
                  refine T.lit (E := Elt.pair E64 (Elt.pair E64 EStr)) .list (vals := [(0, .agg #[.int .i64 (((((r1).getD (0 : Int).toNat default)).1)), .int .i64 (((((r1).getD (0 : Int).toNat default)).2.1)), str (((((r1).getD (0 : Int).toNat default)).2.2))])]) (cells := #[.int .i64 (((((r1).getD (0 : Int).toNat default)).1)), .int .i64 (((((r1).getD (0 : Int).toNat default)).2.1)), str (((((r1).getD (0 : Int).toNat default)).2.2))]) rfl (wants0 rfl) rfl rfl rfl rfl rfl (by kernel_rfl) ([((r1).getD (0 : Int).toNat default)] : List (Int × Int × (List UInt8))) rfl (fun _ _ _ _ ho => (Has.encs ho (Has.pair (Has.sc rfl) (Has.pair (Has.sc rfl) (Has.sc rfl) rfl) rfl) rfl rfl)) (fun b1 => ?_)
                  refine T.freeze 0 rfl rfl rfl ?_
                  obtain ⟨r7, hg7, hk4⟩ := inv_bind hk4
                  refine T.call .list (wants0 rfl) rfl (run_callF (vs := [_]) rfl Tryd.func16 rfl (by decide) rfl) (fun w hS => keys_Key.c hB hS (i0 := 0) rfl hg7) (fun x12 => ?_)
                  refine T.move .list rfl (wants0 rfl) rfl rfl ?_
                  refine T.extract .list rfl (wants0 rfl) rfl rfl rfl ?_
                  refine T.extract .list rfl (wants0 rfl) rfl rfl rfl ?_
                  refine T.assign .list rfl (wants0 rfl) rfl rfl ?_
                  refine T.assign .list rfl (wants0 rfl) rfl rfl ?_
                  refine T.nil ?_
                  refine T.then_normal ?_
                  refine T.seq ?_
                  refine T.region ?_
                  refine T.move .list rfl (wants0 rfl) rfl rfl ?_
                  obtain ⟨hc2, hk4⟩ := inv_chk hk4
                  refine T.idxRo .list 3 rfl rfl (wants0 rfl) rfl rfl rfl hc2.1 hc2.2 (Nat.le_refl _) ?_
                  refine T.ldFRo 3 .list Fd.self (Sh.pair Sh.sc (Sh.pair Sh.sc Sh.sc)) rfl (.inl rfl) rfl rfl hc2.1 hc2.2 rfl (wants0 rfl) rfl rfl rfl (v := fun x13 => .agg #[.int .i64 (((((r2).getD (0 : Int).toNat default)).1)), .int .i64 (((((r2).getD (0 : Int).toNat default)).2.1)), str (((((r2).getD (0 : Int).toNat default)).2.2))]) (hs' := fun x13 => Bf E8 5 x12.1 x12.2 r7.1 :: Ro (Elt.pair E64 (Elt.pair E64 EStr)) (some ⟨b1, 0, none⟩) 1 (([((r1).getD (0 : Int).toNat default)] : List (Int × Int × (List UInt8)))) :: Ro (Elt.pair E64 (Elt.pair E64 EStr)) x1.1 x1.2 r1 :: Ro (Elt.pair E64 (Elt.pair E64 EStr)) x2.1 x2.2 r2 :: hs) (fun _ => rfl) (fun _ => rfl) (fun x13 => ?_)
                  refine T.lit (E := Elt.pair E64 (Elt.pair E64 EStr)) .list (vals := [(0, .agg #[.int .i64 (((((r2).getD (0 : Int).toNat default)).1)), .int .i64 (((((r2).getD (0 : Int).toNat default)).2.1)), str (((((r2).getD (0 : Int).toNat default)).2.2))])]) (cells := #[.int .i64 (((((r2).getD (0 : Int).toNat default)).1)), .int .i64 (((((r2).getD (0 : Int).toNat default)).2.1)), str (((((r2).getD (0 : Int).toNat default)).2.2))]) rfl (wants0 rfl) rfl rfl rfl rfl rfl (by kernel_rfl) ([((r2).getD (0 : Int).toNat default)] : List (Int × Int × (List UInt8))) rfl (fun _ _ _ _ ho => (Has.encs ho (Has.pair (Has.sc rfl) (Has.pair (Has.sc rfl) (Has.sc rfl) rfl) rfl) rfl rfl)) (fun b2 => ?_)
                  refine T.freeze 0 rfl rfl rfl ?_
                  obtain ⟨r8, hg8, hk4⟩ := inv_bind hk4
                  refine T.call .list (wants0 rfl) rfl (run_callF (vs := [_]) rfl Tryd.func16 rfl (by decide) rfl) (fun w hS => keys_Key.c hB hS (i0 := 0) rfl hg8) (fun x14 => ?_)
                  refine T.move .list rfl (wants0 rfl) rfl rfl ?_
                  refine T.extract .list rfl (wants0 rfl) rfl rfl rfl ?_
                  refine T.extract .list rfl (wants0 rfl) rfl rfl rfl ?_
                  refine T.assign .list rfl (wants0 rfl) rfl rfl ?_
                  refine T.assign .list rfl (wants0 rfl) rfl rfl ?_
                  refine T.nil ?_
                  refine T.then_normal ?_
                  refine T.seq ?_
                  refine T.plan [(0, 0), (1, 0), (2, 0), (3, 0), (4, 0), (5, 0), (6, 0), (7, 0), (8, 0), (9, 0), (11, 0), (10, 1), (12, 1), (13, 0), (14, 0), (15, 0)] mixed (by kernel_rfl) (by kernel_rfl) rfl (fun d _ _ _ _ h => by cases d <;> exact h) ?_
                  refine T.move (.plan rfl) rfl (wants0 rfl) rfl rfl ?_
                  refine T.lenSlice (.plan rfl) rfl (wants0 rfl) rfl rfl ?_
                  refine T.move (.plan rfl) rfl (wants0 rfl) rfl rfl ?_
                  refine T.lenSlice (.plan rfl) rfl (wants0 rfl) rfl rfl ?_
                  refine T.bin (.plan rfl) rfl (wants0 rfl) rfl rfl rfl rfl ?_
                  refine T.move (.plan rfl) rfl (wants0 rfl) rfl rfl ?_
                  refine T.bool (b := (decide ((((r8.1.length : Int))) < ((r7.1.length : Int))))) (fun hb5 => ?_) (fun hb5 => ?_)
                  · replace hk4 := inv_posB hb5 hk4
                    refine T.leave (.plan rfl) (wantsNot rfl rfl rfl hb5) rfl ?_
                    refine T.leave (.plan rfl) (wantsNot rfl rfl rfl hb5) rfl ?_
                    refine T.leave (.plan rfl) (wantsNot rfl rfl rfl hb5) rfl ?_
                    refine T.leave (.plan rfl) (wantsNot rfl rfl rfl hb5) rfl ?_
                    refine T.leave (.plan rfl) (wantsNot rfl rfl rfl hb5) rfl ?_
                    refine T.leave (.plan rfl) (wantsNot rfl rfl rfl hb5) rfl ?_
                    refine T.leave (.plan rfl) (wantsNot rfl rfl rfl hb5) rfl ?_
                    refine T.leave (.plan rfl) (wantsNot rfl rfl rfl hb5) rfl ?_
                    refine T.pickT (.plan rfl) rfl (wants0 rfl) rfl rfl hb5 rfl ?_
                    refine T.assign (.plan rfl) rfl (wants0 rfl) rfl rfl ?_
                    refine T.planEnd ?_
                    refine T.then_normal ?_
                    refine T.ret ?_
                    obtain rfl := inv_some hk4
                    refine T.pick [] 6 rfl rfl (Nat.le_add_left _ _) rfl ?_
                    refine T.ret1 rfl rfl (fun w hS => ⟨(), rfl, hS⟩)
                  · replace hk4 := inv_negB hb5 hk4
                    refine T.move (.plan rfl) rfl (wants1 rfl rfl rfl hb5) rfl rfl ?_
                    refine T.move (.plan rfl) rfl (wants1 rfl rfl rfl hb5) rfl rfl ?_
                    refine T.lenSlice (.plan rfl) rfl (wants1 rfl rfl rfl hb5) rfl rfl ?_
                    obtain ⟨hc3, hk4⟩ := inv_chk hk4
                    refine T.cut0Bf (.plan rfl) 0 rfl rfl rfl (wants1 rfl rfl rfl hb5) rfl rfl (.inl rfl) (.inr ⟨_, _, rfl, rfl⟩) hc3.1 hc3.2 ?_
                    refine T.move (.plan rfl) rfl (wants1 rfl rfl rfl hb5) rfl rfl ?_
                    refine T.freeze 0 rfl rfl rfl ?_
                    refine T.viewRo 0 (b := (r7.1.length : Int)) rfl ?_
                    refine T.strRo (.plan rfl) 0 rfl rfl (wants1 rfl rfl rfl hb5) rfl rfl rfl ?_
                    refine T.strBf (.plan rfl) 3 rfl rfl (wants1 rfl rfl rfl hb5) rfl rfl rfl ?_
                    refine T.strNe (.plan rfl) rfl (wants1 rfl rfl rfl hb5) rfl (l := (subl r8.1 0 ((r7.1.length : Int)))) (l' := r7.1) rfl rfl ?_
                    refine T.pickF (.plan rfl) rfl (wants0 rfl) rfl rfl hb5 rfl ?_
                    refine T.assign (.plan rfl) rfl (wants0 rfl) rfl rfl ?_
                    refine T.planEnd ?_
                    refine T.then_normal ?_
                    refine T.ret ?_
                    obtain rfl := inv_some hk4
                    refine T.pick [] 7 rfl rfl (Nat.le_add_left _ _) rfl ?_
                    refine T.ret1 rfl rfl (fun w hS => ⟨(), rfl, hS⟩)
              · refine T.plan [(0, 0), (1, 0), (2, 0), (3, 0), (4, 0), (5, 0), (6, 0), (7, 0), (8, 0), (9, 0), (10, 0), (12, 0), (13, 0), (11, 1), (14, 1), (15, 0), (16, 0)] mixed (by kernel_rfl) (by kernel_rfl) rfl (fun d _ _ _ _ h => by cases d <;> exact h) ?_
                refine T.move (.plan rfl) rfl (wants0 rfl) rfl rfl ?_
                refine T.lenSlice (.plan rfl) rfl (wants0 rfl) rfl rfl ?_
                refine T.bin (.plan rfl) rfl (wants0 rfl) rfl rfl rfl rfl ?_
                refine T.move (.plan rfl) rfl (wants0 rfl) rfl rfl ?_
                refine T.bool (b := (decide ((((r1.length : Int))) = 0))) (fun hb6 => ?_) (fun hb6 => ?_)
                · replace hk3 := inv_posB hb6 hk3
                  refine T.leave (.plan rfl) (wantsNot rfl rfl rfl hb6) rfl ?_
                  refine T.leave (.plan rfl) (wantsNot rfl rfl rfl hb6) rfl ?_
                  refine T.leave (.plan rfl) (wantsNot rfl rfl rfl hb6) rfl ?_
                  refine T.pickT (.plan rfl) rfl (wants0 rfl) rfl rfl hb6 rfl ?_
                  refine T.move (.plan rfl) rfl (wants0 rfl) rfl rfl ?_
                  refine T.leave (.plan rfl) (wantsNot rfl rfl rfl rfl) rfl ?_
                  refine T.leave (.plan rfl) (wantsNot rfl rfl rfl rfl) rfl ?_
                  refine T.leave (.plan rfl) (wantsNot rfl rfl rfl rfl) rfl ?_
                  refine T.leave (.plan rfl) (wantsNot rfl rfl rfl rfl) rfl ?_
                  refine T.leave (.plan rfl) (wantsNot rfl rfl rfl rfl) rfl ?_
                  refine T.leave (.plan rfl) (wantsNot rfl rfl rfl rfl) rfl ?_
                  refine T.leave (.plan rfl) (wantsNot rfl rfl rfl rfl) rfl ?_
                  refine T.pickT (.plan rfl) rfl (wants0 rfl) rfl rfl rfl rfl ?_
                  refine T.planEnd ?_
                  refine T.then_normal ?_
                  exact T.le (EnvLe.cons rfl (EnvLe.cons rfl (EnvLe.cons rfl EnvLe.nil))) (T.pick [0, 1] 2 rfl rfl (Nat.le_add_left _ _) rfl (J4 true () hk3))
                · replace hk3 := inv_negB hb6 hk3
                  refine T.move (.plan rfl) rfl (wants1 rfl rfl rfl hb6) rfl rfl ?_
                  refine T.lenSlice (.plan rfl) rfl (wants1 rfl rfl rfl hb6) rfl rfl ?_
                  refine T.bin (.plan rfl) rfl (wants1 rfl rfl rfl hb6) rfl rfl rfl rfl ?_
                  refine T.pickF (.plan rfl) rfl (wants0 rfl) rfl rfl hb6 rfl ?_
                  refine T.move (.plan rfl) rfl (wants0 rfl) rfl rfl ?_
                  refine T.bool (b := (decide ((((r2.length : Int))) = 0))) (fun hb7 => ?_) (fun hb7 => ?_)
                  · replace hk3 := inv_posB hb7 hk3
                    refine T.leave (.plan rfl) (wantsNot rfl rfl rfl hb7) rfl ?_
                    refine T.leave (.plan rfl) (wantsNot rfl rfl rfl hb7) rfl ?_
                    refine T.leave (.plan rfl) (wantsNot rfl rfl rfl hb7) rfl ?_
                    refine T.leave (.plan rfl) (wantsNot rfl rfl rfl hb7) rfl ?_
                    refine T.leave (.plan rfl) (wantsNot rfl rfl rfl hb7) rfl ?_
                    refine T.leave (.plan rfl) (wantsNot rfl rfl rfl hb7) rfl ?_
                    refine T.leave (.plan rfl) (wantsNot rfl rfl rfl hb7) rfl ?_
                    refine T.pickT (.plan rfl) rfl (wants0 rfl) rfl rfl hb7 rfl ?_
                    refine T.planEnd ?_
                    refine T.then_normal ?_
                    exact T.le (EnvLe.cons rfl (EnvLe.cons rfl (EnvLe.cons rfl EnvLe.nil))) (T.pick [0, 1] 2 rfl rfl (Nat.le_add_left _ _) rfl (J4 true () hk3))
                  · replace hk3 := inv_negB hb7 hk3
                    refine T.move (.plan rfl) rfl (wants1 rfl rfl rfl hb7) rfl rfl ?_
                    obtain ⟨hc4, hk3⟩ := inv_chk hk3
                    refine T.idxRo (.plan rfl) 0 rfl rfl (wants1 rfl rfl rfl hb7) rfl rfl rfl hc4.1 hc4.2 (Nat.le_refl _) ?_
                    refine T.move (.plan rfl) rfl (wants1 rfl rfl rfl hb7) rfl rfl ?_
                    obtain ⟨hc5, hk3⟩ := inv_chk hk3
                    refine T.idxRo (.plan rfl) 1 rfl rfl (wants1 rfl rfl rfl hb7) rfl rfl rfl hc5.1 hc5.2 (Nat.le_refl _) ?_
                    refine T.ldFRo 0 (.plan rfl) Fd.self (Sh.pair Sh.sc (Sh.pair Sh.sc Sh.sc)) rfl (.inl rfl) rfl rfl hc4.1 hc4.2 rfl (wants1 rfl rfl rfl hb7) rfl rfl rfl (v := fun x15 => .agg #[.int .i64 (((((r1).getD (0 : Int).toNat default)).1)), .int .i64 (((((r1).getD (0 : Int).toNat default)).2.1)), str (((((r1).getD (0 : Int).toNat default)).2.2))]) (hs' := fun x15 => Ro (Elt.pair E64 (Elt.pair E64 EStr)) x1.1 x1.2 r1 :: Ro (Elt.pair E64 (Elt.pair E64 EStr)) x2.1 x2.2 r2 :: hs) (fun _ => rfl) (fun _ => rfl) (fun x15 => ?_)
                    refine T.ldFRo 1 (.plan rfl) Fd.self (Sh.pair Sh.sc (Sh.pair Sh.sc Sh.sc)) rfl (.inl rfl) rfl rfl hc5.1 hc5.2 rfl (wants1 rfl rfl rfl hb7) rfl rfl rfl (v := fun x16 => .agg #[.int .i64 (((((r2).getD (0 : Int).toNat default)).1)), .int .i64 (((((r2).getD (0 : Int).toNat default)).2.1)), str (((((r2).getD (0 : Int).toNat default)).2.2))]) (hs' := fun x16 => Ro (Elt.pair E64 (Elt.pair E64 EStr)) x1.1 x1.2 r1 :: Ro (Elt.pair E64 (Elt.pair E64 EStr)) x2.1 x2.2 r2 :: hs) (fun _ => rfl) (fun _ => rfl) (fun x16 => ?_)
                    refine T.eqS (.plan rfl) rfl (wants1 rfl rfl rfl hb7) rfl rfl rfl (by kernel_rfl) (by kernel_rfl) (by kernel_rfl) (l := [(3, 0), (3, 1), (9, 2)]) (by kernel_rfl) (.int rfl rfl (.int rfl rfl (.str rfl rfl .nil))) (b' := (decide (((r1).getD (0 : Int).toNat default) = ((r2).getD (0 : Int).toNat default)))) (by rw [Bool.eq_iff_iff]; simp [Prod.ext_iff]) ?_
                    refine T.pickF (.plan rfl) rfl (wants0 rfl) rfl rfl hb7 rfl ?_
                    refine T.planEnd ?_
                    refine T.then_normal ?_
                    exact T.le (EnvLe.cons rfl (EnvLe.cons rfl (EnvLe.cons rfl EnvLe.nil))) (T.pick [0, 1] 2 rfl rfl (Nat.le_add_left _ _) rfl (J4 (decide (((r1).getD (0 : Int).toNat default) = ((r2).getD (0 : Int).toNat default))) () hk3))
          · refine T.region ?_
            refine T.move .list rfl (wants0 rfl) rfl rfl ?_
            refine T.bin .list rfl (wants0 rfl) rfl rfl rfl rfl ?_
            refine T.move .list rfl (wants0 rfl) rfl rfl ?_
            refine T.bool (b := (decide (r6.2 = 0))) (fun hb8 => ?_) (fun hb8 => ?_)
            · replace hk2 := inv_posB hb8 hk2
              refine T.move .list rfl (wants1 rfl rfl rfl (not_t hb8)) rfl rfl ?_
              refine T.move .list rfl (wants1 rfl rfl rfl (not_t hb8)) rfl rfl ?_
              refine T.freeze 0 rfl rfl rfl ?_
              obtain ⟨r9, hg9, hk2⟩ := inv_bind hk2
              refine T.call .list (wants1 rfl rfl rfl (not_t hb8)) rfl (run_callF (vs := [_, _]) rfl Tryd.func20 rfl (by decide) rfl) (fun w hS => ref2_Same.c hB hS (i0 := 0) (i1 := 1) rfl rfl hg9) (fun x17 => ?_)
              refine T.not .list rfl (wants1 rfl rfl rfl (not_t hb8)) rfl rfl ?_
              refine T.pickF .list rfl (wants0 rfl) rfl rfl (not_t hb8) rfl ?_
              refine T.nil ?_
              refine T.then_normal ?_
              exact T.le (EnvLe.cons rfl (EnvLe.cons rfl (EnvLe.cons rfl EnvLe.nil))) (T.pick [1, 2] 4 rfl rfl (Nat.le_add_left _ _) rfl (J3 (!r9) () hk2))
            · replace hk2 := inv_negB hb8 hk2
              refine T.leave .list (wantsNot rfl rfl rfl (not_f hb8)) rfl ?_
              refine T.leave .list (wantsNot rfl rfl rfl (not_f hb8)) rfl ?_
              refine T.leave .list (wantsNot rfl rfl rfl (not_f hb8)) rfl ?_
              refine T.leave .list (wantsNot rfl rfl rfl (not_f hb8)) rfl ?_
              refine T.pickT .list rfl (wants0 rfl) rfl rfl (not_f hb8) rfl ?_
              refine T.nil ?_
              refine T.then_normal ?_
              exact T.le (EnvLe.cons rfl (EnvLe.cons rfl (EnvLe.cons rfl EnvLe.nil))) (T.pick [1, 2] 4 rfl rfl (Nat.le_add_left _ _) rfl (J3 true () hk2))
      · refine T.region ?_
        refine T.move .list rfl (wants0 rfl) rfl rfl ?_
        refine T.bin .list rfl (wants0 rfl) rfl rfl rfl rfl ?_
        refine T.move .list rfl (wants0 rfl) rfl rfl ?_
        refine T.strBf .list 2 rfl rfl (wants0 rfl) rfl rfl rfl ?_
        refine T.move .list rfl (wants0 rfl) rfl rfl ?_
        refine T.strBf .list 3 rfl rfl (wants0 rfl) rfl rfl rfl ?_
        refine T.strLt .list rfl (wants0 rfl) rfl (l := r3.1) (l' := r4.1) rfl rfl ?_
        refine T.boolNe .list rfl (wants0 rfl) rfl rfl rfl (by kernel_rfl) ?_
        refine T.move .list rfl (wants0 rfl) rfl rfl ?_
        refine T.bool (b := (decide ((decide (r5 < 0)) = (Op.bytesLess r3.1 r4.1)))) (fun hb9 => ?_) (fun hb9 => ?_)
        · replace hk1 := inv_posB hb9 hk1
          refine T.move .list rfl (wants1 rfl rfl rfl (not_t hb9)) rfl rfl ?_
          refine T.bin .list rfl (wants1 rfl rfl rfl (not_t hb9)) rfl rfl rfl rfl ?_
          refine T.move .list rfl (wants1 rfl rfl rfl (not_t hb9)) rfl rfl ?_
          refine T.strBf .list 2 rfl rfl (wants1 rfl rfl rfl (not_t hb9)) rfl rfl rfl ?_
          refine T.move .list rfl (wants1 rfl rfl rfl (not_t hb9)) rfl rfl ?_
          refine T.strBf .list 3 rfl rfl (wants1 rfl rfl rfl (not_t hb9)) rfl rfl rfl ?_
          refine T.strEq .list rfl (wants1 rfl rfl rfl (not_t hb9)) rfl (l := r3.1) (l' := r4.1) rfl rfl ?_
          refine T.boolNe .list rfl (wants1 rfl rfl rfl (not_t hb9)) rfl rfl rfl (by kernel_rfl) ?_
          refine T.pickF .list rfl (wants0 rfl) rfl rfl (not_t hb9) rfl ?_
          refine T.move .list rfl (wants0 rfl) rfl rfl ?_
          refine T.bool (b := (decide ((decide (r5 = 0)) = (decide (r3.1 = r4.1))))) (fun hb10 => ?_) (fun hb10 => ?_)
          · replace hk1 := inv_posB hb10 hk1
            refine T.move .list rfl (wants1 rfl rfl rfl (not_t hb10)) rfl rfl ?_
            refine T.bin .list rfl (wants1 rfl rfl rfl (not_t hb10)) rfl rfl rfl rfl ?_
            refine T.move .list rfl (wants1 rfl rfl rfl (not_t hb10)) rfl rfl ?_
            refine T.move .list rfl (wants1 rfl rfl rfl (not_t hb10)) rfl rfl ?_
            obtain ⟨r10, hg10, hk1⟩ := inv_bind hk1
            refine T.call .list (wants1 rfl rfl rfl (not_t hb10)) rfl (run_callF (vs := [_, _]) rfl Tryd.func20 rfl (by decide) rfl) (fun w hS => ref2_Same.c hB hS (i0 := 0) (i1 := 1) rfl rfl hg10) (fun x18 => ?_)
            refine T.boolNe .list rfl (wants1 rfl rfl rfl (not_t hb10)) rfl rfl rfl (by kernel_rfl) ?_
            refine T.pickF .list rfl (wants0 rfl) rfl rfl (not_t hb10) rfl ?_
            refine T.nil ?_
            refine T.then_normal ?_
            exact T.le (EnvLe.cons rfl (EnvLe.cons rfl (EnvLe.cons rfl (EnvLe.cons rfl EnvLe.nil)))) (T.pick [0, 1, 2] 4 rfl rfl (Nat.le_add_left _ _) rfl (J2 (!(decide ((decide (r5 = 0)) = r10))) () hk1))
          · replace hk1 := inv_negB hb10 hk1
            refine T.leave .list (wantsNot rfl rfl rfl (not_f hb10)) rfl ?_
            refine T.leave .list (wantsNot rfl rfl rfl (not_f hb10)) rfl ?_
            refine T.leave .list (wantsNot rfl rfl rfl (not_f hb10)) rfl ?_
            refine T.leave .list (wantsNot rfl rfl rfl (not_f hb10)) rfl ?_
            refine T.leave .list (wantsNot rfl rfl rfl (not_f hb10)) rfl ?_
            refine T.leave .list (wantsNot rfl rfl rfl (not_f hb10)) rfl ?_
            refine T.pickT .list rfl (wants0 rfl) rfl rfl (not_f hb10) rfl ?_
            refine T.nil ?_
            refine T.then_normal ?_
            exact T.le (EnvLe.cons rfl (EnvLe.cons rfl (EnvLe.cons rfl (EnvLe.cons rfl EnvLe.nil)))) (T.pick [0, 1, 2] 4 rfl rfl (Nat.le_add_left _ _) rfl (J2 true () hk1))
        · replace hk1 := inv_negB hb9 hk1
          refine T.leave .list (wantsNot rfl rfl rfl (not_f hb9)) rfl ?_
          refine T.leave .list (wantsNot rfl rfl rfl (not_f hb9)) rfl ?_
          refine T.leave .list (wantsNot rfl rfl rfl (not_f hb9)) rfl ?_
          refine T.leave .list (wantsNot rfl rfl rfl (not_f hb9)) rfl ?_
          refine T.leave .list (wantsNot rfl rfl rfl (not_f hb9)) rfl ?_
          refine T.leave .list (wantsNot rfl rfl rfl (not_f hb9)) rfl ?_
          refine T.leave .list (wantsNot rfl rfl rfl (not_f hb9)) rfl ?_
          refine T.leave .list (wantsNot rfl rfl rfl (not_f hb9)) rfl ?_
          refine T.pickT .list rfl (wants0 rfl) rfl rfl (not_f hb9) rfl ?_
          refine T.move .list rfl (wants0 rfl) rfl rfl ?_
          refine T.leave .list (wantsNot rfl rfl rfl rfl) rfl ?_
          refine T.leave .list (wantsNot rfl rfl rfl rfl) rfl ?_
          refine T.leave .list (wantsNot rfl rfl rfl rfl) rfl ?_
          refine T.leave .list (wantsNot rfl rfl rfl rfl) rfl ?_
          refine T.leave .list (wantsNot rfl rfl rfl rfl) rfl ?_
          refine T.leave .list (wantsNot rfl rfl rfl rfl) rfl ?_
          refine T.pickT .list rfl (wants0 rfl) rfl rfl rfl rfl ?_
          refine T.nil ?_
          refine T.then_normal ?_
          exact T.le (EnvLe.cons rfl (EnvLe.cons rfl (EnvLe.cons rfl (EnvLe.cons rfl EnvLe.nil)))) (T.pick [0, 1, 2] 4 rfl rfl (Nat.le_add_left _ _) rfl (J2 true () hk1))
  · refine T.region ?_
    obtain ⟨r11, hg11, hr⟩ := inv_bind hr
    refine T.call .list (wants0 rfl) rfl (run_callF (vs := []) rfl Tryd.func10 rfl (by decide) rfl) (fun w hS => law2_told.c hB hS  hg11) (fun x19 => ?_)
    refine T.not .list rfl (wants0 rfl) rfl rfl ?_
    refine T.move .list rfl (wants0 rfl) rfl rfl ?_
    refine T.bool (b := r11) (fun hb11 => ?_) (fun hb11 => ?_)
    · replace hr := inv_posB hb11 hr
      refine T.move .list rfl (wants1 rfl rfl rfl (not_t hb11)) rfl rfl ?_
      refine T.bin .list rfl (wants1 rfl rfl rfl (not_t hb11)) rfl rfl rfl rfl ?_
      refine T.pickF .list rfl (wants0 rfl) rfl rfl (not_t hb11) rfl ?_
      refine T.move .list rfl (wants0 rfl) rfl rfl ?_
      refine T.bool (b := (decide (r3.2 = 0))) (fun hb12 => ?_) (fun hb12 => ?_)
      · replace hr := inv_posB hb12 hr
        refine T.move .list rfl (wants1 rfl rfl rfl (not_t hb12)) rfl rfl ?_
        refine T.bin .list rfl (wants1 rfl rfl rfl (not_t hb12)) rfl rfl rfl rfl ?_
        refine T.pickF .list rfl (wants0 rfl) rfl rfl (not_t hb12) rfl ?_
        refine T.move .list rfl (wants0 rfl) rfl rfl ?_
        refine T.bool (b := (decide (r4.2 = 0))) (fun hb13 => ?_) (fun hb13 => ?_)
        · replace hr := inv_posB hb13 hr
          refine T.move .list rfl (wants1 rfl rfl rfl (not_t hb13)) rfl rfl ?_
          refine T.move .list rfl (wants1 rfl rfl rfl (not_t hb13)) rfl rfl ?_
          refine T.move .list rfl (wants1 rfl rfl rfl (not_t hb13)) rfl rfl ?_
          obtain ⟨r12, hg12, hr⟩ := inv_bind hr
          refine T.call .list (wants1 rfl rfl rfl (not_t hb13)) rfl (run_callF (vs := [_, _]) rfl Tryd.func23 rfl (by decide) rfl) (fun w hS => ref2_Compare.c hB hS (i0 := 3) (i1 := 2) rfl rfl hg12) (fun x20 => ?_)
          refine T.bin .list rfl (wants1 rfl rfl rfl (not_t hb13)) rfl rfl rfl rfl ?_
          refine T.pickF .list rfl (wants0 rfl) rfl rfl (not_t hb13) rfl ?_
          refine T.move .list rfl (wants0 rfl) rfl rfl ?_
          refine T.bool (b := (decide (r5 = r12))) (fun hb14 => ?_) (fun hb14 => ?_)
          · replace hr := inv_posB hb14 hr
            refine T.move .list rfl (wants1 rfl rfl rfl (not_t hb14)) rfl rfl ?_
            refine T.move .list rfl (wants1 rfl rfl rfl (not_t hb14)) rfl rfl ?_
            obtain ⟨r13, hg13, hr⟩ := inv_bind hr
            refine T.call .list (wants1 rfl rfl rfl (not_t hb14)) rfl (run_callF (vs := [_, _]) rfl Tryd.func22 rfl (by decide) rfl) (fun w hS => keys_Compare.c hB hS (i0 := 2) (i1 := 3) rfl rfl hg13) (fun x21 => ?_)
            refine T.move .list rfl (wants1 rfl rfl rfl (not_t hb14)) rfl rfl ?_
            refine T.neg .list rfl (wants1 rfl rfl rfl (not_t hb14)) rfl rfl ?_
            refine T.bin .list rfl (wants1 rfl rfl rfl (not_t hb14)) rfl rfl rfl rfl ?_
            refine T.pickF .list rfl (wants0 rfl) rfl rfl (not_t hb14) rfl ?_
            refine T.nil ?_
            refine T.then_normal ?_
            exact T.le (EnvLe.cons rfl (EnvLe.cons rfl (EnvLe.cons rfl (EnvLe.cons rfl (EnvLe.cons rfl (EnvLe.cons rfl EnvLe.nil)))))) (T.pick [3, 2, 1, 0] 6 rfl rfl (Nat.le_add_left _ _) rfl (J1 (!(decide (r13 = (IntKind.i64.wrap (0 - r5))))) () hr))
          · replace hr := inv_negB hb14 hr
            refine T.leave .list (wantsNot rfl rfl rfl (not_f hb14)) rfl ?_
            refine T.leave .list (wantsNot rfl rfl rfl (not_f hb14)) rfl ?_
            refine T.leave .list (wantsNot rfl rfl rfl (not_f hb14)) rfl ?_
            refine T.leave .list (wantsNot rfl rfl rfl (not_f hb14)) rfl ?_
            refine T.leave .list (wantsNot rfl rfl rfl (not_f hb14)) rfl ?_
            refine T.leave .list (wantsNot rfl rfl rfl (not_f hb14)) rfl ?_
            refine T.pickT .list rfl (wants0 rfl) rfl rfl (not_f hb14) rfl ?_
            refine T.nil ?_
            refine T.then_normal ?_
            exact T.le (EnvLe.cons rfl (EnvLe.cons rfl (EnvLe.cons rfl (EnvLe.cons rfl (EnvLe.cons rfl (EnvLe.cons rfl EnvLe.nil)))))) (T.pick [3, 2, 1, 0] 6 rfl rfl (Nat.le_add_left _ _) rfl (J1 true () hr))
        · replace hr := inv_negB hb13 hr
          refine T.leave .list (wantsNot rfl rfl rfl (not_f hb13)) rfl ?_
          refine T.leave .list (wantsNot rfl rfl rfl (not_f hb13)) rfl ?_
          refine T.leave .list (wantsNot rfl rfl rfl (not_f hb13)) rfl ?_
          refine T.leave .list (wantsNot rfl rfl rfl (not_f hb13)) rfl ?_
          refine T.leave .list (wantsNot rfl rfl rfl (not_f hb13)) rfl ?_
          refine T.pickT .list rfl (wants0 rfl) rfl rfl (not_f hb13) rfl ?_
          refine T.move .list rfl (wants0 rfl) rfl rfl ?_
          refine T.leave .list (wantsNot rfl rfl rfl rfl) rfl ?_
          refine T.leave .list (wantsNot rfl rfl rfl rfl) rfl ?_
          refine T.leave .list (wantsNot rfl rfl rfl rfl) rfl ?_
          refine T.leave .list (wantsNot rfl rfl rfl rfl) rfl ?_
          refine T.leave .list (wantsNot rfl rfl rfl rfl) rfl ?_
          refine T.leave .list (wantsNot rfl rfl rfl rfl) rfl ?_
          refine T.pickT .list rfl (wants0 rfl) rfl rfl rfl rfl ?_
          refine T.nil ?_
          refine T.then_normal ?_
          exact T.le (EnvLe.cons rfl (EnvLe.cons rfl (EnvLe.cons rfl (EnvLe.cons rfl (EnvLe.cons rfl (EnvLe.cons rfl EnvLe.nil)))))) (T.pick [3, 2, 1, 0] 6 rfl rfl (Nat.le_add_left _ _) rfl (J1 true () hr))
      · replace hr := inv_negB hb12 hr
        refine T.leave .list (wantsNot rfl rfl rfl (not_f hb12)) rfl ?_
        refine T.leave .list (wantsNot rfl rfl rfl (not_f hb12)) rfl ?_
        refine T.pickT .list rfl (wants0 rfl) rfl rfl (not_f hb12) rfl ?_
        refine T.move .list rfl (wants0 rfl) rfl rfl ?_
        refine T.leave .list (wantsNot rfl rfl rfl rfl) rfl ?_
        refine T.leave .list (wantsNot rfl rfl rfl rfl) rfl ?_
        refine T.leave .list (wantsNot rfl rfl rfl rfl) rfl ?_
        refine T.leave .list (wantsNot rfl rfl rfl rfl) rfl ?_
        refine T.leave .list (wantsNot rfl rfl rfl rfl) rfl ?_
        refine T.pickT .list rfl (wants0 rfl) rfl rfl rfl rfl ?_
        refine T.move .list rfl (wants0 rfl) rfl rfl ?_
        refine T.leave .list (wantsNot rfl rfl rfl rfl) rfl ?_
        refine T.leave .list (wantsNot rfl rfl rfl rfl) rfl ?_
        refine T.leave .list (wantsNot rfl rfl rfl rfl) rfl ?_
        refine T.leave .list (wantsNot rfl rfl rfl rfl) rfl ?_
        refine T.leave .list (wantsNot rfl rfl rfl rfl) rfl ?_
        refine T.leave .list (wantsNot rfl rfl rfl rfl) rfl ?_
        refine T.pickT .list rfl (wants0 rfl) rfl rfl rfl rfl ?_
        refine T.nil ?_
        refine T.then_normal ?_
        exact T.le (EnvLe.cons rfl (EnvLe.cons rfl (EnvLe.cons rfl (EnvLe.cons rfl (EnvLe.cons rfl (EnvLe.cons rfl EnvLe.nil)))))) (T.pick [3, 2, 1, 0] 6 rfl rfl (Nat.le_add_left _ _) rfl (J1 true () hr))
    · replace hr := inv_negB hb11 hr
      refine T.leave .list (wantsNot rfl rfl rfl (not_f hb11)) rfl ?_
      refine T.leave .list (wantsNot rfl rfl rfl (not_f hb11)) rfl ?_
      refine T.pickT .list rfl (wants0 rfl) rfl rfl (not_f hb11) rfl ?_
      refine T.move .list rfl (wants0 rfl) rfl rfl ?_
      refine T.leave .list (wantsNot rfl rfl rfl rfl) rfl ?_
      refine T.leave .list (wantsNot rfl rfl rfl rfl) rfl ?_
      refine T.pickT .list rfl (wants0 rfl) rfl rfl rfl rfl ?_
      refine T.move .list rfl (wants0 rfl) rfl rfl ?_
      refine T.leave .list (wantsNot rfl rfl rfl rfl) rfl ?_
      refine T.leave .list (wantsNot rfl rfl rfl rfl) rfl ?_
      refine T.leave .list (wantsNot rfl rfl rfl rfl) rfl ?_
      refine T.leave .list (wantsNot rfl rfl rfl rfl) rfl ?_
      refine T.leave .list (wantsNot rfl rfl rfl rfl) rfl ?_
      refine T.pickT .list rfl (wants0 rfl) rfl rfl rfl rfl ?_
      refine T.move .list rfl (wants0 rfl) rfl rfl ?_
      refine T.leave .list (wantsNot rfl rfl rfl rfl) rfl ?_
      refine T.leave .list (wantsNot rfl rfl rfl rfl) rfl ?_
      refine T.leave .list (wantsNot rfl rfl rfl rfl) rfl ?_
      refine T.leave .list (wantsNot rfl rfl rfl rfl) rfl ?_
      refine T.leave .list (wantsNot rfl rfl rfl rfl) rfl ?_
      refine T.leave .list (wantsNot rfl rfl rfl rfl) rfl ?_
      refine T.pickT .list rfl (wants0 rfl) rfl rfl rfl rfl ?_
      refine T.nil ?_
      refine T.then_normal ?_
      exact T.le (EnvLe.cons rfl (EnvLe.cons rfl (EnvLe.cons rfl (EnvLe.cons rfl (EnvLe.cons rfl (EnvLe.cons rfl EnvLe.nil)))))) (T.pick [3, 2, 1, 0] 6 rfl rfl (Nat.le_add_left _ _) rfl (J1 true () hr))

noncomputable def law2_KeysForth.impl (l0 : List UInt8) : Option Bool :=
  (keys_Read.impl l0).bind fun r1 => (if ((!(decide (r1.2 = 0)))) = true then (law2_told.impl ).bind fun r2 => (if r2 = true then some (decide ((((r1.1.length : Int))) = 0)) else some false) else (keys_Key.impl r1.1).bind fun r3 => (law2_told.impl ).bind fun r4 => (if r4 = true then (if ((decide (r3.2 = 0))) = true then some (decide (r3.1 = l0)) else some false) else some false))
set_option maxRecDepth 100000 in
set_option maxHeartbeats 1000000 in
theorem law2_KeysForth.c {B : World} {hs : List MP} {w : World} {i0 c0 : Nat} {A0 : Option Addr} {l0 : List UInt8} (hB : Base B) (hS : St B (hs) w) (h0 : (hs)[i0]? = some (Ro E8 A0 c0 l0)) {r : Bool} (hr : law2_KeysForth.impl l0 = some r) :
    Calls Tryd.prog 6 #[.slice A0 l0.length c0] w fun e w' => ∃ x : Unit, e = .returned (.bool r) ∧ St B (hs) w' := by
  unfold law2_KeysForth.impl at hr
  refine calls_T Tryd.func6 rfl rfl rfl hS ?_
  refine T.front i0 h0 ?_
  refine T.seq ?_
  refine T.region ?_
  refine T.assign .list rfl (wants0 rfl) rfl rfl ?_
  refine T.nil ?_
  refine T.then_normal ?_
  refine T.seq ?_
  refine T.region ?_
  refine T.move .list rfl (wants0 rfl) rfl rfl ?_
  obtain ⟨r1, hg1, hr⟩ := inv_bind hr
  refine T.call .list (wants0 rfl) rfl (run_callF (vs := [_]) rfl Tryd.func18 rfl (by decide) rfl) (fun w hS => keys_Read.c hB hS (i0 := 0) rfl hg1) (fun x1 => ?_)
  refine T.move .list rfl (wants0 rfl) rfl rfl ?_
  refine T.extract .list rfl (wants0 rfl) rfl rfl rfl ?_
  refine T.extract .list rfl (wants0 rfl) rfl rfl rfl ?_
  refine T.assign .list rfl (wants0 rfl) rfl rfl ?_
  refine T.assign .list rfl (wants0 rfl) rfl rfl ?_
  refine T.nil ?_
  refine T.then_normal ?_
  refine T.seq ?_
  refine T.seq ?_
  refine T.region ?_
  refine T.move .list rfl (wants0 rfl) rfl rfl ?_
  refine T.bin .list rfl (wants0 rfl) rfl rfl rfl rfl ?_
  refine T.nil ?_
  refine T.then_normal ?_
  refine T.cond rfl (fun hb1 => ?_) (fun hb1 => ?_)
  · replace hr := inv_posB hb1 hr
    refine T.seq ?_
    refine T.region ?_
    obtain ⟨r2, hg2, hr⟩ := inv_bind hr
    refine T.call .list (wants0 rfl) rfl (run_callF (vs := []) rfl Tryd.func10 rfl (by decide) rfl) (fun w hS => law2_told.c hB hS  hg2) (fun x2 => ?_)
    refine T.move .list rfl (wants0 rfl) rfl rfl ?_
    refine T.bool (b := r2) (fun hb2 => ?_) (fun hb2 => ?_)
    · replace hr := inv_posB hb2 hr
      refine T.move .list rfl (wants1 rfl rfl rfl hb2) rfl rfl ?_
      refine T.lenSlice .list rfl (wants1 rfl rfl rfl hb2) rfl rfl ?_
      refine T.bin .list rfl (wants1 rfl rfl rfl hb2) rfl rfl rfl rfl ?_
      refine T.pickT .list rfl (wants0 rfl) rfl rfl hb2 rfl ?_
      refine T.assign .list rfl (wants0 rfl) rfl rfl ?_
      refine T.nil ?_
      refine T.then_normal ?_
      refine T.ret ?_
      refine T.then_ret ?_
      obtain rfl := inv_some hr
      refine T.pick [] 2 rfl rfl (Nat.le_add_left _ _) rfl ?_
      refine T.ret1 rfl rfl (fun w hS => ⟨(), rfl, hS⟩)
    · replace hr := inv_negB hb2 hr
      refine T.leave .list (wantsNot rfl rfl rfl hb2) rfl ?_
      refine T.leave .list (wantsNot rfl rfl rfl hb2) rfl ?_
      refine T.leave .list (wantsNot rfl rfl rfl hb2) rfl ?_
      refine T.pickF .list rfl (wants0 rfl) rfl rfl hb2 rfl ?_
      refine T.assign .list rfl (wants0 rfl) rfl rfl ?_
      refine T.nil ?_
      refine T.then_normal ?_
      refine T.ret ?_
      refine T.then_ret ?_
      obtain rfl := inv_some hr
      refine T.pick [] 2 rfl rfl (Nat.le_add_left _ _) rfl ?_
      refine T.ret1 rfl rfl (fun w hS => ⟨(), rfl, hS⟩)
  · replace hr := inv_negB hb1 hr
    refine T.skip ?_
    refine T.then_normal ?_
    refine T.seq ?_
    refine T.region ?_
    refine T.move .list rfl (wants0 rfl) rfl rfl ?_
    refine T.freeze 0 rfl rfl rfl ?_
    obtain ⟨r3, hg3, hr⟩ := inv_bind hr
    refine T.call .list (wants0 rfl) rfl (run_callF (vs := [_]) rfl Tryd.func16 rfl (by decide) rfl) (fun w hS => keys_Key.c hB hS (i0 := 0) rfl hg3) (fun x3 => ?_)
    refine T.move .list rfl (wants0 rfl) rfl rfl ?_
    refine T.extract .list rfl (wants0 rfl) rfl rfl rfl ?_
    refine T.extract .list rfl (wants0 rfl) rfl rfl rfl ?_
    refine T.assign .list rfl (wants0 rfl) rfl rfl ?_
    refine T.assign .list rfl (wants0 rfl) rfl rfl ?_
    refine T.nil ?_
    refine T.then_normal ?_
    refine T.seq ?_
    refine T.region ?_
    obtain ⟨r4, hg4, hr⟩ := inv_bind hr
    refine T.call .list (wants0 rfl) rfl (run_callF (vs := []) rfl Tryd.func10 rfl (by decide) rfl) (fun w hS => law2_told.c hB hS  hg4) (fun x4 => ?_)
    refine T.move .list rfl (wants0 rfl) rfl rfl ?_
    refine T.bool (b := r4) (fun hb3 => ?_) (fun hb3 => ?_)
    · replace hr := inv_posB hb3 hr
      refine T.move .list rfl (wants1 rfl rfl rfl hb3) rfl rfl ?_
      refine T.bin .list rfl (wants1 rfl rfl rfl hb3) rfl rfl rfl rfl ?_
      refine T.pickT .list rfl (wants0 rfl) rfl rfl hb3 rfl ?_
      refine T.move .list rfl (wants0 rfl) rfl rfl ?_
      refine T.bool (b := (decide (r3.2 = 0))) (fun hb4 => ?_) (fun hb4 => ?_)
      · replace hr := inv_posB hb4 hr
        refine T.move .list rfl (wants1 rfl rfl rfl hb4) rfl rfl ?_
        refine T.strBf .list 0 rfl rfl (wants1 rfl rfl rfl hb4) rfl rfl rfl ?_
        refine T.move .list rfl (wants1 rfl rfl rfl hb4) rfl rfl ?_
        refine T.strRo .list 2 rfl rfl (wants1 rfl rfl rfl hb4) rfl rfl rfl ?_
        refine T.strEq .list rfl (wants1 rfl rfl rfl hb4) rfl (l := r3.1) (l' := l0) rfl rfl ?_
        refine T.pickT .list rfl (wants0 rfl) rfl rfl hb4 rfl ?_
        refine T.assign .list rfl (wants0 rfl) rfl rfl ?_
        refine T.nil ?_
        refine T.then_normal ?_
        refine T.ret ?_
        obtain rfl := inv_some hr
        refine T.pick [] 3 rfl rfl (Nat.le_add_left _ _) rfl ?_
        refine T.ret1 rfl rfl (fun w hS => ⟨(), rfl, hS⟩)
      · replace hr := inv_negB hb4 hr
        refine T.leave .list (wantsNot rfl rfl rfl hb4) rfl ?_
        refine T.leave .list (wantsNot rfl rfl rfl hb4) rfl ?_
        refine T.leave .list (wantsNot rfl rfl rfl hb4) rfl ?_
        refine T.leave .list (wantsNot rfl rfl rfl hb4) rfl ?_
        refine T.leave .list (wantsNot rfl rfl rfl hb4) rfl ?_
        refine T.pickF .list rfl (wants0 rfl) rfl rfl hb4 rfl ?_
        refine T.assign .list rfl (wants0 rfl) rfl rfl ?_
        refine T.nil ?_
        refine T.then_normal ?_
        refine T.ret ?_
        obtain rfl := inv_some hr
        refine T.pick [] 3 rfl rfl (Nat.le_add_left _ _) rfl ?_
        refine T.ret1 rfl rfl (fun w hS => ⟨(), rfl, hS⟩)
    · replace hr := inv_negB hb3 hr
      refine T.leave .list (wantsNot rfl rfl rfl hb3) rfl ?_
      refine T.leave .list (wantsNot rfl rfl rfl hb3) rfl ?_
      refine T.pickF .list rfl (wants0 rfl) rfl rfl hb3 rfl ?_
      refine T.move .list rfl (wants0 rfl) rfl rfl ?_
      refine T.leave .list (wantsNot rfl rfl rfl rfl) rfl ?_
      refine T.leave .list (wantsNot rfl rfl rfl rfl) rfl ?_
      refine T.leave .list (wantsNot rfl rfl rfl rfl) rfl ?_
      refine T.leave .list (wantsNot rfl rfl rfl rfl) rfl ?_
      refine T.leave .list (wantsNot rfl rfl rfl rfl) rfl ?_
      refine T.pickF .list rfl (wants0 rfl) rfl rfl rfl rfl ?_
      refine T.assign .list rfl (wants0 rfl) rfl rfl ?_
      refine T.nil ?_
      refine T.then_normal ?_
      refine T.ret ?_
      obtain rfl := inv_some hr
      refine T.pick [] 3 rfl rfl (Nat.le_add_left _ _) rfl ?_
      refine T.ret1 rfl rfl (fun w hS => ⟨(), rfl, hS⟩)

noncomputable def law2_KeysFold.k1 (l0 : List UInt8) (r1 : List UInt8) (s1 : Bool) : Option Bool :=
  (if s1 = true then some false else (keys_Runes.impl l0).bind fun r2 => (if ((decide (r2 < 0))) = true then (if ((decide (r1 = (([] : List UInt8))))) = true then some true else (keys_Runes.impl r1).bind fun r3 => some (decide (r3 = r2))) else (keys_Runes.impl r1).bind fun r4 => some (decide (r4 = r2))))
noncomputable def law2_KeysFold.impl (l0 : List UInt8) : Option Bool :=
  (keys_Fold.impl l0).bind fun r1 => (law2_told.impl ).bind fun r5 => (if r5 = true then (ref2_Fold.impl l0).bind fun r6 => (if ((decide (r1 = r6))) = true then (keys_Fold.impl r1).bind fun r7 => law2_KeysFold.k1 l0 r1 (!(decide (r7 = r1))) else law2_KeysFold.k1 l0 r1 true) else law2_KeysFold.k1 l0 r1 true)
set_option maxRecDepth 100000 in
set_option maxHeartbeats 1000000 in
theorem law2_KeysFold.c {B : World} {hs : List MP} {w : World} {l0 : List UInt8} (hB : Base B) (hS : St B (hs) w) {r : Bool} (hr : law2_KeysFold.impl l0 = some r) :
    Calls Tryd.prog 7 #[str l0] w fun e w' => ∃ x : Unit, e = .returned (.bool r) ∧ St B (hs) w' := by
  unfold law2_KeysFold.impl at hr
  refine calls_T Tryd.func7 rfl rfl rfl hS ?_
  refine T.seq ?_
  refine T.region ?_
  refine T.assign .list rfl (wants0 rfl) rfl rfl ?_
  refine T.nil ?_
  refine T.then_normal ?_
  refine T.seq ?_
  refine T.region ?_
  refine T.move .list rfl (wants0 rfl) rfl rfl ?_
  obtain ⟨r1, hg1, hr⟩ := inv_bind hr
  refine T.call .list (wants0 rfl) rfl (run_callF (vs := [_]) rfl Tryd.func24 rfl (by decide) rfl) (fun w hS => keys_Fold.c hB hS  hg1) (fun x1 => ?_)
  refine T.assign .list rfl (wants0 rfl) rfl rfl ?_
  refine T.nil ?_
  refine T.then_normal ?_
  refine T.seq ?_
  refine T.seqJ (fun (s1 : Bool) (x2 : Unit) => [(0, str l0), (3, str r1), (20, .bool s1)]) (fun s1 x2 => hs) (fun s1 => law2_KeysFold.k1 l0 r1 s1 = some r) (fun s1 x2 hk1 => ?_) (fun J1 => ?_)
  · unfold law2_KeysFold.k1 at hk1
    refine T.cond rfl (fun hb1 => ?_) (fun hb1 => ?_)
    · replace hk1 := inv_posB hb1 hk1
      refine T.seq ?_
      refine T.region ?_
      refine T.assign .list rfl (wants0 rfl) rfl rfl ?_
      refine T.nil ?_
      refine T.then_normal ?_
      refine T.ret ?_
      refine T.then_ret ?_
      obtain rfl := inv_some hk1
      refine T.pick [] 0 rfl rfl (Nat.le_add_left _ _) rfl ?_
      refine T.ret1 rfl rfl (fun w hS => ⟨(), rfl, hS⟩)
    · replace hk1 := inv_negB hb1 hk1
      refine T.skip ?_
      refine T.then_normal ?_
      refine T.seq ?_
      refine T.region ?_
      refine T.move .list rfl (wants0 rfl) rfl rfl ?_
      obtain ⟨r2, hg2, hk1⟩ := inv_bind hk1
      refine T.call .list (wants0 rfl) rfl (run_callF (vs := [_]) rfl Tryd.func13 rfl (by decide) rfl) (fun w hS => keys_Runes.c hB hS  hg2) (fun x3 => ?_)
      refine T.assign .list rfl (wants0 rfl) rfl rfl ?_
      refine T.nil ?_
      refine T.then_normal ?_
      refine T.seq ?_
      refine T.region ?_
      refine T.move .list rfl (wants0 rfl) rfl rfl ?_
      refine T.bin .list rfl (wants0 rfl) rfl rfl rfl rfl ?_
      refine T.move .list rfl (wants0 rfl) rfl rfl ?_
      refine T.bool (b := (decide (r2 < 0))) (fun hb2 => ?_) (fun hb2 => ?_)
      · replace hk1 := inv_posB hb2 hk1
        refine T.move .list rfl (wants1 rfl rfl rfl hb2) rfl rfl ?_
        refine T.strEq .list rfl (wants1 rfl rfl rfl hb2) rfl (l := r1) (l' := (([] : List UInt8))) rfl rfl ?_
        refine T.pickT .list rfl (wants0 rfl) rfl rfl hb2 rfl ?_
        refine T.move .list rfl (wants0 rfl) rfl rfl ?_
        refine T.bool (b := (decide (r1 = (([] : List UInt8))))) (fun hb3 => ?_) (fun hb3 => ?_)
        · replace hk1 := inv_posB hb3 hk1
          refine T.leave .list (wantsNot rfl rfl rfl hb3) rfl ?_
          refine T.leave .list (wantsNot rfl rfl rfl hb3) rfl ?_
          refine T.leave .list (wantsNot rfl rfl rfl hb3) rfl ?_
          refine T.leave .list (wantsNot rfl rfl rfl hb3) rfl ?_
          refine T.pickT .list rfl (wants0 rfl) rfl rfl hb3 rfl ?_
          refine T.assign .list rfl (wants0 rfl) rfl rfl ?_
          refine T.nil ?_
          refine T.then_normal ?_
          refine T.ret ?_
          obtain rfl := inv_some hk1
          refine T.pick [] 0 rfl rfl (Nat.le_add_left _ _) rfl ?_
          refine T.ret1 rfl rfl (fun w hS => ⟨(), rfl, hS⟩)
        · replace hk1 := inv_negB hb3 hk1
          refine T.move .list rfl (wants1 rfl rfl rfl hb3) rfl rfl ?_
          obtain ⟨r3, hg3, hk1⟩ := inv_bind hk1
          refine T.call .list (wants1 rfl rfl rfl hb3) rfl (run_callF (vs := [_]) rfl Tryd.func13 rfl (by decide) rfl) (fun w hS => keys_Runes.c hB hS  hg3) (fun x4 => ?_)
          refine T.move .list rfl (wants1 rfl rfl rfl hb3) rfl rfl ?_
          refine T.bin .list rfl (wants1 rfl rfl rfl hb3) rfl rfl rfl rfl ?_
          refine T.pickF .list rfl (wants0 rfl) rfl rfl hb3 rfl ?_
          refine T.assign .list rfl (wants0 rfl) rfl rfl ?_
          refine T.nil ?_
          refine T.then_normal ?_
          refine T.ret ?_
          obtain rfl := inv_some hk1
          refine T.pick [] 0 rfl rfl (Nat.le_add_left _ _) rfl ?_
          refine T.ret1 rfl rfl (fun w hS => ⟨(), rfl, hS⟩)
      · replace hk1 := inv_negB hb2 hk1
        refine T.leave .list (wantsNot rfl rfl rfl hb2) rfl ?_
        refine T.leave .list (wantsNot rfl rfl rfl hb2) rfl ?_
        refine T.pickF .list rfl (wants0 rfl) rfl rfl hb2 rfl ?_
        refine T.move .list rfl (wants0 rfl) rfl rfl ?_
        refine T.move .list rfl (wants1 rfl rfl rfl rfl) rfl rfl ?_
        obtain ⟨r4, hg4, hk1⟩ := inv_bind hk1
        refine T.call .list (wants1 rfl rfl rfl rfl) rfl (run_callF (vs := [_]) rfl Tryd.func13 rfl (by decide) rfl) (fun w hS => keys_Runes.c hB hS  hg4) (fun x5 => ?_)
        refine T.move .list rfl (wants1 rfl rfl rfl rfl) rfl rfl ?_
        refine T.bin .list rfl (wants1 rfl rfl rfl rfl) rfl rfl rfl rfl ?_
        refine T.pickF .list rfl (wants0 rfl) rfl rfl rfl rfl ?_
        refine T.assign .list rfl (wants0 rfl) rfl rfl ?_
        refine T.nil ?_
        refine T.then_normal ?_
        refine T.ret ?_
        obtain rfl := inv_some hk1
        refine T.pick [] 0 rfl rfl (Nat.le_add_left _ _) rfl ?_
        refine T.ret1 rfl rfl (fun w hS => ⟨(), rfl, hS⟩)
  · refine T.region ?_
    obtain ⟨r5, hg5, hr⟩ := inv_bind hr
    refine T.call .list (wants0 rfl) rfl (run_callF (vs := []) rfl Tryd.func10 rfl (by decide) rfl) (fun w hS => law2_told.c hB hS  hg5) (fun x6 => ?_)
    refine T.not .list rfl (wants0 rfl) rfl rfl ?_
    refine T.move .list rfl (wants0 rfl) rfl rfl ?_
    refine T.bool (b := r5) (fun hb4 => ?_) (fun hb4 => ?_)
    · replace hr := inv_posB hb4 hr
      refine T.move .list rfl (wants1 rfl rfl rfl (not_t hb4)) rfl rfl ?_
      refine T.move .list rfl (wants1 rfl rfl rfl (not_t hb4)) rfl rfl ?_
      obtain ⟨r6, hg6, hr⟩ := inv_bind hr
      refine T.call .list (wants1 rfl rfl rfl (not_t hb4)) rfl (run_callF (vs := [_]) rfl Tryd.func25 rfl (by decide) rfl) (fun w hS => ref2_Fold.c hB hS  hg6) (fun x7 => ?_)
      refine T.strNe .list rfl (wants1 rfl rfl rfl (not_t hb4)) rfl (l := r1) (l' := r6) rfl rfl ?_
      refine T.pickF .list rfl (wants0 rfl) rfl rfl (not_t hb4) rfl ?_
      refine T.move .list rfl (wants0 rfl) rfl rfl ?_
      refine T.bool (b := (decide (r1 = r6))) (fun hb5 => ?_) (fun hb5 => ?_)
      · replace hr := inv_posB hb5 hr
        refine T.move .list rfl (wants1 rfl rfl rfl (not_t hb5)) rfl rfl ?_
        obtain ⟨r7, hg7, hr⟩ := inv_bind hr
        refine T.call .list (wants1 rfl rfl rfl (not_t hb5)) rfl (run_callF (vs := [_]) rfl Tryd.func24 rfl (by decide) rfl) (fun w hS => keys_Fold.c hB hS  hg7) (fun x8 => ?_)
        refine T.move .list rfl (wants1 rfl rfl rfl (not_t hb5)) rfl rfl ?_
        refine T.strNe .list rfl (wants1 rfl rfl rfl (not_t hb5)) rfl (l := r7) (l' := r1) rfl rfl ?_
        refine T.pickF .list rfl (wants0 rfl) rfl rfl (not_t hb5) rfl ?_
        refine T.nil ?_
        refine T.then_normal ?_
        exact T.le (EnvLe.cons rfl (EnvLe.cons rfl (EnvLe.cons rfl EnvLe.nil))) (T.pick [] 0 rfl rfl (Nat.le_add_left _ _) rfl (J1 (!(decide (r7 = r1))) () hr))
      · replace hr := inv_negB hb5 hr
        refine T.leave .list (wantsNot rfl rfl rfl (not_f hb5)) rfl ?_
        refine T.leave .list (wantsNot rfl rfl rfl (not_f hb5)) rfl ?_
        refine T.leave .list (wantsNot rfl rfl rfl (not_f hb5)) rfl ?_
        refine T.leave .list (wantsNot rfl rfl rfl (not_f hb5)) rfl ?_
        refine T.pickT .list rfl (wants0 rfl) rfl rfl (not_f hb5) rfl ?_
        refine T.nil ?_
        refine T.then_normal ?_
        exact T.le (EnvLe.cons rfl (EnvLe.cons rfl (EnvLe.cons rfl EnvLe.nil))) (T.pick [] 0 rfl rfl (Nat.le_add_left _ _) rfl (J1 true () hr))
    · replace hr := inv_negB hb4 hr
      refine T.leave .list (wantsNot rfl rfl rfl (not_f hb4)) rfl ?_
      refine T.leave .list (wantsNot rfl rfl rfl (not_f hb4)) rfl ?_
      refine T.leave .list (wantsNot rfl rfl rfl (not_f hb4)) rfl ?_
      refine T.leave .list (wantsNot rfl rfl rfl (not_f hb4)) rfl ?_
      refine T.pickT .list rfl (wants0 rfl) rfl rfl (not_f hb4) rfl ?_
      refine T.move .list rfl (wants0 rfl) rfl rfl ?_
      refine T.leave .list (wantsNot rfl rfl rfl rfl) rfl ?_
      refine T.leave .list (wantsNot rfl rfl rfl rfl) rfl ?_
      refine T.leave .list (wantsNot rfl rfl rfl rfl) rfl ?_
      refine T.leave .list (wantsNot rfl rfl rfl rfl) rfl ?_
      refine T.pickT .list rfl (wants0 rfl) rfl rfl rfl rfl ?_
      refine T.nil ?_
      refine T.then_normal ?_
      exact T.le (EnvLe.cons rfl (EnvLe.cons rfl (EnvLe.cons rfl EnvLe.nil))) (T.pick [] 0 rfl rfl (Nat.le_add_left _ _) rfl (J1 true () hr))

noncomputable def law2_KeysJoin.k2 (r1 : (List (Int × Int × (List UInt8)))) (r2 : (List (Int × Int × (List UInt8)))) (s2 : Bool) : Option Bool :=
  (if s2 = true then some false else (law2_few.impl r1 6).bind fun r11 => chk (((subl r11.2 0 r11.1).length + r2.length) * 32 ≤ 140737488355328) ((keys_Compare.impl (((subl r11.2 0 r11.1) ++ r2)) r1).bind fun r12 => some (decide ((0 : Int) ≤ r12))))
noncomputable def law2_KeysJoin.k1 (r1 : (List (Int × Int × (List UInt8)))) (r2 : (List (Int × Int × (List UInt8)))) (r3 : (List (Int × Int × (List UInt8)))) (s1 : Bool) : Option Bool :=
  (if s1 = true then some false else (keys_Compare.impl r1 r2).bind fun r8 => (keys_Compare.impl r2 r3).bind fun r9 => (keys_Compare.impl r1 r3).bind fun r10 => (if ((decide (r8 ≤ 0))) = true then (if ((decide (r9 ≤ 0))) = true then (if ((decide ((0 : Int) < r10))) = true then law2_KeysJoin.k2 r1 r2 true else (if ((decide (r8 < 0))) = true then law2_KeysJoin.k2 r1 r2 (decide ((0 : Int) ≤ r10)) else law2_KeysJoin.k2 r1 r2 false)) else (if ((decide (r8 < 0))) = true then law2_KeysJoin.k2 r1 r2 false else law2_KeysJoin.k2 r1 r2 false)) else (if ((decide (r8 < 0))) = true then (if ((decide (r9 ≤ 0))) = true then law2_KeysJoin.k2 r1 r2 (decide ((0 : Int) ≤ r10)) else law2_KeysJoin.k2 r1 r2 false) else law2_KeysJoin.k2 r1 r2 false)))
noncomputable def law2_KeysJoin.impl (l0 : List (Int × Int × (List UInt8))) (l1 : List (Int × Int × (List UInt8))) (l2 : List (Int × Int × (List UInt8))) : Option Bool :=
  (law2_right.impl l0).bind fun r1 => (law2_right.impl l1).bind fun r2 => (law2_right.impl l2).bind fun r3 => (keys_Key.impl r1).bind fun r4 => (keys_Key.impl r2).bind fun r5 => (law2_few.impl r1 6).bind fun r6 => chk (((subl r6.2 0 r6.1).length + r2.length) * 32 ≤ 140737488355328) ((keys_Key.impl (((subl r6.2 0 r6.1) ++ r2))).bind fun r7 => (law2_told.impl ).bind fun r13 => (if r13 = true then (if ((decide (r4.2 = 0))) = true then (if ((decide (r5.2 = 0))) = true then (if ((decide (r7.2 = 0))) = true then chk (r4.1.length + r5.1.length ≤ 9223372036854775807) (law2_KeysJoin.k1 r1 r2 r3 (!(decide (r7.1 = (r4.1 ++ r5.1))))) else law2_KeysJoin.k1 r1 r2 r3 true) else law2_KeysJoin.k1 r1 r2 r3 true) else law2_KeysJoin.k1 r1 r2 r3 true) else law2_KeysJoin.k1 r1 r2 r3 true))
set_option maxRecDepth 100000 in
set_option maxHeartbeats 1000000 in
theorem law2_KeysJoin.c {B : World} {hs : List MP} {w : World} {i0 c0 : Nat} {A0 : Option Addr} {l0 : List (Int × Int × (List UInt8))} {i1 c1 : Nat} {A1 : Option Addr} {l1 : List (Int × Int × (List UInt8))} {i2 c2 : Nat} {A2 : Option Addr} {l2 : List (Int × Int × (List UInt8))} (hB : Base B) (hS : St B (hs) w) (h0 : (hs)[i0]? = some (Ro (Elt.pair E64 (Elt.pair E64 EStr)) A0 c0 l0)) (h1 : (hs)[i1]? = some (Ro (Elt.pair E64 (Elt.pair E64 EStr)) A1 c1 l1)) (h2 : (hs)[i2]? = some (Ro (Elt.pair E64 (Elt.pair E64 EStr)) A2 c2 l2)) {r : Bool} (hr : law2_KeysJoin.impl l0 l1 l2 = some r) :
    Calls Tryd.prog 8 #[.slice A0 l0.length c0, .slice A1 l1.length c1, .slice A2 l2.length c2] w fun e w' => ∃ x : Unit, e = .returned (.bool r) ∧ St B (hs) w' := by
  unfold law2_KeysJoin.impl at hr
  refine calls_T Tryd.func8 rfl rfl rfl hS ?_
  refine T.front i0 h0 ?_
  refine T.front (i1 + 1) h1 ?_
  refine T.front (i2 + 2) h2 ?_
  refine T.seq ?_
  refine T.region ?_
  refine T.assign .list rfl (wants0 rfl) rfl rfl ?_
  refine T.nil ?_
  refine T.then_normal ?_
  refine T.seq ?_
  refine T.region ?_
  refine T.move .list rfl (wants0 rfl) rfl rfl ?_
  obtain ⟨r1, hg1, hr⟩ := inv_bind hr
  refine T.call .list (wants0 rfl) rfl (run_callF (vs := [_]) rfl Tryd.func21 rfl (by decide) rfl) (fun w hS => law2_right.c hB hS (i0 := 2) rfl hg1) (fun x1 => ?_)
  refine T.move .list rfl (wants0 rfl) rfl rfl ?_
  obtain ⟨r2, hg2, hr⟩ := inv_bind hr
  refine T.call .list (wants0 rfl) rfl (run_callF (vs := [_]) rfl Tryd.func21 rfl (by decide) rfl) (fun w hS => law2_right.c hB hS (i0 := 2) rfl hg2) (fun x2 => ?_)
  refine T.move .list rfl (wants0 rfl) rfl rfl ?_
  obtain ⟨r3, hg3, hr⟩ := inv_bind hr
  refine T.call .list (wants0 rfl) rfl (run_callF (vs := [_]) rfl Tryd.func21 rfl (by decide) rfl) (fun w hS => law2_right.c hB hS (i0 := 2) rfl hg3) (fun x3 => ?_)
  refine T.assign .list rfl (wants0 rfl) rfl rfl ?_
  refine T.assign .list rfl (wants0 rfl) rfl rfl ?_
  refine T.assign .list rfl (wants0 rfl) rfl rfl ?_
  refine T.nil ?_
  refine T.then_normal ?_
  refine T.seq ?_
  refine T.region ?_
  refine T.move .list rfl (wants0 rfl) rfl rfl ?_
  refine T.freeze 2 rfl rfl rfl ?_
  obtain ⟨r4, hg4, hr⟩ := inv_bind hr
  refine T.call .list (wants0 rfl) rfl (run_callF (vs := [_]) rfl Tryd.func16 rfl (by decide) rfl) (fun w hS => keys_Key.c hB hS (i0 := 2) rfl hg4) (fun x4 => ?_)
  refine T.move .list rfl (wants0 rfl) rfl rfl ?_
  refine T.extract .list rfl (wants0 rfl) rfl rfl rfl ?_
  refine T.extract .list rfl (wants0 rfl) rfl rfl rfl ?_
  refine T.assign .list rfl (wants0 rfl) rfl rfl ?_
  refine T.assign .list rfl (wants0 rfl) rfl rfl ?_
  refine T.nil ?_
  refine T.then_normal ?_
  refine T.seq ?_
  refine T.region ?_
  refine T.move .list rfl (wants0 rfl) rfl rfl ?_
  refine T.freeze 2 rfl rfl rfl ?_
  obtain ⟨r5, hg5, hr⟩ := inv_bind hr
  refine T.call .list (wants0 rfl) rfl (run_callF (vs := [_]) rfl Tryd.func16 rfl (by decide) rfl) (fun w hS => keys_Key.c hB hS (i0 := 2) rfl hg5) (fun x5 => ?_)
  refine T.move .list rfl (wants0 rfl) rfl rfl ?_
  refine T.extract .list rfl (wants0 rfl) rfl rfl rfl ?_
  refine T.extract .list rfl (wants0 rfl) rfl rfl rfl ?_
  refine T.assign .list rfl (wants0 rfl) rfl rfl ?_
  refine T.assign .list rfl (wants0 rfl) rfl rfl ?_
  refine T.nil ?_
  refine T.then_normal ?_
  refine T.seq ?_
  refine T.region ?_
  refine T.move .list rfl (wants0 rfl) rfl rfl ?_
  obtain ⟨r6, hg6, hr⟩ := inv_bind hr
  refine T.call .list (wants0 rfl) rfl (run_callF (vs := [_, _]) rfl Tryd.func15 rfl (by decide) rfl) (fun w hS => law2_few.c hB hS (i0 := 4) rfl hg6) (fun x6 => ?_)
  refine T.move .list rfl (wants0 rfl) rfl rfl ?_
  refine T.takeBf 0 (r6.1 : Int).toNat (l' := subl r6.2 0 r6.1) rfl rfl rfl ?_
  obtain ⟨hc1, hr⟩ := inv_chk hr
  refine T.appRo .list 0 4 rfl rfl rfl rfl rfl (wants0 rfl) rfl rfl rfl rfl rfl rfl hc1 (fun _ _ => rfl) (fun A4 c4 => ?_)
  refine T.freeze 0 rfl rfl rfl ?_
  obtain ⟨r7, hg7, hr⟩ := inv_bind hr
  refine T.call .list (wants0 rfl) rfl (run_callF (vs := [_]) rfl Tryd.func16 rfl (by decide) rfl) (fun w hS => keys_Key.c hB hS (i0 := 0) rfl hg7) (fun x7 => ?_)
  refine T.move .list rfl (wants0 rfl) rfl rfl ?_
  refine T.extract .list rfl (wants0 rfl) rfl rfl rfl ?_
  refine T.extract .list rfl (wants0 rfl) rfl rfl rfl ?_
  refine T.assign .list rfl (wants0 rfl) rfl rfl ?_
  refine T.assign .list rfl (wants0 rfl) rfl rfl ?_
  refine T.nil ?_
  refine T.then_normal ?_
  refine T.seq ?_
  refine T.seqJ (fun (s1 : Bool) (x8 : Unit) => [(7, .slice x1.1 r1.length x1.2), (8, .slice x2.1 r2.length x2.2), (9, .slice x3.1 r3.length x3.2), (66, .bool s1)]) (fun s1 x8 => Ro (Elt.pair E64 (Elt.pair E64 EStr)) x1.1 x1.2 r1 :: Ro (Elt.pair E64 (Elt.pair E64 EStr)) x2.1 x2.2 r2 :: Bf (Elt.pair E64 (Elt.pair E64 EStr)) 23 x3.1 x3.2 r3 :: hs) (fun s1 => law2_KeysJoin.k1 r1 r2 r3 s1 = some r) (fun s1 x8 hk1 => ?_) (fun J1 => ?_)
  · unfold law2_KeysJoin.k1 at hk1
    refine T.cond rfl (fun hb1 => ?_) (fun hb1 => ?_)
    · replace hk1 := inv_posB hb1 hk1
      refine T.seq ?_
      refine T.region ?_
      refine T.assign .list rfl (wants0 rfl) rfl rfl ?_
      refine T.nil ?_
      refine T.then_normal ?_
      refine T.ret ?_
      refine T.then_ret ?_
      obtain rfl := inv_some hk1
      refine T.pick [] 3 rfl rfl (Nat.le_add_left _ _) rfl ?_
      refine T.ret1 rfl rfl (fun w hS => ⟨(), rfl, hS⟩)
    · replace hk1 := inv_negB hb1 hk1
      refine T.skip ?_
      refine T.then_normal ?_
      refine T.seq ?_
      refine T.region ?_
      refine T.move .list rfl (wants0 rfl) rfl rfl ?_
      refine T.move .list rfl (wants0 rfl) rfl rfl ?_
      obtain ⟨r8, hg8, hk1⟩ := inv_bind hk1
      refine T.call .list (wants0 rfl) rfl (run_callF (vs := [_, _]) rfl Tryd.func22 rfl (by decide) rfl) (fun w hS => keys_Compare.c hB hS (i0 := 0) (i1 := 1) rfl rfl hg8) (fun x9 => ?_)
      refine T.move .list rfl (wants0 rfl) rfl rfl ?_
      refine T.move .list rfl (wants0 rfl) rfl rfl ?_
      refine T.freeze 2 rfl rfl rfl ?_
      obtain ⟨r9, hg9, hk1⟩ := inv_bind hk1
      refine T.call .list (wants0 rfl) rfl (run_callF (vs := [_, _]) rfl Tryd.func22 rfl (by decide) rfl) (fun w hS => keys_Compare.c hB hS (i0 := 1) (i1 := 2) rfl rfl hg9) (fun x10 => ?_)
      refine T.move .list rfl (wants0 rfl) rfl rfl ?_
      refine T.move .list rfl (wants0 rfl) rfl rfl ?_
      obtain ⟨r10, hg10, hk1⟩ := inv_bind hk1
      refine T.call .list (wants0 rfl) rfl (run_callF (vs := [_, _]) rfl Tryd.func22 rfl (by decide) rfl) (fun w hS => keys_Compare.c hB hS (i0 := 0) (i1 := 2) rfl rfl hg10) (fun x11 => ?_)
      refine T.assign .list rfl (wants0 rfl) rfl rfl ?_
      refine T.assign .list rfl (wants0 rfl) rfl rfl ?_
      refine T.assign .list rfl (wants0 rfl) rfl rfl ?_
      refine T.nil ?_
      refine T.then_normal ?_
      refine T.seq ?_
      refine T.seqJ (fun (s2 : Bool) (x12 : Unit) => [(7, .slice x1.1 r1.length x1.2), (8, .slice x2.1 r2.length x2.2), (97, .bool s2)]) (fun s2 x12 => Ro (Elt.pair E64 (Elt.pair E64 EStr)) x1.1 x1.2 r1 :: Ro (Elt.pair E64 (Elt.pair E64 EStr)) x2.1 x2.2 r2 :: hs) (fun s2 => law2_KeysJoin.k2 r1 r2 s2 = some r) (fun s2 x12 hk2 => ?_) (fun J2 => ?_)
      · unfold law2_KeysJoin.k2 at hk2
        refine T.cond rfl (fun hb2 => ?_) (fun hb2 => ?_)
        · replace hk2 := inv_posB hb2 hk2
          refine T.seq ?_
          refine T.region ?_
          refine T.assign .list rfl (wants0 rfl) rfl rfl ?_
          refine T.nil ?_
          refine T.then_normal ?_
          refine T.ret ?_
          refine T.then_ret ?_
          obtain rfl := inv_some hk2
          refine T.pick [] 2 rfl rfl (Nat.le_add_left _ _) rfl ?_
          refine T.ret1 rfl rfl (fun w hS => ⟨(), rfl, hS⟩)
        · replace hk2 := inv_negB hb2 hk2
          refine T.skip ?_
          refine T.then_normal ?_
          refine T.seq ?_
          refine T.region ?_
          refine T.move .list rfl (wants0 rfl) rfl rfl ?_
          obtain ⟨r11, hg11, hk2⟩ := inv_bind hk2
          refine T.call .list (wants0 rfl) rfl (run_callF (vs := [_, _]) rfl Tryd.func15 rfl (by decide) rfl) (fun w hS => law2_few.c hB hS (i0 := 0) rfl hg11) (fun x13 => ?_)
          refine T.move .list rfl (wants0 rfl) rfl rfl ?_
          refine T.takeBf 0 (r11.1 : Int).toNat (l' := subl r11.2 0 r11.1) rfl rfl rfl ?_
          obtain ⟨hc2, hk2⟩ := inv_chk hk2
          refine T.appRo .list 0 2 rfl rfl rfl rfl rfl (wants0 rfl) rfl rfl rfl rfl rfl rfl hc2 (fun _ _ => rfl) (fun A5 c5 => ?_)
          refine T.move .list rfl (wants0 rfl) rfl rfl ?_
          refine T.freeze 0 rfl rfl rfl ?_
          obtain ⟨r12, hg12, hk2⟩ := inv_bind hk2
          refine T.call .list (wants0 rfl) rfl (run_callF (vs := [_, _]) rfl Tryd.func22 rfl (by decide) rfl) (fun w hS => keys_Compare.c hB hS (i0 := 0) (i1 := 1) rfl rfl hg12) (fun x14 => ?_)
          refine T.bin .list rfl (wants0 rfl) rfl rfl rfl rfl ?_
          refine T.assign .list rfl (wants0 rfl) rfl rfl ?_
          refine T.nil ?_
          refine T.then_normal ?_
          refine T.ret ?_
          obtain rfl := inv_some hk2
          refine T.pick [] 3 rfl rfl (Nat.le_add_left _ _) rfl ?_
          refine T.ret1 rfl rfl (fun w hS => ⟨(), rfl, hS⟩)
      · refine T.region ?_
        refine T.move .list rfl (wants0 rfl) rfl rfl ?_
        refine T.bin .list rfl (wants0 rfl) rfl rfl rfl rfl ?_
        refine T.move .list rfl (wants0 rfl) rfl rfl ?_
        refine T.bool (b := (decide (r8 ≤ 0))) (fun hb3 => ?_) (fun hb3 => ?_)
        · replace hk1 := inv_posB hb3 hk1
          refine T.move .list rfl (wants1 rfl rfl rfl hb3) rfl rfl ?_
          refine T.bin .list rfl (wants1 rfl rfl rfl hb3) rfl rfl rfl rfl ?_
          refine T.pickT .list rfl (wants0 rfl) rfl rfl hb3 rfl ?_
          refine T.move .list rfl (wants0 rfl) rfl rfl ?_
          refine T.bool (b := (decide (r9 ≤ 0))) (fun hb4 => ?_) (fun hb4 => ?_)
          · replace hk1 := inv_posB hb4 hk1
            refine T.move .list rfl (wants1 rfl rfl rfl hb4) rfl rfl ?_
            refine T.bin .list rfl (wants1 rfl rfl rfl hb4) rfl rfl rfl rfl ?_
            refine T.pickT .list rfl (wants0 rfl) rfl rfl hb4 rfl ?_
            refine T.move .list rfl (wants0 rfl) rfl rfl ?_
            refine T.bool (b := (decide ((0 : Int) < r10))) (fun hb5 => ?_) (fun hb5 => ?_)
            · replace hk1 := inv_posB hb5 hk1
              refine T.leave .list (wantsNot rfl rfl rfl hb5) rfl ?_
              refine T.leave .list (wantsNot rfl rfl rfl hb5) rfl ?_
              refine T.leave .list (wantsNot rfl rfl rfl hb5) rfl ?_
              refine T.leave .list (wantsUndef rfl rfl rfl) rfl ?_
              refine T.leave .list (wantsUndef rfl rfl rfl) rfl ?_
              refine T.leave .list (wantsNot rfl rfl rfl hb5) rfl ?_
              refine T.leave .list (wantsNot rfl rfl rfl hb5) rfl ?_
              refine T.leave .list (wantsUndef rfl rfl rfl) rfl ?_
              refine T.leave .list (wantsUndef rfl rfl rfl) rfl ?_
              refine T.leave .list (wantsNot rfl rfl rfl hb5) rfl ?_
              refine T.pickT .list rfl (wants0 rfl) rfl rfl hb5 rfl ?_
              refine T.nil ?_
              refine T.then_normal ?_
              exact T.le (EnvLe.cons rfl (EnvLe.cons rfl (EnvLe.cons rfl EnvLe.nil))) (T.pick [0, 1] 3 rfl rfl (Nat.le_add_left _ _) rfl (J2 true () hk1))
            · replace hk1 := inv_negB hb5 hk1
              refine T.move .list rfl (wants1 rfl rfl rfl hb5) rfl rfl ?_
              refine T.bin .list rfl (wants1 rfl rfl rfl hb5) rfl rfl rfl rfl ?_
              refine T.move .list rfl (wants1 rfl rfl rfl hb5) rfl rfl ?_
              refine T.bool (b := (decide (r8 < 0))) (fun hb6 => ?_) (fun hb6 => ?_)
              · replace hk1 := inv_posB hb6 hk1
                refine T.move .list rfl (wants1 rfl rfl rfl hb6) rfl rfl ?_
                refine T.bin .list rfl (wants1 rfl rfl rfl hb6) rfl rfl rfl rfl ?_
                refine T.pickT .list rfl (wants1 rfl rfl rfl hb5) rfl rfl hb6 rfl ?_
                refine T.move .list rfl (wants1 rfl rfl rfl hb5) rfl rfl ?_
                refine T.move .list rfl (wants1 rfl rfl rfl hb4) rfl rfl ?_
                refine T.bin .list rfl (wants1 rfl rfl rfl hb4) rfl rfl rfl rfl ?_
                refine T.pickT .list rfl (wants1 rfl rfl rfl hb5) rfl rfl hb4 rfl ?_
                refine T.pickF .list rfl (wants0 rfl) rfl rfl hb5 rfl ?_
                refine T.nil ?_
                refine T.then_normal ?_
                exact T.le (EnvLe.cons rfl (EnvLe.cons rfl (EnvLe.cons rfl EnvLe.nil))) (T.pick [0, 1] 3 rfl rfl (Nat.le_add_left _ _) rfl (J2 (decide ((0 : Int) ≤ r10)) () hk1))
              · replace hk1 := inv_negB hb6 hk1
                refine T.leave .list (wantsNot rfl rfl rfl hb6) rfl ?_
                refine T.leave .list (wantsNot rfl rfl rfl hb6) rfl ?_
                refine T.pickF .list rfl (wants1 rfl rfl rfl hb5) rfl rfl hb6 rfl ?_
                refine T.move .list rfl (wants1 rfl rfl rfl hb5) rfl rfl ?_
                refine T.leave .list (wantsNot rfl rfl rfl rfl) rfl ?_
                refine T.leave .list (wantsNot rfl rfl rfl rfl) rfl ?_
                refine T.pickF .list rfl (wants1 rfl rfl rfl hb5) rfl rfl rfl rfl ?_
                refine T.pickF .list rfl (wants0 rfl) rfl rfl hb5 rfl ?_
                refine T.nil ?_
                refine T.then_normal ?_
                exact T.le (EnvLe.cons rfl (EnvLe.cons rfl (EnvLe.cons rfl EnvLe.nil))) (T.pick [0, 1] 3 rfl rfl (Nat.le_add_left _ _) rfl (J2 false () hk1))
          · replace hk1 := inv_negB hb4 hk1
            refine T.leave .list (wantsNot rfl rfl rfl hb4) rfl ?_
            refine T.leave .list (wantsNot rfl rfl rfl hb4) rfl ?_
            refine T.pickF .list rfl (wants0 rfl) rfl rfl hb4 rfl ?_
            refine T.move .list rfl (wants0 rfl) rfl rfl ?_
            refine T.move .list rfl (wants1 rfl rfl rfl rfl) rfl rfl ?_
            refine T.bin .list rfl (wants1 rfl rfl rfl rfl) rfl rfl rfl rfl ?_
            refine T.move .list rfl (wants1 rfl rfl rfl rfl) rfl rfl ?_
            refine T.bool (b := (decide (r8 < 0))) (fun hb7 => ?_) (fun hb7 => ?_)
            · replace hk1 := inv_posB hb7 hk1
              refine T.move .list rfl (wants1 rfl rfl rfl hb7) rfl rfl ?_
              refine T.bin .list rfl (wants1 rfl rfl rfl hb7) rfl rfl rfl rfl ?_
              refine T.pickT .list rfl (wants1 rfl rfl rfl rfl) rfl rfl hb7 rfl ?_
              refine T.move .list rfl (wants1 rfl rfl rfl rfl) rfl rfl ?_
              refine T.leave .list (wantsNot rfl rfl rfl hb4) rfl ?_
              refine T.leave .list (wantsNot rfl rfl rfl hb4) rfl ?_
              refine T.pickF .list rfl (wants1 rfl rfl rfl rfl) rfl rfl hb4 rfl ?_
              refine T.pickF .list rfl (wants0 rfl) rfl rfl rfl rfl ?_
              refine T.nil ?_
              refine T.then_normal ?_
              exact T.le (EnvLe.cons rfl (EnvLe.cons rfl (EnvLe.cons rfl EnvLe.nil))) (T.pick [0, 1] 3 rfl rfl (Nat.le_add_left _ _) rfl (J2 false () hk1))
            · replace hk1 := inv_negB hb7 hk1
              refine T.leave .list (wantsNot rfl rfl rfl hb7) rfl ?_
              refine T.leave .list (wantsNot rfl rfl rfl hb7) rfl ?_
              refine T.pickF .list rfl (wants1 rfl rfl rfl rfl) rfl rfl hb7 rfl ?_
              refine T.move .list rfl (wants1 rfl rfl rfl rfl) rfl rfl ?_
              refine T.leave .list (wantsNot rfl rfl rfl rfl) rfl ?_
              refine T.leave .list (wantsNot rfl rfl rfl rfl) rfl ?_
              refine T.pickF .list rfl (wants1 rfl rfl rfl rfl) rfl rfl rfl rfl ?_
              refine T.pickF .list rfl (wants0 rfl) rfl rfl rfl rfl ?_
              refine T.nil ?_
              refine T.then_normal ?_
              exact T.le (EnvLe.cons rfl (EnvLe.cons rfl (EnvLe.cons rfl EnvLe.nil))) (T.pick [0, 1] 3 rfl rfl (Nat.le_add_left _ _) rfl (J2 false () hk1))
        · replace hk1 := inv_negB hb3 hk1
          refine T.leave .list (wantsNot rfl rfl rfl hb3) rfl ?_
          refine T.leave .list (wantsNot rfl rfl rfl hb3) rfl ?_
          refine T.pickF .list rfl (wants0 rfl) rfl rfl hb3 rfl ?_
          refine T.move .list rfl (wants0 rfl) rfl rfl ?_
          refine T.leave .list (wantsNot rfl rfl rfl rfl) rfl ?_
          refine T.leave .list (wantsNot rfl rfl rfl rfl) rfl ?_
          refine T.pickF .list rfl (wants0 rfl) rfl rfl rfl rfl ?_
          refine T.move .list rfl (wants0 rfl) rfl rfl ?_
          refine T.move .list rfl (wants1 rfl rfl rfl rfl) rfl rfl ?_
          refine T.bin .list rfl (wants1 rfl rfl rfl rfl) rfl rfl rfl rfl ?_
          refine T.move .list rfl (wants1 rfl rfl rfl rfl) rfl rfl ?_
          refine T.bool (b := (decide (r8 < 0))) (fun hb8 => ?_) (fun hb8 => ?_)
          · replace hk1 := inv_posB hb8 hk1
            refine T.move .list rfl (wants1 rfl rfl rfl hb8) rfl rfl ?_
            refine T.bin .list rfl (wants1 rfl rfl rfl hb8) rfl rfl rfl rfl ?_
            refine T.pickT .list rfl (wants1 rfl rfl rfl rfl) rfl rfl hb8 rfl ?_
            refine T.move .list rfl (wants1 rfl rfl rfl rfl) rfl rfl ?_
            refine T.bool (b := (decide (r9 ≤ 0))) (fun hb9 => ?_) (fun hb9 => ?_)
            · replace hk1 := inv_posB hb9 hk1
              refine T.move .list rfl (wants1 rfl rfl rfl hb9) rfl rfl ?_
              refine T.bin .list rfl (wants1 rfl rfl rfl hb9) rfl rfl rfl rfl ?_
              refine T.pickT .list rfl (wants1 rfl rfl rfl rfl) rfl rfl hb9 rfl ?_
              refine T.pickF .list rfl (wants0 rfl) rfl rfl rfl rfl ?_
              refine T.nil ?_
              refine T.then_normal ?_
              exact T.le (EnvLe.cons rfl (EnvLe.cons rfl (EnvLe.cons rfl EnvLe.nil))) (T.pick [0, 1] 3 rfl rfl (Nat.le_add_left _ _) rfl (J2 (decide ((0 : Int) ≤ r10)) () hk1))
            · replace hk1 := inv_negB hb9 hk1
              refine T.leave .list (wantsNot rfl rfl rfl hb9) rfl ?_
              refine T.leave .list (wantsNot rfl rfl rfl hb9) rfl ?_
              refine T.pickF .list rfl (wants1 rfl rfl rfl rfl) rfl rfl hb9 rfl ?_
              refine T.pickF .list rfl (wants0 rfl) rfl rfl rfl rfl ?_
              refine T.nil ?_
              refine T.then_normal ?_
              exact T.le (EnvLe.cons rfl (EnvLe.cons rfl (EnvLe.cons rfl EnvLe.nil))) (T.pick [0, 1] 3 rfl rfl (Nat.le_add_left _ _) rfl (J2 false () hk1))
          · replace hk1 := inv_negB hb8 hk1
            refine T.leave .list (wantsNot rfl rfl rfl hb8) rfl ?_
            refine T.leave .list (wantsNot rfl rfl rfl hb8) rfl ?_
            refine T.pickF .list rfl (wants1 rfl rfl rfl rfl) rfl rfl hb8 rfl ?_
            refine T.move .list rfl (wants1 rfl rfl rfl rfl) rfl rfl ?_
            refine T.leave .list (wantsNot rfl rfl rfl rfl) rfl ?_
            refine T.leave .list (wantsNot rfl rfl rfl rfl) rfl ?_
            refine T.pickF .list rfl (wants1 rfl rfl rfl rfl) rfl rfl rfl rfl ?_
            refine T.pickF .list rfl (wants0 rfl) rfl rfl rfl rfl ?_
            refine T.nil ?_
            refine T.then_normal ?_
            exact T.le (EnvLe.cons rfl (EnvLe.cons rfl (EnvLe.cons rfl EnvLe.nil))) (T.pick [0, 1] 3 rfl rfl (Nat.le_add_left _ _) rfl (J2 false () hk1))
  · refine T.region ?_
    obtain ⟨r13, hg13, hr⟩ := inv_bind hr
    refine T.call .list (wants0 rfl) rfl (run_callF (vs := []) rfl Tryd.func10 rfl (by decide) rfl) (fun w hS => law2_told.c hB hS  hg13) (fun x15 => ?_)
    refine T.not .list rfl (wants0 rfl) rfl rfl ?_
    refine T.move .list rfl (wants0 rfl) rfl rfl ?_
    refine T.bool (b := r13) (fun hb10 => ?_) (fun hb10 => ?_)
    · replace hr := inv_posB hb10 hr
      refine T.move .list rfl (wants1 rfl rfl rfl (not_t hb10)) rfl rfl ?_
      refine T.bin .list rfl (wants1 rfl rfl rfl (not_t hb10)) rfl rfl rfl rfl ?_
      refine T.pickF .list rfl (wants0 rfl) rfl rfl (not_t hb10) rfl ?_
      refine T.move .list rfl (wants0 rfl) rfl rfl ?_
      refine T.bool (b := (decide (r4.2 = 0))) (fun hb11 => ?_) (fun hb11 => ?_)
      · replace hr := inv_posB hb11 hr
        refine T.move .list rfl (wants1 rfl rfl rfl (not_t hb11)) rfl rfl ?_
        refine T.bin .list rfl (wants1 rfl rfl rfl (not_t hb11)) rfl rfl rfl rfl ?_
        refine T.pickF .list rfl (wants0 rfl) rfl rfl (not_t hb11) rfl ?_
        refine T.move .list rfl (wants0 rfl) rfl rfl ?_
        refine T.bool (b := (decide (r5.2 = 0))) (fun hb12 => ?_) (fun hb12 => ?_)
        · replace hr := inv_posB hb12 hr
          refine T.move .list rfl (wants1 rfl rfl rfl (not_t hb12)) rfl rfl ?_
          refine T.bin .list rfl (wants1 rfl rfl rfl (not_t hb12)) rfl rfl rfl rfl ?_
          refine T.pickF .list rfl (wants0 rfl) rfl rfl (not_t hb12) rfl ?_
          refine T.move .list rfl (wants0 rfl) rfl rfl ?_
          refine T.bool (b := (decide (r7.2 = 0))) (fun hb13 => ?_) (fun hb13 => ?_)
          · replace hr := inv_posB hb13 hr
            refine T.move .list rfl (wants1 rfl rfl rfl (not_t hb13)) rfl rfl ?_
            refine T.strBf .list 0 rfl rfl (wants1 rfl rfl rfl (not_t hb13)) rfl rfl rfl ?_
            refine T.move .list rfl (wants1 rfl rfl rfl (not_t hb13)) rfl rfl ?_
            refine T.strBf .list 3 rfl rfl (wants1 rfl rfl rfl (not_t hb13)) rfl rfl rfl ?_
            refine T.move .list rfl (wants1 rfl rfl rfl (not_t hb13)) rfl rfl ?_
            refine T.strBf .list 2 rfl rfl (wants1 rfl rfl rfl (not_t hb13)) rfl rfl rfl ?_
            obtain ⟨hc3, hr⟩ := inv_chk hr
            refine T.strAdd .list rfl (wants1 rfl rfl rfl (not_t hb13)) rfl (l := r4.1) (l' := r5.1) rfl rfl hc3 ?_
            refine T.strNe .list rfl (wants1 rfl rfl rfl (not_t hb13)) rfl (l := r7.1) (l' := (r4.1 ++ r5.1)) rfl rfl ?_
            refine T.pickF .list rfl (wants0 rfl) rfl rfl (not_t hb13) rfl ?_
            refine T.nil ?_
            refine T.then_normal ?_
            exact T.le (EnvLe.cons rfl (EnvLe.cons rfl (EnvLe.cons rfl (EnvLe.cons rfl EnvLe.nil)))) (T.pick [6, 5, 4] 10 rfl rfl (Nat.le_add_left _ _) rfl (J1 (!(decide (r7.1 = (r4.1 ++ r5.1)))) () hr))
          · replace hr := inv_negB hb13 hr
            refine T.leave .list (wantsNot rfl rfl rfl (not_f hb13)) rfl ?_
            refine T.leave .list (wantsNot rfl rfl rfl (not_f hb13)) rfl ?_
            refine T.leave .list (wantsNot rfl rfl rfl (not_f hb13)) rfl ?_
            refine T.leave .list (wantsNot rfl rfl rfl (not_f hb13)) rfl ?_
            refine T.leave .list (wantsNot rfl rfl rfl (not_f hb13)) rfl ?_
            refine T.leave .list (wantsNot rfl rfl rfl (not_f hb13)) rfl ?_
            refine T.leave .list (wantsNot rfl rfl rfl (not_f hb13)) rfl ?_
            refine T.leave .list (wantsNot rfl rfl rfl (not_f hb13)) rfl ?_
            refine T.pickT .list rfl (wants0 rfl) rfl rfl (not_f hb13) rfl ?_
            refine T.nil ?_
            refine T.then_normal ?_
            exact T.le (EnvLe.cons rfl (EnvLe.cons rfl (EnvLe.cons rfl (EnvLe.cons rfl EnvLe.nil)))) (T.pick [6, 5, 4] 10 rfl rfl (Nat.le_add_left _ _) rfl (J1 true () hr))
        · replace hr := inv_negB hb12 hr
          refine T.leave .list (wantsNot rfl rfl rfl (not_f hb12)) rfl ?_
          refine T.leave .list (wantsNot rfl rfl rfl (not_f hb12)) rfl ?_
          refine T.pickT .list rfl (wants0 rfl) rfl rfl (not_f hb12) rfl ?_
          refine T.move .list rfl (wants0 rfl) rfl rfl ?_
          refine T.leave .list (wantsNot rfl rfl rfl rfl) rfl ?_
          refine T.leave .list (wantsNot rfl rfl rfl rfl) rfl ?_
          refine T.leave .list (wantsNot rfl rfl rfl rfl) rfl ?_
          refine T.leave .list (wantsNot rfl rfl rfl rfl) rfl ?_
          refine T.leave .list (wantsNot rfl rfl rfl rfl) rfl ?_
          refine T.leave .list (wantsNot rfl rfl rfl rfl) rfl ?_
          refine T.leave .list (wantsNot rfl rfl rfl rfl) rfl ?_
          refine T.leave .list (wantsNot rfl rfl rfl rfl) rfl ?_
          refine T.pickT .list rfl (wants0 rfl) rfl rfl rfl rfl ?_
          refine T.nil ?_
          refine T.then_normal ?_
          exact T.le (EnvLe.cons rfl (EnvLe.cons rfl (EnvLe.cons rfl (EnvLe.cons rfl EnvLe.nil)))) (T.pick [6, 5, 4] 10 rfl rfl (Nat.le_add_left _ _) rfl (J1 true () hr))
      · replace hr := inv_negB hb11 hr
        refine T.leave .list (wantsNot rfl rfl rfl (not_f hb11)) rfl ?_
        refine T.leave .list (wantsNot rfl rfl rfl (not_f hb11)) rfl ?_
        refine T.pickT .list rfl (wants0 rfl) rfl rfl (not_f hb11) rfl ?_
        refine T.move .list rfl (wants0 rfl) rfl rfl ?_
        refine T.leave .list (wantsNot rfl rfl rfl rfl) rfl ?_
        refine T.leave .list (wantsNot rfl rfl rfl rfl) rfl ?_
        refine T.pickT .list rfl (wants0 rfl) rfl rfl rfl rfl ?_
        refine T.move .list rfl (wants0 rfl) rfl rfl ?_
        refine T.leave .list (wantsNot rfl rfl rfl rfl) rfl ?_
        refine T.leave .list (wantsNot rfl rfl rfl rfl) rfl ?_
        refine T.leave .list (wantsNot rfl rfl rfl rfl) rfl ?_
        refine T.leave .list (wantsNot rfl rfl rfl rfl) rfl ?_
        refine T.leave .list (wantsNot rfl rfl rfl rfl) rfl ?_
        refine T.leave .list (wantsNot rfl rfl rfl rfl) rfl ?_
        refine T.leave .list (wantsNot rfl rfl rfl rfl) rfl ?_
        refine T.leave .list (wantsNot rfl rfl rfl rfl) rfl ?_
        refine T.pickT .list rfl (wants0 rfl) rfl rfl rfl rfl ?_
        refine T.nil ?_
        refine T.then_normal ?_
        exact T.le (EnvLe.cons rfl (EnvLe.cons rfl (EnvLe.cons rfl (EnvLe.cons rfl EnvLe.nil)))) (T.pick [6, 5, 4] 10 rfl rfl (Nat.le_add_left _ _) rfl (J1 true () hr))
    · replace hr := inv_negB hb10 hr
      refine T.leave .list (wantsNot rfl rfl rfl (not_f hb10)) rfl ?_
      refine T.leave .list (wantsNot rfl rfl rfl (not_f hb10)) rfl ?_
      refine T.pickT .list rfl (wants0 rfl) rfl rfl (not_f hb10) rfl ?_
      refine T.move .list rfl (wants0 rfl) rfl rfl ?_
      refine T.leave .list (wantsNot rfl rfl rfl rfl) rfl ?_
      refine T.leave .list (wantsNot rfl rfl rfl rfl) rfl ?_
      refine T.pickT .list rfl (wants0 rfl) rfl rfl rfl rfl ?_
      refine T.move .list rfl (wants0 rfl) rfl rfl ?_
      refine T.leave .list (wantsNot rfl rfl rfl rfl) rfl ?_
      refine T.leave .list (wantsNot rfl rfl rfl rfl) rfl ?_
      refine T.pickT .list rfl (wants0 rfl) rfl rfl rfl rfl ?_
      refine T.move .list rfl (wants0 rfl) rfl rfl ?_
      refine T.leave .list (wantsNot rfl rfl rfl rfl) rfl ?_
      refine T.leave .list (wantsNot rfl rfl rfl rfl) rfl ?_
      refine T.leave .list (wantsNot rfl rfl rfl rfl) rfl ?_
      refine T.leave .list (wantsNot rfl rfl rfl rfl) rfl ?_
      refine T.leave .list (wantsNot rfl rfl rfl rfl) rfl ?_
      refine T.leave .list (wantsNot rfl rfl rfl rfl) rfl ?_
      refine T.leave .list (wantsNot rfl rfl rfl rfl) rfl ?_
      refine T.leave .list (wantsNot rfl rfl rfl rfl) rfl ?_
      refine T.pickT .list rfl (wants0 rfl) rfl rfl rfl rfl ?_
      refine T.nil ?_
      refine T.then_normal ?_
      exact T.le (EnvLe.cons rfl (EnvLe.cons rfl (EnvLe.cons rfl (EnvLe.cons rfl EnvLe.nil)))) (T.pick [6, 5, 4] 10 rfl rfl (Nat.le_add_left _ _) rfl (J1 true () hr))

noncomputable def law2_KeysTexts.k2 (l0 : List UInt8) (r1 : Int) (s2 : Bool) : Option Bool :=
  (if s2 = true then some false else (ref2_Decode.impl l0).bind fun r8 => (law2_told.impl ).bind fun r9 => (if r9 = true then (if r8.2 = true then some (decide ((((r8.1.length : Int))) = r1)) else some false) else some false))
noncomputable def law2_KeysTexts.k1 (r1 : Int) (r2 : Int) (l1 : List UInt8) (l0 : List UInt8) (r3 : Int) (s1 : Bool) : Option Bool :=
  (if s1 = true then (law2_told.impl ).bind fun r4 => (if r4 = true then (if ((decide ((0 : Int) ≤ r1))) = true then (if ((decide ((0 : Int) ≤ r2))) = true then some true else (keys_Fold.impl l1).bind fun r5 => some (decide (r5 = (([] : List UInt8))))) else (keys_Fold.impl l0).bind fun r6 => (if ((decide (r6 = (([] : List UInt8))))) = true then (if ((decide ((0 : Int) ≤ r2))) = true then some true else (keys_Fold.impl l1).bind fun r7 => some (decide (r7 = (([] : List UInt8))))) else some false)) else some false) else chk (l0.length + l1.length ≤ 9223372036854775807) ((if ((decide (r3 = (IntKind.i64.wrap (r1 + r2))))) = true then chk (l0.length + l1.length ≤ 9223372036854775807) ((keys_Fold.impl (l0 ++ l1)).bind fun r10 => (keys_Fold.impl l0).bind fun r11 => (keys_Fold.impl l1).bind fun r12 => chk (r11.length + r12.length ≤ 9223372036854775807) ((if ((decide (r10 = (r11 ++ r12)))) = true then (keys_Compare.impl (([(2, 0, l0)] : List (Int × Int × (List UInt8)))) (([(2, 0, l0 ++ l1)] : List (Int × Int × (List UInt8))))).bind fun r13 => (if ((decide ((0 : Int) < r13))) = true then law2_KeysTexts.k2 l0 r1 true else (keys_Compare.impl (([(2, 0, l0)] : List (Int × Int × (List UInt8)))) (([(2, 0, l0 ++ l1)] : List (Int × Int × (List UInt8))))).bind fun r14 => law2_KeysTexts.k2 l0 r1 (!(decide ((decide (r14 = 0)) = (decide (l1 = (([] : List UInt8)))))))) else law2_KeysTexts.k2 l0 r1 true))) else law2_KeysTexts.k2 l0 r1 true)))
noncomputable def law2_KeysTexts.impl (l0 : List UInt8) (l1 : List UInt8) : Option Bool :=
  (keys_Runes.impl l0).bind fun r1 => (keys_Runes.impl l1).bind fun r2 => chk (l0.length + l1.length ≤ 9223372036854775807) ((keys_Runes.impl (l0 ++ l1)).bind fun r3 => (if ((decide (r1 < 0))) = true then law2_KeysTexts.k1 r1 r2 l1 l0 r3 true else law2_KeysTexts.k1 r1 r2 l1 l0 r3 (decide (r2 < 0))))
set_option maxRecDepth 100000 in
set_option maxHeartbeats 1000000 in
theorem law2_KeysTexts.c {B : World} {hs : List MP} {w : World} {l0 : List UInt8} {l1 : List UInt8} (hB : Base B) (hS : St B (hs) w) {r : Bool} (hr : law2_KeysTexts.impl l0 l1 = some r) :
    Calls Tryd.prog 9 #[str l0, str l1] w fun e w' => ∃ x : Unit, e = .returned (.bool r) ∧ St B (hs) w' := by
  unfold law2_KeysTexts.impl at hr
  refine calls_T Tryd.func9 rfl rfl rfl hS ?_
  refine T.seq ?_
  refine T.region ?_
  refine T.assign .list rfl (wants0 rfl) rfl rfl ?_
  refine T.nil ?_
  refine T.then_normal ?_
  refine T.seq ?_
  refine T.region ?_
  refine T.move .list rfl (wants0 rfl) rfl rfl ?_
  obtain ⟨r1, hg1, hr⟩ := inv_bind hr
  refine T.call .list (wants0 rfl) rfl (run_callF (vs := [_]) rfl Tryd.func13 rfl (by decide) rfl) (fun w hS => keys_Runes.c hB hS  hg1) (fun x1 => ?_)
  refine T.move .list rfl (wants0 rfl) rfl rfl ?_
  obtain ⟨r2, hg2, hr⟩ := inv_bind hr
  refine T.call .list (wants0 rfl) rfl (run_callF (vs := [_]) rfl Tryd.func13 rfl (by decide) rfl) (fun w hS => keys_Runes.c hB hS  hg2) (fun x2 => ?_)
  refine T.move .list rfl (wants0 rfl) rfl rfl ?_
  refine T.move .list rfl (wants0 rfl) rfl rfl ?_
  obtain ⟨hc1, hr⟩ := inv_chk hr
  refine T.strAdd .list rfl (wants0 rfl) rfl (l := l0) (l' := l1) rfl rfl hc1 ?_
  obtain ⟨r3, hg3, hr⟩ := inv_bind hr
  refine T.call .list (wants0 rfl) rfl (run_callF (vs := [_]) rfl Tryd.func13 rfl (by decide) rfl) (fun w hS => keys_Runes.c hB hS  hg3) (fun x3 => ?_)
  refine T.assign .list rfl (wants0 rfl) rfl rfl ?_
  refine T.assign .list rfl (wants0 rfl) rfl rfl ?_
  refine T.assign .list rfl (wants0 rfl) rfl rfl ?_
  refine T.nil ?_
  refine T.then_normal ?_
  refine T.seq ?_
  refine T.seqJ (fun (s1 : Bool) (x4 : Unit) => [(0, str l0), (1, str l1), (5, .int .i64 r1), (6, .int .i64 r2), (7, .int .i64 r3), (25, .bool s1)]) (fun s1 x4 => hs) (fun s1 => law2_KeysTexts.k1 r1 r2 l1 l0 r3 s1 = some r) (fun s1 x4 hk1 => ?_) (fun J1 => ?_)
  · unfold law2_KeysTexts.k1 at hk1
    refine T.cond rfl (fun hb1 => ?_) (fun hb1 => ?_)
    · replace hk1 := inv_posB hb1 hk1
      refine T.seq ?_
      refine T.region ?_
      obtain ⟨r4, hg4, hk1⟩ := inv_bind hk1
      refine T.call .list (wants0 rfl) rfl (run_callF (vs := []) rfl Tryd.func10 rfl (by decide) rfl) (fun w hS => law2_told.c hB hS  hg4) (fun x5 => ?_)
      refine T.move .list rfl (wants0 rfl) rfl rfl ?_
      refine T.bool (b := r4) (fun hb2 => ?_) (fun hb2 => ?_)
      · replace hk1 := inv_posB hb2 hk1
        refine T.move .list rfl (wants1 rfl rfl rfl hb2) rfl rfl ?_
        refine T.bin .list rfl (wants1 rfl rfl rfl hb2) rfl rfl rfl rfl ?_
        refine T.move .list rfl (wants1 rfl rfl rfl hb2) rfl rfl ?_
        refine T.bool (b := (decide ((0 : Int) ≤ r1))) (fun hb3 => ?_) (fun hb3 => ?_)
        · replace hk1 := inv_posB hb3 hk1
          refine T.leave .list (wantsNot rfl rfl rfl hb3) rfl ?_
          refine T.leave .list (wantsNot rfl rfl rfl hb3) rfl ?_
          refine T.leave .list (wantsNot rfl rfl rfl hb3) rfl ?_
          refine T.pickT .list rfl (wants1 rfl rfl rfl hb2) rfl rfl hb3 rfl ?_
          refine T.pickT .list rfl (wants0 rfl) rfl rfl hb2 rfl ?_
          refine T.move .list rfl (wants0 rfl) rfl rfl ?_
          refine T.move .list rfl (wants1 rfl rfl rfl rfl) rfl rfl ?_
          refine T.bin .list rfl (wants1 rfl rfl rfl rfl) rfl rfl rfl rfl ?_
          refine T.move .list rfl (wants1 rfl rfl rfl rfl) rfl rfl ?_
          refine T.bool (b := (decide ((0 : Int) ≤ r2))) (fun hb4 => ?_) (fun hb4 => ?_)
          · replace hk1 := inv_posB hb4 hk1
            refine T.leave .list (wantsNot rfl rfl rfl hb4) rfl ?_
            refine T.leave .list (wantsNot rfl rfl rfl hb4) rfl ?_
            refine T.leave .list (wantsNot rfl rfl rfl hb4) rfl ?_
            refine T.pickT .list rfl (wants1 rfl rfl rfl rfl) rfl rfl hb4 rfl ?_
            refine T.pickT .list rfl (wants0 rfl) rfl rfl rfl rfl ?_
            refine T.assign .list rfl (wants0 rfl) rfl rfl ?_
            refine T.nil ?_
            refine T.then_normal ?_
            refine T.ret ?_
            refine T.then_ret ?_
            obtain rfl := inv_some hk1
            refine T.pick [] 0 rfl rfl (Nat.le_add_left _ _) rfl ?_
            refine T.ret1 rfl rfl (fun w hS => ⟨(), rfl, hS⟩)
          · replace hk1 := inv_negB hb4 hk1
            refine T.move .list rfl (wants1 rfl rfl rfl hb4) rfl rfl ?_
            obtain ⟨r5, hg5, hk1⟩ := inv_bind hk1
            refine T.call .list (wants1 rfl rfl rfl hb4) rfl (run_callF (vs := [_]) rfl Tryd.func24 rfl (by decide) rfl) (fun w hS => keys_Fold.c hB hS  hg5) (fun x6 => ?_)
            refine T.strEq .list rfl (wants1 rfl rfl rfl hb4) rfl (l := r5) (l' := (([] : List UInt8))) rfl rfl ?_
            refine T.pickF .list rfl (wants1 rfl rfl rfl rfl) rfl rfl hb4 rfl ?_
            refine T.pickT .list rfl (wants0 rfl) rfl rfl rfl rfl ?_
            refine T.assign .list rfl (wants0 rfl) rfl rfl ?_
            refine T.nil ?_
            refine T.then_normal ?_
            refine T.ret ?_
            refine T.then_ret ?_
            obtain rfl := inv_some hk1
            refine T.pick [] 0 rfl rfl (Nat.le_add_left _ _) rfl ?_
            refine T.ret1 rfl rfl (fun w hS => ⟨(), rfl, hS⟩)
        · replace hk1 := inv_negB hb3 hk1
          refine T.move .list rfl (wants1 rfl rfl rfl hb3) rfl rfl ?_
          obtain ⟨r6, hg6, hk1⟩ := inv_bind hk1
          refine T.call .list (wants1 rfl rfl rfl hb3) rfl (run_callF (vs := [_]) rfl Tryd.func24 rfl (by decide) rfl) (fun w hS => keys_Fold.c hB hS  hg6) (fun x7 => ?_)
          refine T.strEq .list rfl (wants1 rfl rfl rfl hb3) rfl (l := r6) (l' := (([] : List UInt8))) rfl rfl ?_
          refine T.pickF .list rfl (wants1 rfl rfl rfl hb2) rfl rfl hb3 rfl ?_
          refine T.pickT .list rfl (wants0 rfl) rfl rfl hb2 rfl ?_
          refine T.move .list rfl (wants0 rfl) rfl rfl ?_
          refine T.bool (b := (decide (r6 = (([] : List UInt8))))) (fun hb5 => ?_) (fun hb5 => ?_)
          · replace hk1 := inv_posB hb5 hk1
            refine T.move .list rfl (wants1 rfl rfl rfl hb5) rfl rfl ?_
            refine T.bin .list rfl (wants1 rfl rfl rfl hb5) rfl rfl rfl rfl ?_
            refine T.move .list rfl (wants1 rfl rfl rfl hb5) rfl rfl ?_
            refine T.bool (b := (decide ((0 : Int) ≤ r2))) (fun hb6 => ?_) (fun hb6 => ?_)
            · replace hk1 := inv_posB hb6 hk1
              refine T.leave .list (wantsNot rfl rfl rfl hb6) rfl ?_
              refine T.leave .list (wantsNot rfl rfl rfl hb6) rfl ?_
              refine T.leave .list (wantsNot rfl rfl rfl hb6) rfl ?_
              refine T.pickT .list rfl (wants1 rfl rfl rfl hb5) rfl rfl hb6 rfl ?_
              refine T.pickT .list rfl (wants0 rfl) rfl rfl hb5 rfl ?_
              refine T.assign .list rfl (wants0 rfl) rfl rfl ?_
              refine T.nil ?_
              refine T.then_normal ?_
              refine T.ret ?_
              refine T.then_ret ?_
              obtain rfl := inv_some hk1
              refine T.pick [] 0 rfl rfl (Nat.le_add_left _ _) rfl ?_
              refine T.ret1 rfl rfl (fun w hS => ⟨(), rfl, hS⟩)
            · replace hk1 := inv_negB hb6 hk1
              refine T.move .list rfl (wants1 rfl rfl rfl hb6) rfl rfl ?_
              obtain ⟨r7, hg7, hk1⟩ := inv_bind hk1
              refine T.call .list (wants1 rfl rfl rfl hb6) rfl (run_callF (vs := [_]) rfl Tryd.func24 rfl (by decide) rfl) (fun w hS => keys_Fold.c hB hS  hg7) (fun x8 => ?_)
              refine T.strEq .list rfl (wants1 rfl rfl rfl hb6) rfl (l := r7) (l' := (([] : List UInt8))) rfl rfl ?_
              refine T.pickF .list rfl (wants1 rfl rfl rfl hb5) rfl rfl hb6 rfl ?_
              refine T.pickT .list rfl (wants0 rfl) rfl rfl hb5 rfl ?_
              refine T.assign .list rfl (wants0 rfl) rfl rfl ?_
              refine T.nil ?_
              refine T.then_normal ?_
              refine T.ret ?_
              refine T.then_ret ?_
              obtain rfl := inv_some hk1
              refine T.pick [] 0 rfl rfl (Nat.le_add_left _ _) rfl ?_
              refine T.ret1 rfl rfl (fun w hS => ⟨(), rfl, hS⟩)
          · replace hk1 := inv_negB hb5 hk1
            refine T.leave .list (wantsNot rfl rfl rfl hb5) rfl ?_
            refine T.leave .list (wantsNot rfl rfl rfl hb5) rfl ?_
            refine T.leave .list (wantsNot rfl rfl rfl hb5) rfl ?_
            refine T.leave .list (wantsUndef rfl rfl rfl) rfl ?_
            refine T.leave .list (wantsUndef rfl rfl rfl) rfl ?_
            refine T.leave .list (wantsUndef rfl rfl rfl) rfl ?_
            refine T.leave .list (wantsNot rfl rfl rfl hb5) rfl ?_
            refine T.pickF .list rfl (wants0 rfl) rfl rfl hb5 rfl ?_
            refine T.assign .list rfl (wants0 rfl) rfl rfl ?_
            refine T.nil ?_
            refine T.then_normal ?_
            refine T.ret ?_
            refine T.then_ret ?_
            obtain rfl := inv_some hk1
            refine T.pick [] 0 rfl rfl (Nat.le_add_left _ _) rfl ?_
            refine T.ret1 rfl rfl (fun w hS => ⟨(), rfl, hS⟩)
      · replace hk1 := inv_negB hb2 hk1
        refine T.leave .list (wantsNot rfl rfl rfl hb2) rfl ?_
        refine T.leave .list (wantsNot rfl rfl rfl hb2) rfl ?_
        refine T.leave .list (wantsNot rfl rfl rfl hb2) rfl ?_
        refine T.leave .list (wantsUndef rfl rfl rfl) rfl ?_
        refine T.leave .list (wantsUndef rfl rfl rfl) rfl ?_
        refine T.leave .list (wantsUndef rfl rfl rfl) rfl ?_
        refine T.leave .list (wantsNot rfl rfl rfl hb2) rfl ?_
        refine T.pickF .list rfl (wants0 rfl) rfl rfl hb2 rfl ?_
        refine T.move .list rfl (wants0 rfl) rfl rfl ?_
        refine T.leave .list (wantsNot rfl rfl rfl rfl) rfl ?_
        refine T.leave .list (wantsNot rfl rfl rfl rfl) rfl ?_
        refine T.leave .list (wantsNot rfl rfl rfl rfl) rfl ?_
        refine T.leave .list (wantsUndef rfl rfl rfl) rfl ?_
        refine T.leave .list (wantsUndef rfl rfl rfl) rfl ?_
        refine T.leave .list (wantsUndef rfl rfl rfl) rfl ?_
        refine T.leave .list (wantsNot rfl rfl rfl rfl) rfl ?_
        refine T.pickF .list rfl (wants0 rfl) rfl rfl rfl rfl ?_
        refine T.assign .list rfl (wants0 rfl) rfl rfl ?_
        refine T.nil ?_
        refine T.then_normal ?_
        refine T.ret ?_
        refine T.then_ret ?_
        obtain rfl := inv_some hk1
        refine T.pick [] 0 rfl rfl (Nat.le_add_left _ _) rfl ?_
        refine T.ret1 rfl rfl (fun w hS => ⟨(), rfl, hS⟩)
    · replace hk1 := inv_negB hb1 hk1
      refine T.skip ?_
      refine T.then_normal ?_
      refine T.seq ?_
      refine T.region ?_
      refine T.move .list rfl (wants0 rfl) rfl rfl ?_
      refine T.build .list (vals := [(0, .int .i64 2), (2, str l0)]) (cells := #[.int .i64 2, .int .i64 0, str l0]) rfl (wants0 rfl) rfl rfl (run_buildStruct (sizes := [1, 1, 1]) (by kernel_rfl) (by kernel_rfl)) ?_
      refine T.lit (E := Elt.pair E64 (Elt.pair E64 EStr)) .list (vals := [(0, .agg #[.int .i64 2, .int .i64 0, str l0])]) (cells := #[.int .i64 2, .int .i64 0, str l0]) rfl (wants0 rfl) rfl rfl rfl rfl rfl (by kernel_rfl) ([(2, 0, l0)] : List (Int × Int × (List UInt8))) rfl (fun _ _ _ _ ho => (Has.encs ho (Has.pair (Has.sc rfl) (Has.pair (Has.sc rfl) (Has.sc rfl) rfl) rfl) rfl rfl)) (fun b1 => ?_)
      refine T.move .list rfl (wants0 rfl) rfl rfl ?_
      refine T.move .list rfl (wants0 rfl) rfl rfl ?_
      obtain ⟨hc2, hk1⟩ := inv_chk hk1
      refine T.strAdd .list rfl (wants0 rfl) rfl (l := l0) (l' := l1) rfl rfl hc2 ?_
      refine T.build .list (vals := [(0, .int .i64 2), (2, str (l0 ++ l1))]) (cells := #[.int .i64 2, .int .i64 0, str (l0 ++ l1)]) rfl (wants0 rfl) rfl rfl (run_buildStruct (sizes := [1, 1, 1]) (by kernel_rfl) (by kernel_rfl)) ?_
      refine T.lit (E := Elt.pair E64 (Elt.pair E64 EStr)) .list (vals := [(0, .agg #[.int .i64 2, .int .i64 0, str (l0 ++ l1)])]) (cells := #[.int .i64 2, .int .i64 0, str (l0 ++ l1)]) rfl (wants0 rfl) rfl rfl rfl rfl rfl (by kernel_rfl) ([(2, 0, l0 ++ l1)] : List (Int × Int × (List UInt8))) rfl (fun _ _ _ _ ho => (Has.encs ho (Has.pair (Has.sc rfl) (Has.pair (Has.sc rfl) (Has.sc rfl) rfl) rfl) rfl rfl)) (fun b2 => ?_)
      refine T.assign .list rfl (wants0 rfl) rfl rfl ?_
      refine T.assign .list rfl (wants0 rfl) rfl rfl ?_
      refine T.nil ?_
      refine T.then_normal ?_
      refine T.seq ?_
      refine T.seqJ (fun (s2 : Bool) (x9 : Unit) => [(0, str l0), (5, .int .i64 r1), (84, .bool s2)]) (fun s2 x9 => hs) (fun s2 => law2_KeysTexts.k2 l0 r1 s2 = some r) (fun s2 x9 hk2 => ?_) (fun J2 => ?_)
      · unfold law2_KeysTexts.k2 at hk2
        refine T.cond rfl (fun hb7 => ?_) (fun hb7 => ?_)
        · replace hk2 := inv_posB hb7 hk2
          refine T.seq ?_
          refine T.region ?_
          refine T.assign .list rfl (wants0 rfl) rfl rfl ?_
          refine T.nil ?_
          refine T.then_normal ?_
          refine T.ret ?_
          refine T.then_ret ?_
          obtain rfl := inv_some hk2
          refine T.pick [] 0 rfl rfl (Nat.le_add_left _ _) rfl ?_
          refine T.ret1 rfl rfl (fun w hS => ⟨(), rfl, hS⟩)
        · replace hk2 := inv_negB hb7 hk2
          refine T.skip ?_
          refine T.then_normal ?_
          refine T.seq ?_
          refine T.region ?_
          refine T.move .list rfl (wants0 rfl) rfl rfl ?_
          obtain ⟨r8, hg8, hk2⟩ := inv_bind hk2
          refine T.call .list (wants0 rfl) rfl (run_callF (vs := [_]) rfl Tryd.func26 rfl (by decide) rfl) (fun w hS => ref2_Decode.c hB hS  hg8) (fun x10 => ?_)
          refine T.move .list rfl (wants0 rfl) rfl rfl ?_
          refine T.extract .list rfl (wants0 rfl) rfl rfl rfl ?_
          refine T.extract .list rfl (wants0 rfl) rfl rfl rfl ?_
          refine T.assign .list rfl (wants0 rfl) rfl rfl ?_
          refine T.assign .list rfl (wants0 rfl) rfl rfl ?_
          refine T.nil ?_
          refine T.then_normal ?_
          refine T.seq ?_
          refine T.region ?_
          obtain ⟨r9, hg9, hk2⟩ := inv_bind hk2
          refine T.call .list (wants0 rfl) rfl (run_callF (vs := []) rfl Tryd.func10 rfl (by decide) rfl) (fun w hS => law2_told.c hB hS  hg9) (fun x11 => ?_)
          refine T.move .list rfl (wants0 rfl) rfl rfl ?_
          refine T.bool (b := r9) (fun hb8 => ?_) (fun hb8 => ?_)
          · replace hk2 := inv_posB hb8 hk2
            refine T.move .list rfl (wants1 rfl rfl rfl hb8) rfl rfl ?_
            refine T.pickT .list rfl (wants0 rfl) rfl rfl hb8 rfl ?_
            refine T.move .list rfl (wants0 rfl) rfl rfl ?_
            refine T.bool (b := r8.2) (fun hb9 => ?_) (fun hb9 => ?_)
            · replace hk2 := inv_posB hb9 hk2
              refine T.move .list rfl (wants1 rfl rfl rfl hb9) rfl rfl ?_
              refine T.lenSlice .list rfl (wants1 rfl rfl rfl hb9) rfl rfl ?_
              refine T.move .list rfl (wants1 rfl rfl rfl hb9) rfl rfl ?_
              refine T.bin .list rfl (wants1 rfl rfl rfl hb9) rfl rfl rfl rfl ?_
              refine T.pickT .list rfl (wants0 rfl) rfl rfl hb9 rfl ?_
              refine T.assign .list rfl (wants0 rfl) rfl rfl ?_
              refine T.nil ?_
              refine T.then_normal ?_
              refine T.ret ?_
              obtain rfl := inv_some hk2
              refine T.pick [] 1 rfl rfl (Nat.le_add_left _ _) rfl ?_
              refine T.ret1 rfl rfl (fun w hS => ⟨(), rfl, hS⟩)
            · replace hk2 := inv_negB hb9 hk2
              refine T.leave .list (wantsNot rfl rfl rfl hb9) rfl ?_
              refine T.leave .list (wantsNot rfl rfl rfl hb9) rfl ?_
              refine T.leave .list (wantsNot rfl rfl rfl hb9) rfl ?_
              refine T.leave .list (wantsNot rfl rfl rfl hb9) rfl ?_
              refine T.pickF .list rfl (wants0 rfl) rfl rfl hb9 rfl ?_
              refine T.assign .list rfl (wants0 rfl) rfl rfl ?_
              refine T.nil ?_
              refine T.then_normal ?_
              refine T.ret ?_
              obtain rfl := inv_some hk2
              refine T.pick [] 1 rfl rfl (Nat.le_add_left _ _) rfl ?_
              refine T.ret1 rfl rfl (fun w hS => ⟨(), rfl, hS⟩)
          · replace hk2 := inv_negB hb8 hk2
            refine T.leave .list (wantsNot rfl rfl rfl hb8) rfl ?_
            refine T.pickF .list rfl (wants0 rfl) rfl rfl hb8 rfl ?_
            refine T.move .list rfl (wants0 rfl) rfl rfl ?_
            refine T.leave .list (wantsNot rfl rfl rfl rfl) rfl ?_
            refine T.leave .list (wantsNot rfl rfl rfl rfl) rfl ?_
            refine T.leave .list (wantsNot rfl rfl rfl rfl) rfl ?_
            refine T.leave .list (wantsNot rfl rfl rfl rfl) rfl ?_
            refine T.pickF .list rfl (wants0 rfl) rfl rfl rfl rfl ?_
            refine T.assign .list rfl (wants0 rfl) rfl rfl ?_
            refine T.nil ?_
            refine T.then_normal ?_
            refine T.ret ?_
            obtain rfl := inv_some hk2
            refine T.pick [] 1 rfl rfl (Nat.le_add_left _ _) rfl ?_
            refine T.ret1 rfl rfl (fun w hS => ⟨(), rfl, hS⟩)
      · refine T.region ?_
        refine T.move .list rfl (wants0 rfl) rfl rfl ?_
        refine T.move .list rfl (wants0 rfl) rfl rfl ?_
        refine T.move .list rfl (wants0 rfl) rfl rfl ?_
        refine T.bin .list rfl (wants0 rfl) rfl rfl rfl rfl ?_
        refine T.bin .list rfl (wants0 rfl) rfl rfl rfl rfl ?_
        refine T.move .list rfl (wants0 rfl) rfl rfl ?_
        refine T.bool (b := (decide (r3 = (IntKind.i64.wrap (r1 + r2))))) (fun hb10 => ?_) (fun hb10 => ?_)
        · replace hk1 := inv_posB hb10 hk1
          refine T.move .list rfl (wants1 rfl rfl rfl (not_t hb10)) rfl rfl ?_
          refine T.move .list rfl (wants1 rfl rfl rfl (not_t hb10)) rfl rfl ?_
          obtain ⟨hc3, hk1⟩ := inv_chk hk1
          refine T.strAdd .list rfl (wants1 rfl rfl rfl (not_t hb10)) rfl (l := l0) (l' := l1) rfl rfl hc3 ?_
          obtain ⟨r10, hg10, hk1⟩ := inv_bind hk1
          refine T.call .list (wants1 rfl rfl rfl (not_t hb10)) rfl (run_callF (vs := [_]) rfl Tryd.func24 rfl (by decide) rfl) (fun w hS => keys_Fold.c hB hS  hg10) (fun x12 => ?_)
          refine T.move .list rfl (wants1 rfl rfl rfl (not_t hb10)) rfl rfl ?_
          obtain ⟨r11, hg11, hk1⟩ := inv_bind hk1
          refine T.call .list (wants1 rfl rfl rfl (not_t hb10)) rfl (run_callF (vs := [_]) rfl Tryd.func24 rfl (by decide) rfl) (fun w hS => keys_Fold.c hB hS  hg11) (fun x13 => ?_)
          refine T.move .list rfl (wants1 rfl rfl rfl (not_t hb10)) rfl rfl ?_
          obtain ⟨r12, hg12, hk1⟩ := inv_bind hk1
          refine T.call .list (wants1 rfl rfl rfl (not_t hb10)) rfl (run_callF (vs := [_]) rfl Tryd.func24 rfl (by decide) rfl) (fun w hS => keys_Fold.c hB hS  hg12) (fun x14 => ?_)
          obtain ⟨hc4, hk1⟩ := inv_chk hk1
          refine T.strAdd .list rfl (wants1 rfl rfl rfl (not_t hb10)) rfl (l := r11) (l' := r12) rfl rfl hc4 ?_
          refine T.strNe .list rfl (wants1 rfl rfl rfl (not_t hb10)) rfl (l := r10) (l' := (r11 ++ r12)) rfl rfl ?_
          refine T.pickF .list rfl (wants0 rfl) rfl rfl (not_t hb10) rfl ?_
          refine T.move .list rfl (wants0 rfl) rfl rfl ?_
          refine T.bool (b := (decide (r10 = (r11 ++ r12)))) (fun hb11 => ?_) (fun hb11 => ?_)
          · replace hk1 := inv_posB hb11 hk1
            refine T.move .list rfl (wants1 rfl rfl rfl (not_t hb11)) rfl rfl ?_
            refine T.move .list rfl (wants1 rfl rfl rfl (not_t hb11)) rfl rfl ?_
            refine T.freeze 1 rfl rfl rfl ?_
            refine T.freeze 0 rfl rfl rfl ?_
            obtain ⟨r13, hg13, hk1⟩ := inv_bind hk1
            refine T.call .list (wants1 rfl rfl rfl (not_t hb11)) rfl (run_callF (vs := [_, _]) rfl Tryd.func22 rfl (by decide) rfl) (fun w hS => keys_Compare.c hB hS (i0 := 1) (i1 := 0) rfl rfl hg13) (fun x15 => ?_)
            refine T.bin .list rfl (wants1 rfl rfl rfl (not_t hb11)) rfl rfl rfl rfl ?_
            refine T.pickF .list rfl (wants0 rfl) rfl rfl (not_t hb11) rfl ?_
            refine T.move .list rfl (wants0 rfl) rfl rfl ?_
            refine T.bool (b := (decide ((0 : Int) < r13))) (fun hb12 => ?_) (fun hb12 => ?_)
            · replace hk1 := inv_posB hb12 hk1
              refine T.leave .list (wantsNot rfl rfl rfl hb12) rfl ?_
              refine T.leave .list (wantsNot rfl rfl rfl hb12) rfl ?_
              refine T.leave .list (wantsNot rfl rfl rfl hb12) rfl ?_
              refine T.leave .list (wantsNot rfl rfl rfl hb12) rfl ?_
              refine T.leave .list (wantsNot rfl rfl rfl hb12) rfl ?_
              refine T.leave .list (wantsNot rfl rfl rfl hb12) rfl ?_
              refine T.leave .list (wantsNot rfl rfl rfl hb12) rfl ?_
              refine T.pickT .list rfl (wants0 rfl) rfl rfl hb12 rfl ?_
              refine T.nil ?_
              refine T.then_normal ?_
              exact T.le (EnvLe.cons rfl (EnvLe.cons rfl (EnvLe.cons rfl EnvLe.nil))) (T.pick [] 2 rfl rfl (Nat.le_add_left _ _) rfl (J2 true () hk1))
            · replace hk1 := inv_negB hb12 hk1
              refine T.move .list rfl (wants1 rfl rfl rfl hb12) rfl rfl ?_
              refine T.move .list rfl (wants1 rfl rfl rfl hb12) rfl rfl ?_
              obtain ⟨r14, hg14, hk1⟩ := inv_bind hk1
              refine T.call .list (wants1 rfl rfl rfl hb12) rfl (run_callF (vs := [_, _]) rfl Tryd.func22 rfl (by decide) rfl) (fun w hS => keys_Compare.c hB hS (i0 := 1) (i1 := 0) rfl rfl hg14) (fun x16 => ?_)
              refine T.bin .list rfl (wants1 rfl rfl rfl hb12) rfl rfl rfl rfl ?_
              refine T.move .list rfl (wants1 rfl rfl rfl hb12) rfl rfl ?_
              refine T.strEq .list rfl (wants1 rfl rfl rfl hb12) rfl (l := l1) (l' := (([] : List UInt8))) rfl rfl ?_
              refine T.boolNe .list rfl (wants1 rfl rfl rfl hb12) rfl rfl rfl (by kernel_rfl) ?_
              refine T.pickF .list rfl (wants0 rfl) rfl rfl hb12 rfl ?_
              refine T.nil ?_
              refine T.then_normal ?_
              exact T.le (EnvLe.cons rfl (EnvLe.cons rfl (EnvLe.cons rfl EnvLe.nil))) (T.pick [] 2 rfl rfl (Nat.le_add_left _ _) rfl (J2 (!(decide ((decide (r14 = 0)) = (decide (l1 = (([] : List UInt8))))))) () hk1))
          · replace hk1 := inv_negB hb11 hk1
            refine T.leave .list (wantsNot rfl rfl rfl (not_f hb11)) rfl ?_
            refine T.leave .list (wantsNot rfl rfl rfl (not_f hb11)) rfl ?_
            refine T.leave .list (wantsNot rfl rfl rfl (not_f hb11)) rfl ?_
            refine T.leave .list (wantsNot rfl rfl rfl (not_f hb11)) rfl ?_
            refine T.pickT .list rfl (wants0 rfl) rfl rfl (not_f hb11) rfl ?_
            refine T.move .list rfl (wants0 rfl) rfl rfl ?_
            refine T.leave .list (wantsNot rfl rfl rfl rfl) rfl ?_
            refine T.leave .list (wantsNot rfl rfl rfl rfl) rfl ?_
            refine T.leave .list (wantsNot rfl rfl rfl rfl) rfl ?_
            refine T.leave .list (wantsNot rfl rfl rfl rfl) rfl ?_
            refine T.leave .list (wantsNot rfl rfl rfl rfl) rfl ?_
            refine T.leave .list (wantsNot rfl rfl rfl rfl) rfl ?_
            refine T.leave .list (wantsNot rfl rfl rfl rfl) rfl ?_
            refine T.pickT .list rfl (wants0 rfl) rfl rfl rfl rfl ?_
            refine T.nil ?_
            refine T.then_normal ?_
            exact T.le (EnvLe.cons rfl (EnvLe.cons rfl (EnvLe.cons rfl EnvLe.nil))) (T.pick [] 2 rfl rfl (Nat.le_add_left _ _) rfl (J2 true () hk1))
        · replace hk1 := inv_negB hb10 hk1
          refine T.leave .list (wantsNot rfl rfl rfl (not_f hb10)) rfl ?_
          refine T.leave .list (wantsNot rfl rfl rfl (not_f hb10)) rfl ?_
          refine T.leave .list (wantsNot rfl rfl rfl (not_f hb10)) rfl ?_
          refine T.leave .list (wantsNot rfl rfl rfl (not_f hb10)) rfl ?_
          refine T.leave .list (wantsNot rfl rfl rfl (not_f hb10)) rfl ?_
          refine T.leave .list (wantsNot rfl rfl rfl (not_f hb10)) rfl ?_
          refine T.leave .list (wantsNot rfl rfl rfl (not_f hb10)) rfl ?_
          refine T.leave .list (wantsNot rfl rfl rfl (not_f hb10)) rfl ?_
          refine T.leave .list (wantsNot rfl rfl rfl (not_f hb10)) rfl ?_
          refine T.leave .list (wantsNot rfl rfl rfl (not_f hb10)) rfl ?_
          refine T.pickT .list rfl (wants0 rfl) rfl rfl (not_f hb10) rfl ?_
          refine T.move .list rfl (wants0 rfl) rfl rfl ?_
          refine T.leave .list (wantsNot rfl rfl rfl rfl) rfl ?_
          refine T.leave .list (wantsNot rfl rfl rfl rfl) rfl ?_
          refine T.leave .list (wantsNot rfl rfl rfl rfl) rfl ?_
          refine T.leave .list (wantsNot rfl rfl rfl rfl) rfl ?_
          refine T.pickT .list rfl (wants0 rfl) rfl rfl rfl rfl ?_
          refine T.move .list rfl (wants0 rfl) rfl rfl ?_
          refine T.leave .list (wantsNot rfl rfl rfl rfl) rfl ?_
          refine T.leave .list (wantsNot rfl rfl rfl rfl) rfl ?_
          refine T.leave .list (wantsNot rfl rfl rfl rfl) rfl ?_
          refine T.leave .list (wantsNot rfl rfl rfl rfl) rfl ?_
          refine T.leave .list (wantsNot rfl rfl rfl rfl) rfl ?_
          refine T.leave .list (wantsNot rfl rfl rfl rfl) rfl ?_
          refine T.leave .list (wantsNot rfl rfl rfl rfl) rfl ?_
          refine T.pickT .list rfl (wants0 rfl) rfl rfl rfl rfl ?_
          refine T.nil ?_
          refine T.then_normal ?_
          exact T.le (EnvLe.cons rfl (EnvLe.cons rfl (EnvLe.cons rfl EnvLe.nil))) (T.pick [] 2 rfl rfl (Nat.le_add_left _ _) rfl (J2 true () hk1))
  · refine T.region ?_
    refine T.move .list rfl (wants0 rfl) rfl rfl ?_
    refine T.bin .list rfl (wants0 rfl) rfl rfl rfl rfl ?_
    refine T.move .list rfl (wants0 rfl) rfl rfl ?_
    refine T.bool (b := (decide (r1 < 0))) (fun hb13 => ?_) (fun hb13 => ?_)
    · replace hr := inv_posB hb13 hr
      refine T.leave .list (wantsNot rfl rfl rfl hb13) rfl ?_
      refine T.leave .list (wantsNot rfl rfl rfl hb13) rfl ?_
      refine T.pickT .list rfl (wants0 rfl) rfl rfl hb13 rfl ?_
      refine T.nil ?_
      refine T.then_normal ?_
      exact T.le (EnvLe.cons rfl (EnvLe.cons rfl (EnvLe.cons rfl (EnvLe.cons rfl (EnvLe.cons rfl (EnvLe.cons rfl EnvLe.nil)))))) (T.pick [] 0 rfl rfl (Nat.le_add_left _ _) rfl (J1 true () hr))
    · replace hr := inv_negB hb13 hr
      refine T.move .list rfl (wants1 rfl rfl rfl hb13) rfl rfl ?_
      refine T.bin .list rfl (wants1 rfl rfl rfl hb13) rfl rfl rfl rfl ?_
      refine T.pickF .list rfl (wants0 rfl) rfl rfl hb13 rfl ?_
      refine T.nil ?_
      refine T.then_normal ?_
      exact T.le (EnvLe.cons rfl (EnvLe.cons rfl (EnvLe.cons rfl (EnvLe.cons rfl (EnvLe.cons rfl (EnvLe.cons rfl EnvLe.nil)))))) (T.pick [] 0 rfl rfl (Nat.le_add_left _ _) rfl (J1 (decide (r2 < 0)) () hr))
end Go.Proofs.YtlokkdfiolfdnaaDoor
