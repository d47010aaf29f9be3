/- Txn: what the functions compute, and that the program computes it; printed by a program of ours. -/
import Derived.Test.YtpogdeibkghhaaaDoorSchema
import Derived.Test.YtpogdeibkghhaaaDoorCks
set_option linter.unusedVariables false
set_option linter.unusedSimpArgs false
namespace Go.Proofs.YtpogdeibkghhaaaDoor
open Go.RowKit
noncomputable def txn_value.impl (a0 : Int × Int × (List UInt8)) : Option Bool :=
  (keys_Right.impl a0).bind fun r1 => (if ((decide (r1 = 0))) = true then (keys_Runes.impl a0.2.2).bind fun r2 => some (decide (r2 ≤ 8)) else some false)
set_option maxRecDepth 100000 in
set_option maxHeartbeats 4000000 in
theorem txn_value.c {B : World} {hs : List MP} {w : World} {a0 : Int × Int × (List UInt8)} (hB : Base B) (hS : St B hs w) {r : Bool} (hr : txn_value.impl a0 = some r) :
    Calls Tryd.prog 93 #[.agg #[.int .i64 a0.1, .int .i64 a0.2.1, str a0.2.2]] w fun e w' => ∃ x : Unit, e = .returned (.bool r) ∧ St B hs w' := by
 unfold txn_value.impl at hr
 refine calls_T Tryd.func93 rfl rfl rfl hS ?_
 refine T.seq (T.region ?_)
 refine T.boxS .list rfl w0 rfl rfl (cs := [.int .i64 a0.1, .int .i64 a0.2.1, str a0.2.2]) rfl (fun b1 => ?_)
 refine T.asg rfl rfl rfl rfl (T.nil (T.then_normal (T.seq (T.region (T.loadN .list 0 rfl rfl w0 rfl rfl (vs := [.int .i64 a0.1, .int .i64 a0.2.1, str a0.2.2]) rfl rfl ?_)))))
 obtain ⟨r1, hg1, hr⟩ := inv_bind hr
 refine T.call .list w0 rfl (run_callF (vs := [_]) rfl Tryd.func61 rfl (by decide) rfl) (fun w hS => keys_Right.c hB hS (a0 := a0)  hg1) (fun x1 => ?_)
 refine T.bin .list rfl w0 rfl rfl rfl rfl (T.mv rfl rfl rfl rfl ?_)
 refine T.bool (b := (decide (r1 = 0))) (fun hb1 => ?_) (fun hb1 => ?_)
 ·replace hr := inv_posB hb1 hr
  refine T.field .list rfl (wants1 rfl rfl rfl hb1) rfl rfl (T.load .list 0 rfl rfl (wants1 rfl rfl rfl hb1) rfl rfl rfl ?_)
  obtain ⟨r2, hg2, hr⟩ := inv_bind hr
  refine T.call .list (wants1 rfl rfl rfl hb1) rfl (run_callF (vs := [_]) rfl Tryd.func42 rfl (by decide) rfl) (fun w hS => keys_Runes.c hB hS  hg2) (fun x2 => ?_)
  refine T.bin .list rfl (wants1 rfl rfl rfl hb1) rfl rfl rfl rfl (T.pickT .list rfl w0 rfl rfl hb1 rfl (T.asg rfl rfl rfl rfl (T.nil (T.then_normal (T.ret ?_)))))
  obtain rfl := inv_some hr
  refine T.pick [] 1 rfl rfl nla rfl ?_
  refine T.ret1 rfl rfl (fun w hS => ⟨(), rfl, hS⟩)
 ·replace hr := inv_negB hb1 hr
  refine T.lv rfl rfl rfl hb1 rfl (T.lv rfl rfl rfl hb1 rfl (T.lv rfl rfl rfl hb1 rfl (T.lv rfl rfl rfl hb1 rfl (T.pickF .list rfl w0 rfl rfl hb1 rfl (T.asg rfl rfl rfl rfl (T.nil (T.then_normal (T.ret ?_))))))))
  obtain rfl := inv_some hr
  refine T.pick [] 1 rfl rfl nla rfl ?_
  refine T.ret1 rfl rfl (fun w hS => ⟨(), rfl, hS⟩)

noncomputable def txn_bare.k1 (a0 : Int × (List UInt8) × ((List UInt8) × (List ((List UInt8) × Int × Int)) × (List (Int × Bool))) × (List (Int × Int × (List UInt8))) × (Int × Int × (List UInt8)) × Int × (Int × Int × (List UInt8)) × (Int × Int × (List UInt8)) × Int) (s1 : List UInt8 × List UInt8 × (List ((List UInt8) × Int × Int)) × (List (Int × Bool)) × (List (Int × Int × (List UInt8))) × Int × Int × List UInt8 × Int × Int × Int × List UInt8 × Int × Int × List UInt8 × Int) : Option ((Int × (List UInt8) × ((List UInt8) × (List ((List UInt8) × Int × Int)) × (List (Int × Bool))) × (List (Int × Int × (List UInt8))) × (Int × Int × (List UInt8)) × Int × (Int × Int × (List UInt8)) × (Int × Int × (List UInt8)) × Int) × Bool) :=
  some ((a0.1, s1.1, (s1.2.1, s1.2.2.1, s1.2.2.2.1), s1.2.2.2.2.1, (s1.2.2.2.2.2.1, s1.2.2.2.2.2.2.1, s1.2.2.2.2.2.2.2.1), s1.2.2.2.2.2.2.2.2.1, (s1.2.2.2.2.2.2.2.2.2.1, s1.2.2.2.2.2.2.2.2.2.2.1, s1.2.2.2.2.2.2.2.2.2.2.2.1), (s1.2.2.2.2.2.2.2.2.2.2.2.2.1, s1.2.2.2.2.2.2.2.2.2.2.2.2.2.1, s1.2.2.2.2.2.2.2.2.2.2.2.2.2.2.1), s1.2.2.2.2.2.2.2.2.2.2.2.2.2.2.2), true)
noncomputable def txn_bare.k3 (a0 : Int × (List UInt8) × ((List UInt8) × (List ((List UInt8) × Int × Int)) × (List (Int × Bool))) × (List (Int × Int × (List UInt8))) × (Int × Int × (List UInt8)) × Int × (Int × Int × (List UInt8)) × (Int × Int × (List UInt8)) × Int) (s3 : Bool) : Option ((Int × (List UInt8) × ((List UInt8) × (List ((List UInt8) × Int × Int)) × (List (Int × Bool))) × (List (Int × Int × (List UInt8))) × (Int × Int × (List UInt8)) × Int × (Int × Int × (List UInt8)) × (Int × Int × (List UInt8)) × Int) × Bool) :=
  (if s3 = true then txn_bare.k1 a0 (a0.2.1, ([] : List UInt8), ([] : List ((List UInt8) × Int × Int)), ([] : List (Int × Bool)), ([] : List (Int × Int × (List UInt8))), a0.2.2.2.2.1.1, a0.2.2.2.2.1.2.1, a0.2.2.2.2.1.2.2, 0, 0, 0, ([] : List UInt8), 0, 0, ([] : List UInt8), 0) else (if ((decide (a0.1 = 6))) = true then txn_bare.k1 a0 (a0.2.1, ([] : List UInt8), ([] : List ((List UInt8) × Int × Int)), ([] : List (Int × Bool)), ([] : List (Int × Int × (List UInt8))), 0, 0, ([] : List UInt8), a0.2.2.2.2.2.1, a0.2.2.2.2.2.2.1.1, a0.2.2.2.2.2.2.1.2.1, a0.2.2.2.2.2.2.1.2.2, a0.2.2.2.2.2.2.2.1.1, a0.2.2.2.2.2.2.2.1.2.1, a0.2.2.2.2.2.2.2.1.2.2, a0.2.2.2.2.2.2.2.2) else some ((0, ([] : List UInt8), (([] : List UInt8), ([] : List ((List UInt8) × Int × Int)), ([] : List (Int × Bool))), ([] : List (Int × Int × (List UInt8))), (0, 0, ([] : List UInt8)), 0, (0, 0, ([] : List UInt8)), (0, 0, ([] : List UInt8)), 0), false)))
noncomputable def txn_bare.k2 (a0 : Int × (List UInt8) × ((List UInt8) × (List ((List UInt8) × Int × Int)) × (List (Int × Bool))) × (List (Int × Int × (List UInt8))) × (Int × Int × (List UInt8)) × Int × (Int × Int × (List UInt8)) × (Int × Int × (List UInt8)) × Int) (s2 : Bool) : Option ((Int × (List UInt8) × ((List UInt8) × (List ((List UInt8) × Int × Int)) × (List (Int × Bool))) × (List (Int × Int × (List UInt8))) × (Int × Int × (List UInt8)) × Int × (Int × Int × (List UInt8)) × (Int × Int × (List UInt8)) × Int) × Bool) :=
  (if s2 = true then txn_bare.k1 a0 (a0.2.1, ([] : List UInt8), ([] : List ((List UInt8) × Int × Int)), ([] : List (Int × Bool)), a0.2.2.2.1, 0, 0, ([] : List UInt8), 0, 0, 0, ([] : List UInt8), 0, 0, ([] : List UInt8), 0) else (if ((decide (a0.1 = 4))) = true then txn_bare.k3 a0 (decide (a0.1 = 4)) else txn_bare.k3 a0 (decide (a0.1 = 5))))
noncomputable def txn_bare.impl (a0 : Int × (List UInt8) × ((List UInt8) × (List ((List UInt8) × Int × Int)) × (List (Int × Bool))) × (List (Int × Int × (List UInt8))) × (Int × Int × (List UInt8)) × Int × (Int × Int × (List UInt8)) × (Int × Int × (List UInt8)) × Int) : Option ((Int × (List UInt8) × ((List UInt8) × (List ((List UInt8) × Int × Int)) × (List (Int × Bool))) × (List (Int × Int × (List UInt8))) × (Int × Int × (List UInt8)) × Int × (Int × Int × (List UInt8)) × (Int × Int × (List UInt8)) × Int) × Bool) :=
  (if ((decide (a0.1 = 1))) = true then txn_bare.k1 a0 (([] : List UInt8), a0.2.2.1.1, a0.2.2.1.2.1, a0.2.2.1.2.2, ([] : List (Int × Int × (List UInt8))), 0, 0, ([] : List UInt8), 0, 0, 0, ([] : List UInt8), 0, 0, ([] : List UInt8), 0) else (if ((decide (a0.1 = 2))) = true then txn_bare.k2 a0 (decide (a0.1 = 2)) else txn_bare.k2 a0 (decide (a0.1 = 3))))
set_option maxRecDepth 100000 in
set_option maxHeartbeats 4000000 in
theorem txn_bare.c {B : World} {hs : List MP} {w : World} {a0 : Int × (List UInt8) × ((List UInt8) × (List ((List UInt8) × Int × Int)) × (List (Int × Bool))) × (List (Int × Int × (List UInt8))) × (Int × Int × (List UInt8)) × Int × (Int × Int × (List UInt8)) × (Int × Int × (List UInt8)) × Int} {i0a c0a : Nat} {A0a : Option Addr} {i0b c0b : Nat} {A0b : Option Addr} {i0c c0c : Nat} {A0c : Option Addr} (hB : Base B) (hS : St B hs w) (h0a : (hs)[i0a]? = some (Ro (Elt.pair EStr (Elt.pair E64 E64)) A0a c0a a0.2.2.1.2.1)) (h0b : (hs)[i0b]? = some (Ro (Elt.pair E64 EBool) A0b c0b a0.2.2.1.2.2)) (h0c : (hs)[i0c]? = some (Ro (Elt.pair E64 (Elt.pair E64 EStr)) A0c c0c a0.2.2.2.1)) {r : (Int × (List UInt8) × ((List UInt8) × (List ((List UInt8) × Int × Int)) × (List (Int × Bool))) × (List (Int × Int × (List UInt8))) × (Int × Int × (List UInt8)) × Int × (Int × Int × (List UInt8)) × (Int × Int × (List UInt8)) × Int) × Bool} (hr : txn_bare.impl a0 = some r) :
    Calls Tryd.prog 91 #[.agg #[.int .i64 a0.1, str a0.2.1, str a0.2.2.1.1, .slice A0a a0.2.2.1.2.1.length c0a, .slice A0b a0.2.2.1.2.2.length c0b, .slice A0c a0.2.2.2.1.length c0c, .int .i64 a0.2.2.2.2.1.1, .int .i64 a0.2.2.2.2.1.2.1, str a0.2.2.2.2.1.2.2, .int .i64 a0.2.2.2.2.2.1, .int .i64 a0.2.2.2.2.2.2.1.1, .int .i64 a0.2.2.2.2.2.2.1.2.1, str a0.2.2.2.2.2.2.1.2.2, .int .i64 a0.2.2.2.2.2.2.2.1.1, .int .i64 a0.2.2.2.2.2.2.2.1.2.1, str a0.2.2.2.2.2.2.2.1.2.2, .int .i64 a0.2.2.2.2.2.2.2.2]] w fun e w' => ∃ x : (Option Addr × Nat) × (Option Addr × Nat) × (Option Addr × Nat), e = .returned (.tuple #[.agg #[.int .i64 r.1.1, str r.1.2.1, str r.1.2.2.1.1, .slice x.1.1 r.1.2.2.1.2.1.length x.1.2, .slice x.2.1.1 r.1.2.2.1.2.2.length x.2.1.2, .slice x.2.2.1 r.1.2.2.2.1.length x.2.2.2, .int .i64 r.1.2.2.2.2.1.1, .int .i64 r.1.2.2.2.2.1.2.1, str r.1.2.2.2.2.1.2.2, .int .i64 r.1.2.2.2.2.2.1, .int .i64 r.1.2.2.2.2.2.2.1.1, .int .i64 r.1.2.2.2.2.2.2.1.2.1, str r.1.2.2.2.2.2.2.1.2.2, .int .i64 r.1.2.2.2.2.2.2.2.1.1, .int .i64 r.1.2.2.2.2.2.2.2.1.2.1, str r.1.2.2.2.2.2.2.2.1.2.2, .int .i64 r.1.2.2.2.2.2.2.2.2], .bool r.2]) ∧ St B (Ro (Elt.pair EStr (Elt.pair E64 E64)) x.1.1 x.1.2 r.1.2.2.1.2.1 :: Ro (Elt.pair E64 EBool) x.2.1.1 x.2.1.2 r.1.2.2.1.2.2 :: Ro (Elt.pair E64 (Elt.pair E64 EStr)) x.2.2.1 x.2.2.2 r.1.2.2.2.1 :: hs) w' := by
 unfold txn_bare.impl at hr
 refine calls_T Tryd.func91 rfl rfl rfl hS ?_
 refine T.front i0a h0a (T.front (i0b + 1) h0b (T.front (i0c + 2) h0c (T.seq (T.region ?_))))
 refine T.boxS .list rfl w0 rfl rfl (cs := [.int .i64 a0.1, str a0.2.1, str a0.2.2.1.1, .slice A0a a0.2.2.1.2.1.length c0a, .slice A0b a0.2.2.1.2.2.length c0b, .slice A0c a0.2.2.2.1.length c0c, .int .i64 a0.2.2.2.2.1.1, .int .i64 a0.2.2.2.2.1.2.1, str a0.2.2.2.2.1.2.2, .int .i64 a0.2.2.2.2.2.1, .int .i64 a0.2.2.2.2.2.2.1.1, .int .i64 a0.2.2.2.2.2.2.1.2.1, str a0.2.2.2.2.2.2.1.2.2, .int .i64 a0.2.2.2.2.2.2.2.1.1, .int .i64 a0.2.2.2.2.2.2.2.1.2.1, str a0.2.2.2.2.2.2.2.1.2.2, .int .i64 a0.2.2.2.2.2.2.2.2]) rfl (fun b1 => ?_)
 refine T.allocS .list rfl w0 rfl (cs := [.int .i64 0, str (([] : List UInt8)), str (([] : List UInt8)), .slice none 0 0, .slice none 0 0, .slice none 0 0, .int .i64 0, .int .i64 0, str (([] : List UInt8)), .int .i64 0, .int .i64 0, .int .i64 0, str (([] : List UInt8)), .int .i64 0, .int .i64 0, str (([] : List UInt8)), .int .i64 0]) rfl (fun b2 => ?_)
 refine T.asg rfl rfl rfl rfl (T.nil (T.then_normal (T.seq (T.region (T.field .list rfl w0 rfl rfl (T.load .list 1 rfl rfl w0 rfl rfl rfl (T.field .list rfl w0 rfl rfl (T.load .list 1 rfl rfl w0 rfl rfl rfl (T.build .list (vals := [(0, .int .i64 a0.1), (1, str a0.2.1)]) (cells := #[.int .i64 a0.1, str a0.2.1, str (([] : List UInt8)), .slice none 0 0, .slice none 0 0, .slice none 0 0, .int .i64 0, .int .i64 0, str (([] : List UInt8)), .int .i64 0, .int .i64 0, .int .i64 0, str (([] : List UInt8)), .int .i64 0, .int .i64 0, str (([] : List UInt8)), .int .i64 0]) rfl w0 rfl rfl (run_buildStruct (sizes := [1, 1, 3, 1, 3, 1, 3, 3, 1]) (by kernel_rfl) (by kernel_rfl)) ?_)))))))))
 refine T.allocS .list rfl w0 rfl (cs := [.int .i64 0, str (([] : List UInt8)), str (([] : List UInt8)), .slice none 0 0, .slice none 0 0, .slice none 0 0, .int .i64 0, .int .i64 0, str (([] : List UInt8)), .int .i64 0, .int .i64 0, .int .i64 0, str (([] : List UInt8)), .int .i64 0, .int .i64 0, str (([] : List UInt8)), .int .i64 0]) rfl (fun b3 => ?_)
 refine T.store .list 0 rfl rfl w0 rfl rfl rfl rfl (Nat.le_of_ble_eq_true rfl) rfl (cs' := [.int .i64 a0.1, str a0.2.1, str (([] : List UInt8)), .slice none 0 0, .slice none 0 0, .slice none 0 0, .int .i64 0, .int .i64 0, str (([] : List UInt8)), .int .i64 0, .int .i64 0, .int .i64 0, str (([] : List UInt8)), .int .i64 0, .int .i64 0, str (([] : List UInt8)), .int .i64 0]) rfl rfl (T.nil (T.then_normal ?_))
 refine T.seqJ (fun (s1 : List UInt8 × List UInt8 × (List ((List UInt8) × Int × Int)) × (List (Int × Bool)) × (List (Int × Int × (List UInt8))) × Int × Int × List UInt8 × Int × Int × Int × List UInt8 × Int × Int × List UInt8 × Int) (x1 : (Option Addr × Nat) × (Option Addr × Nat) × (Option Addr × Nat)) => [(2, .pointer (some ⟨b2, 0, none⟩)), (4, .pointer (some ⟨b3, 0, none⟩))]) (fun s1 x1 => Cl b2 66 [.int .i64 0, str (([] : List UInt8)), str (([] : List UInt8)), .slice none 0 0, .slice none 0 0, .slice none 0 0, .int .i64 0, .int .i64 0, str (([] : List UInt8)), .int .i64 0, .int .i64 0, .int .i64 0, str (([] : List UInt8)), .int .i64 0, .int .i64 0, str (([] : List UInt8)), .int .i64 0] :: Cl b3 66 [.int .i64 a0.1, str s1.1, str s1.2.1, .slice x1.1.1 s1.2.2.1.length x1.1.2, .slice x1.2.1.1 s1.2.2.2.1.length x1.2.1.2, .slice x1.2.2.1 s1.2.2.2.2.1.length x1.2.2.2, .int .i64 s1.2.2.2.2.2.1, .int .i64 s1.2.2.2.2.2.2.1, str s1.2.2.2.2.2.2.2.1, .int .i64 s1.2.2.2.2.2.2.2.2.1, .int .i64 s1.2.2.2.2.2.2.2.2.2.1, .int .i64 s1.2.2.2.2.2.2.2.2.2.2.1, str s1.2.2.2.2.2.2.2.2.2.2.2.1, .int .i64 s1.2.2.2.2.2.2.2.2.2.2.2.2.1, .int .i64 s1.2.2.2.2.2.2.2.2.2.2.2.2.2.1, str s1.2.2.2.2.2.2.2.2.2.2.2.2.2.2.1, .int .i64 s1.2.2.2.2.2.2.2.2.2.2.2.2.2.2.2] :: Ro (Elt.pair EStr (Elt.pair E64 E64)) x1.1.1 x1.1.2 s1.2.2.1 :: Ro (Elt.pair E64 EBool) x1.2.1.1 x1.2.1.2 s1.2.2.2.1 :: Ro (Elt.pair E64 (Elt.pair E64 EStr)) x1.2.2.1 x1.2.2.2 s1.2.2.2.2.1 :: hs) (fun s1 => txn_bare.k1 a0 s1 = some r) (fun s1 x1 hk1 => ?_) (fun J1 => ?_)
 ·unfold txn_bare.k1 at hk1
  refine T.seq (T.region (T.loadN .list 1 rfl rfl w0 rfl rfl (vs := [.int .i64 a0.1, str s1.1, str s1.2.1, .slice x1.1.1 s1.2.2.1.length x1.1.2, .slice x1.2.1.1 s1.2.2.2.1.length x1.2.1.2, .slice x1.2.2.1 s1.2.2.2.2.1.length x1.2.2.2, .int .i64 s1.2.2.2.2.2.1, .int .i64 s1.2.2.2.2.2.2.1, str s1.2.2.2.2.2.2.2.1, .int .i64 s1.2.2.2.2.2.2.2.2.1, .int .i64 s1.2.2.2.2.2.2.2.2.2.1, .int .i64 s1.2.2.2.2.2.2.2.2.2.2.1, str s1.2.2.2.2.2.2.2.2.2.2.2.1, .int .i64 s1.2.2.2.2.2.2.2.2.2.2.2.2.1, .int .i64 s1.2.2.2.2.2.2.2.2.2.2.2.2.2.1, str s1.2.2.2.2.2.2.2.2.2.2.2.2.2.2.1, .int .i64 s1.2.2.2.2.2.2.2.2.2.2.2.2.2.2.2]) rfl rfl ?_))
  refine T.store .list 0 rfl rfl w0 rfl rfl rfl rfl (Nat.le_of_ble_eq_true rfl) rfl (cs' := [.int .i64 a0.1, str s1.1, str s1.2.1, .slice x1.1.1 s1.2.2.1.length x1.1.2, .slice x1.2.1.1 s1.2.2.2.1.length x1.2.1.2, .slice x1.2.2.1 s1.2.2.2.2.1.length x1.2.2.2, .int .i64 s1.2.2.2.2.2.1, .int .i64 s1.2.2.2.2.2.2.1, str s1.2.2.2.2.2.2.2.1, .int .i64 s1.2.2.2.2.2.2.2.2.1, .int .i64 s1.2.2.2.2.2.2.2.2.2.1, .int .i64 s1.2.2.2.2.2.2.2.2.2.2.1, str s1.2.2.2.2.2.2.2.2.2.2.2.1, .int .i64 s1.2.2.2.2.2.2.2.2.2.2.2.2.1, .int .i64 s1.2.2.2.2.2.2.2.2.2.2.2.2.2.1, str s1.2.2.2.2.2.2.2.2.2.2.2.2.2.2.1, .int .i64 s1.2.2.2.2.2.2.2.2.2.2.2.2.2.2.2]) rfl rfl (T.asg rfl rfl rfl rfl (T.nil (T.then_normal (T.ret ?_))))
  obtain rfl := inv_some hk1
  refine T.out2 rfl (OutRun.cellN 0 rfl rfl (vs := [.int .i64 a0.1, str s1.1, str s1.2.1, .slice x1.1.1 s1.2.2.1.length x1.1.2, .slice x1.2.1.1 s1.2.2.2.1.length x1.2.1.2, .slice x1.2.2.1 s1.2.2.2.2.1.length x1.2.2.2, .int .i64 s1.2.2.2.2.2.1, .int .i64 s1.2.2.2.2.2.2.1, str s1.2.2.2.2.2.2.2.1, .int .i64 s1.2.2.2.2.2.2.2.2.1, .int .i64 s1.2.2.2.2.2.2.2.2.2.1, .int .i64 s1.2.2.2.2.2.2.2.2.2.2.1, str s1.2.2.2.2.2.2.2.2.2.2.2.1, .int .i64 s1.2.2.2.2.2.2.2.2.2.2.2.2.1, .int .i64 s1.2.2.2.2.2.2.2.2.2.2.2.2.2.1, str s1.2.2.2.2.2.2.2.2.2.2.2.2.2.2.1, .int .i64 s1.2.2.2.2.2.2.2.2.2.2.2.2.2.2.2]) rfl rfl) (OutRun.tmp rfl) (fun w hS => ⟨x1, rfl, hS.pick [2, 3, 4] 5 rfl rfl nla rfl⟩)
 ·refine T.seq (T.region (T.field .list rfl w0 rfl rfl (T.load .list 2 rfl rfl w0 rfl rfl rfl (T.nil (T.then_normal (T.block (T.seq (T.region (T.bin .list rfl w0 rfl rfl rfl rfl (T.asg rfl rfl rfl rfl (T.nil ?_)))))))))))
  refine T.then_normal ?_
  refine T.cond rfl (fun hb1 => ?_) (fun hb1 => ?_)
  ·replace hr := inv_posB hb1 hr
   refine T.dStart mixed (T.field (.dPure (i := 0) rfl (by kernel_rfl) (fun d _ _ _ _ h => by cases d <;> exact h)) rfl w0 rfl rfl (T.field (.dPure (i := 2) rfl (by kernel_rfl) (fun d _ _ _ _ h => by cases d <;> exact h)) rfl w0 rfl rfl (T.dAdd 6 (fun w => w.heap[b1]? = some (.cells [.int .i64 a0.1, str a0.2.1, str a0.2.2.1.1, .slice A0a a0.2.2.1.2.1.length c0a, .slice A0b a0.2.2.1.2.2.length c0b, .slice A0c a0.2.2.2.1.length c0c, .int .i64 a0.2.2.2.2.1.1, .int .i64 a0.2.2.2.2.1.2.1, str a0.2.2.2.2.1.2.2, .int .i64 a0.2.2.2.2.2.1, .int .i64 a0.2.2.2.2.2.2.1.1, .int .i64 a0.2.2.2.2.2.2.1.2.1, str a0.2.2.2.2.2.2.1.2.2, .int .i64 a0.2.2.2.2.2.2.2.1.1, .int .i64 a0.2.2.2.2.2.2.2.1.2.1, str a0.2.2.2.2.2.2.2.1.2.2, .int .i64 a0.2.2.2.2.2.2.2.2].toArray 66 (0, 0))) (Cl.stays 2 rfl) (T.valS 0 (i := 1) (.agg #[str a0.2.2.1.1, .slice A0a a0.2.2.1.2.1.length c0a, .slice A0b a0.2.2.1.2.2.length c0b]) rfl rfl (by kernel_rfl) (by kernel_rfl) (fun d _ _ _ _ h => by cases d <;> exact h) w0 rfl (run_ldClN rfl rfl (vs := [str a0.2.2.1.1, .slice A0a a0.2.2.1.2.1.length c0a, .slice A0b a0.2.2.1.2.2.length c0b]) rfl rfl) (T.dOnly (i := 3) (by kernel_rfl) ?_)))))
   refine T.store (.dOne rfl (by kernel_rfl)) 0 rfl rfl w0 rfl rfl rfl rfl (Nat.le_of_ble_eq_true rfl) rfl (cs' := [.int .i64 a0.1, str (([] : List UInt8)), str (([] : List UInt8)), .slice none 0 0, .slice none 0 0, .slice none 0 0, .int .i64 0, .int .i64 0, str (([] : List UInt8)), .int .i64 0, .int .i64 0, .int .i64 0, str (([] : List UInt8)), .int .i64 0, .int .i64 0, str (([] : List UInt8)), .int .i64 0]) rfl rfl (T.dNext (phi_cons (.inr (Cl.stays 2 rfl)) phi_nil) (T.field (.dPure (i := 4) rfl (by kernel_rfl) (fun d _ _ _ _ h => by cases d <;> exact h)) rfl w0 rfl rfl (T.dOnly (i := 5) (by kernel_rfl) ?_)))
   refine T.store (.dOne rfl (by kernel_rfl)) 0 rfl rfl w0 rfl rfl rfl rfl (Nat.le_of_ble_eq_true rfl) rfl (cs' := [.int .i64 a0.1, str (([] : List UInt8)), str a0.2.2.1.1, .slice A0a a0.2.2.1.2.1.length c0a, .slice A0b a0.2.2.1.2.2.length c0b, .slice none 0 0, .int .i64 0, .int .i64 0, str (([] : List UInt8)), .int .i64 0, .int .i64 0, .int .i64 0, str (([] : List UInt8)), .int .i64 0, .int .i64 0, str (([] : List UInt8)), .int .i64 0]) rfl rfl (T.dNext (phi_cons (.inr (Cl.stays 2 rfl)) phi_nil) (T.dDone (by kernel_rfl) (T.in_normal (T.then_normal (T.nilRo (Elt.pair E64 (Elt.pair E64 EStr)) none 0 ?_)))))
   exact T.le (EnvLe.cons rfl (EnvLe.cons rfl EnvLe.nil)) (T.pick [2, 1, 6, 5, 0] 7 rfl rfl nla rfl (J1 (([] : List UInt8), a0.2.2.1.1, a0.2.2.1.2.1, a0.2.2.1.2.2, ([] : List (Int × Int × (List UInt8))), 0, 0, ([] : List UInt8), 0, 0, 0, ([] : List UInt8), 0, 0, ([] : List UInt8), 0) ((A0a, c0a), (A0b, c0b), (none, 0)) hr))
  ·replace hr := inv_negB hb1 hr
   refine T.seqJ (fun (s2 : Bool) (x2 : Unit) => [(1, .pointer (some ⟨b1, 0, none⟩)), (2, .pointer (some ⟨b2, 0, none⟩)), (4, .pointer (some ⟨b3, 0, none⟩)), (11, .int .i64 a0.1), (19, .bool s2)]) (fun s2 x2 => Cl b1 66 [.int .i64 a0.1, str a0.2.1, str a0.2.2.1.1, .slice A0a a0.2.2.1.2.1.length c0a, .slice A0b a0.2.2.1.2.2.length c0b, .slice A0c a0.2.2.2.1.length c0c, .int .i64 a0.2.2.2.2.1.1, .int .i64 a0.2.2.2.2.1.2.1, str a0.2.2.2.2.1.2.2, .int .i64 a0.2.2.2.2.2.1, .int .i64 a0.2.2.2.2.2.2.1.1, .int .i64 a0.2.2.2.2.2.2.1.2.1, str a0.2.2.2.2.2.2.1.2.2, .int .i64 a0.2.2.2.2.2.2.2.1.1, .int .i64 a0.2.2.2.2.2.2.2.1.2.1, str a0.2.2.2.2.2.2.2.1.2.2, .int .i64 a0.2.2.2.2.2.2.2.2] :: Ro (Elt.pair EStr (Elt.pair E64 E64)) A0a c0a a0.2.2.1.2.1 :: Ro (Elt.pair E64 EBool) A0b c0b a0.2.2.1.2.2 :: Ro (Elt.pair E64 (Elt.pair E64 EStr)) A0c c0c a0.2.2.2.1 :: Cl b2 66 [.int .i64 0, str (([] : List UInt8)), str (([] : List UInt8)), .slice none 0 0, .slice none 0 0, .slice none 0 0, .int .i64 0, .int .i64 0, str (([] : List UInt8)), .int .i64 0, .int .i64 0, .int .i64 0, str (([] : List UInt8)), .int .i64 0, .int .i64 0, str (([] : List UInt8)), .int .i64 0] :: Cl b3 66 [.int .i64 a0.1, str a0.2.1, str (([] : List UInt8)), .slice none 0 0, .slice none 0 0, .slice none 0 0, .int .i64 0, .int .i64 0, str (([] : List UInt8)), .int .i64 0, .int .i64 0, .int .i64 0, str (([] : List UInt8)), .int .i64 0, .int .i64 0, str (([] : List UInt8)), .int .i64 0] :: hs) (fun s2 => txn_bare.k2 a0 s2 = some r) (fun s2 x2 hk2 => ?_) (fun J2 => ?_)
   ·unfold txn_bare.k2 at hk2
    refine T.cond rfl (fun hb2 => ?_) (fun hb2 => ?_)
    ·replace hk2 := inv_posB hb2 hk2
     refine T.region (T.field .list rfl w0 rfl rfl (T.load .list 0 rfl rfl w0 rfl rfl rfl (T.field .list rfl w0 rfl rfl ?_)))
     refine T.store .list 5 rfl rfl w0 rfl rfl rfl rfl (Nat.le_of_ble_eq_true rfl) rfl (cs' := [.int .i64 a0.1, str a0.2.1, str (([] : List UInt8)), .slice none 0 0, .slice none 0 0, .slice A0c a0.2.2.2.1.length c0c, .int .i64 0, .int .i64 0, str (([] : List UInt8)), .int .i64 0, .int .i64 0, .int .i64 0, str (([] : List UInt8)), .int .i64 0, .int .i64 0, str (([] : List UInt8)), .int .i64 0]) rfl rfl (T.nil (T.in_normal (T.then_normal (T.nilRo (Elt.pair EStr (Elt.pair E64 E64)) none 0 (T.nilRo (Elt.pair E64 EBool) none 0 ?_)))))
     exact T.le (EnvLe.cons rfl (EnvLe.cons rfl EnvLe.nil)) (T.pick [6, 7, 1, 0, 5] 8 rfl rfl nla rfl (J1 (a0.2.1, ([] : List UInt8), ([] : List ((List UInt8) × Int × Int)), ([] : List (Int × Bool)), a0.2.2.2.1, 0, 0, ([] : List UInt8), 0, 0, 0, ([] : List UInt8), 0, 0, ([] : List UInt8), 0) ((none, 0), (none, 0), (A0c, c0c)) hk2))
    ·replace hk2 := inv_negB hb2 hk2
     refine T.seqJ (fun (s3 : Bool) (x3 : Unit) => [(1, .pointer (some ⟨b1, 0, none⟩)), (2, .pointer (some ⟨b2, 0, none⟩)), (4, .pointer (some ⟨b3, 0, none⟩)), (11, .int .i64 a0.1), (25, .bool s3)]) (fun s3 x3 => Cl b1 66 [.int .i64 a0.1, str a0.2.1, str a0.2.2.1.1, .slice A0a a0.2.2.1.2.1.length c0a, .slice A0b a0.2.2.1.2.2.length c0b, .slice A0c a0.2.2.2.1.length c0c, .int .i64 a0.2.2.2.2.1.1, .int .i64 a0.2.2.2.2.1.2.1, str a0.2.2.2.2.1.2.2, .int .i64 a0.2.2.2.2.2.1, .int .i64 a0.2.2.2.2.2.2.1.1, .int .i64 a0.2.2.2.2.2.2.1.2.1, str a0.2.2.2.2.2.2.1.2.2, .int .i64 a0.2.2.2.2.2.2.2.1.1, .int .i64 a0.2.2.2.2.2.2.2.1.2.1, str a0.2.2.2.2.2.2.2.1.2.2, .int .i64 a0.2.2.2.2.2.2.2.2] :: Ro (Elt.pair EStr (Elt.pair E64 E64)) A0a c0a a0.2.2.1.2.1 :: Ro (Elt.pair E64 EBool) A0b c0b a0.2.2.1.2.2 :: Ro (Elt.pair E64 (Elt.pair E64 EStr)) A0c c0c a0.2.2.2.1 :: Cl b2 66 [.int .i64 0, str (([] : List UInt8)), str (([] : List UInt8)), .slice none 0 0, .slice none 0 0, .slice none 0 0, .int .i64 0, .int .i64 0, str (([] : List UInt8)), .int .i64 0, .int .i64 0, .int .i64 0, str (([] : List UInt8)), .int .i64 0, .int .i64 0, str (([] : List UInt8)), .int .i64 0] :: Cl b3 66 [.int .i64 a0.1, str a0.2.1, str (([] : List UInt8)), .slice none 0 0, .slice none 0 0, .slice none 0 0, .int .i64 0, .int .i64 0, str (([] : List UInt8)), .int .i64 0, .int .i64 0, .int .i64 0, str (([] : List UInt8)), .int .i64 0, .int .i64 0, str (([] : List UInt8)), .int .i64 0] :: hs) (fun s3 => txn_bare.k3 a0 s3 = some r) (fun s3 x3 hk3 => ?_) (fun J3 => ?_)
     ·unfold txn_bare.k3 at hk3
      refine T.cond rfl (fun hb3 => ?_) (fun hb3 => ?_)
      ·replace hk3 := inv_posB hb3 hk3
       refine T.region (T.field .list rfl w0 rfl rfl (T.loadN .list 0 rfl rfl w0 rfl rfl (vs := [.int .i64 a0.2.2.2.2.1.1, .int .i64 a0.2.2.2.2.1.2.1, str a0.2.2.2.2.1.2.2]) rfl rfl (T.field .list rfl w0 rfl rfl ?_)))
       refine T.store .list 5 rfl rfl w0 rfl rfl rfl rfl (Nat.le_of_ble_eq_true rfl) rfl (cs' := [.int .i64 a0.1, str a0.2.1, str (([] : List UInt8)), .slice none 0 0, .slice none 0 0, .slice none 0 0, .int .i64 a0.2.2.2.2.1.1, .int .i64 a0.2.2.2.2.1.2.1, str a0.2.2.2.2.1.2.2, .int .i64 0, .int .i64 0, .int .i64 0, str (([] : List UInt8)), .int .i64 0, .int .i64 0, str (([] : List UInt8)), .int .i64 0]) rfl rfl (T.nil (T.in_normal (T.then_normal (T.nilRo (Elt.pair EStr (Elt.pair E64 E64)) none 0 (T.nilRo (Elt.pair E64 EBool) none 0 (T.nilRo (Elt.pair E64 (Elt.pair E64 EStr)) none 0 ?_))))))
       exact T.le (EnvLe.cons rfl (EnvLe.cons rfl EnvLe.nil)) (T.pick [7, 8, 2, 1, 0] 9 rfl rfl nla rfl (J1 (a0.2.1, ([] : List UInt8), ([] : List ((List UInt8) × Int × Int)), ([] : List (Int × Bool)), ([] : List (Int × Int × (List UInt8))), a0.2.2.2.2.1.1, a0.2.2.2.2.1.2.1, a0.2.2.2.2.1.2.2, 0, 0, 0, ([] : List UInt8), 0, 0, ([] : List UInt8), 0) ((none, 0), (none, 0), (none, 0)) hk3))
      ·replace hk3 := inv_negB hb3 hk3
       refine T.seq (T.region (T.bin .list rfl w0 rfl rfl rfl rfl (T.asg rfl rfl rfl rfl (T.nil (T.then_normal ?_)))))
       refine T.cond rfl (fun hb4 => ?_) (fun hb4 => ?_)
       ·replace hk3 := inv_posB hb4 hk3
        refine T.dStart mixed (T.field (.dPure (i := 0) rfl (by kernel_rfl) (fun d _ _ _ _ h => by cases d <;> exact h)) rfl w0 rfl rfl (T.field (.dPure (i := 2) rfl (by kernel_rfl) (fun d _ _ _ _ h => by cases d <;> exact h)) rfl w0 rfl rfl (T.field (.dPure (i := 4) rfl (by kernel_rfl) (fun d _ _ _ _ h => by cases d <;> exact h)) rfl w0 rfl rfl (T.field (.dPure (i := 6) rfl (by kernel_rfl) (fun d _ _ _ _ h => by cases d <;> exact h)) rfl w0 rfl rfl (T.dAdd 16 (fun w => w.heap[b1]? = some (.cells [.int .i64 a0.1, str a0.2.1, str a0.2.2.1.1, .slice A0a a0.2.2.1.2.1.length c0a, .slice A0b a0.2.2.1.2.2.length c0b, .slice A0c a0.2.2.2.1.length c0c, .int .i64 a0.2.2.2.2.1.1, .int .i64 a0.2.2.2.2.1.2.1, str a0.2.2.2.2.1.2.2, .int .i64 a0.2.2.2.2.2.1, .int .i64 a0.2.2.2.2.2.2.1.1, .int .i64 a0.2.2.2.2.2.2.1.2.1, str a0.2.2.2.2.2.2.1.2.2, .int .i64 a0.2.2.2.2.2.2.2.1.1, .int .i64 a0.2.2.2.2.2.2.2.1.2.1, str a0.2.2.2.2.2.2.2.1.2.2, .int .i64 a0.2.2.2.2.2.2.2.2].toArray 66 (0, 0))) (Cl.stays 0 rfl) (T.valS 0 (i := 1) (.int .i64 a0.2.2.2.2.2.1) rfl rfl (by kernel_rfl) (by kernel_rfl) (fun d _ _ _ _ h => by cases d <;> exact h) w0 rfl (run_ldCl rfl rfl rfl) (T.field (.dPure (i := 8) rfl (by kernel_rfl) (fun d _ _ _ _ h => by cases d <;> exact h)) rfl w0 rfl rfl (T.valS 0 (i := 3) (.agg #[.int .i64 a0.2.2.2.2.2.2.1.1, .int .i64 a0.2.2.2.2.2.2.1.2.1, str a0.2.2.2.2.2.2.1.2.2]) rfl rfl (by kernel_rfl) (by kernel_rfl) (fun d _ _ _ _ h => by cases d <;> exact h) w0 rfl (run_ldClN rfl rfl (vs := [.int .i64 a0.2.2.2.2.2.2.1.1, .int .i64 a0.2.2.2.2.2.2.1.2.1, str a0.2.2.2.2.2.2.1.2.2]) rfl rfl) (T.valS 0 (i := 5) (.agg #[.int .i64 a0.2.2.2.2.2.2.2.1.1, .int .i64 a0.2.2.2.2.2.2.2.1.2.1, str a0.2.2.2.2.2.2.2.1.2.2]) rfl rfl (by kernel_rfl) (by kernel_rfl) (fun d _ _ _ _ h => by cases d <;> exact h) w0 rfl (run_ldClN rfl rfl (vs := [.int .i64 a0.2.2.2.2.2.2.2.1.1, .int .i64 a0.2.2.2.2.2.2.2.1.2.1, str a0.2.2.2.2.2.2.2.1.2.2]) rfl rfl) (T.valS 0 (i := 7) (.int .i64 a0.2.2.2.2.2.2.2.2) rfl rfl (by kernel_rfl) (by kernel_rfl) (fun d _ _ _ _ h => by cases d <;> exact h) w0 rfl (run_ldCl rfl rfl rfl) (T.dOnly (i := 9) (by kernel_rfl) ?_)))))))))))
        refine T.store (.dOne rfl (by kernel_rfl)) 5 rfl rfl w0 rfl rfl rfl rfl (Nat.le_of_ble_eq_true rfl) rfl (cs' := [.int .i64 a0.1, str a0.2.1, str (([] : List UInt8)), .slice none 0 0, .slice none 0 0, .slice none 0 0, .int .i64 0, .int .i64 0, str (([] : List UInt8)), .int .i64 a0.2.2.2.2.2.1, .int .i64 0, .int .i64 0, str (([] : List UInt8)), .int .i64 0, .int .i64 0, str (([] : List UInt8)), .int .i64 0]) rfl rfl (T.dNext (phi_cons (.inr (Cl.stays 0 rfl)) phi_nil) (T.field (.dPure (i := 10) rfl (by kernel_rfl) (fun d _ _ _ _ h => by cases d <;> exact h)) rfl w0 rfl rfl (T.dOnly (i := 11) (by kernel_rfl) ?_)))
        refine T.store (.dOne rfl (by kernel_rfl)) 5 rfl rfl w0 rfl rfl rfl rfl (Nat.le_of_ble_eq_true rfl) rfl (cs' := [.int .i64 a0.1, str a0.2.1, str (([] : List UInt8)), .slice none 0 0, .slice none 0 0, .slice none 0 0, .int .i64 0, .int .i64 0, str (([] : List UInt8)), .int .i64 a0.2.2.2.2.2.1, .int .i64 a0.2.2.2.2.2.2.1.1, .int .i64 a0.2.2.2.2.2.2.1.2.1, str a0.2.2.2.2.2.2.1.2.2, .int .i64 0, .int .i64 0, str (([] : List UInt8)), .int .i64 0]) rfl rfl (T.dNext (phi_cons (.inr (Cl.stays 0 rfl)) phi_nil) (T.field (.dPure (i := 12) rfl (by kernel_rfl) (fun d _ _ _ _ h => by cases d <;> exact h)) rfl w0 rfl rfl (T.dOnly (i := 13) (by kernel_rfl) ?_)))
        refine T.store (.dOne rfl (by kernel_rfl)) 5 rfl rfl w0 rfl rfl rfl rfl (Nat.le_of_ble_eq_true rfl) rfl (cs' := [.int .i64 a0.1, str a0.2.1, str (([] : List UInt8)), .slice none 0 0, .slice none 0 0, .slice none 0 0, .int .i64 0, .int .i64 0, str (([] : List UInt8)), .int .i64 a0.2.2.2.2.2.1, .int .i64 a0.2.2.2.2.2.2.1.1, .int .i64 a0.2.2.2.2.2.2.1.2.1, str a0.2.2.2.2.2.2.1.2.2, .int .i64 a0.2.2.2.2.2.2.2.1.1, .int .i64 a0.2.2.2.2.2.2.2.1.2.1, str a0.2.2.2.2.2.2.2.1.2.2, .int .i64 0]) rfl rfl (T.dNext (phi_cons (.inr (Cl.stays 0 rfl)) phi_nil) (T.field (.dPure (i := 14) rfl (by kernel_rfl) (fun d _ _ _ _ h => by cases d <;> exact h)) rfl w0 rfl rfl (T.dOnly (i := 15) (by kernel_rfl) ?_)))
        refine T.store (.dOne rfl (by kernel_rfl)) 5 rfl rfl w0 rfl rfl rfl rfl (Nat.le_of_ble_eq_true rfl) rfl (cs' := [.int .i64 a0.1, str a0.2.1, str (([] : List UInt8)), .slice none 0 0, .slice none 0 0, .slice none 0 0, .int .i64 0, .int .i64 0, str (([] : List UInt8)), .int .i64 a0.2.2.2.2.2.1, .int .i64 a0.2.2.2.2.2.2.1.1, .int .i64 a0.2.2.2.2.2.2.1.2.1, str a0.2.2.2.2.2.2.1.2.2, .int .i64 a0.2.2.2.2.2.2.2.1.1, .int .i64 a0.2.2.2.2.2.2.2.1.2.1, str a0.2.2.2.2.2.2.2.1.2.2, .int .i64 a0.2.2.2.2.2.2.2.2]) rfl rfl (T.dNext (phi_cons (.inr (Cl.stays 0 rfl)) phi_nil) (T.dDone (by kernel_rfl) (T.in_normal (T.then_normal (T.nilRo (Elt.pair EStr (Elt.pair E64 E64)) none 0 (T.nilRo (Elt.pair E64 EBool) none 0 (T.nilRo (Elt.pair E64 (Elt.pair E64 EStr)) none 0 ?_)))))))
        exact T.le (EnvLe.cons rfl (EnvLe.cons rfl EnvLe.nil)) (T.pick [7, 8, 2, 1, 0] 9 rfl rfl nla rfl (J1 (a0.2.1, ([] : List UInt8), ([] : List ((List UInt8) × Int × Int)), ([] : List (Int × Bool)), ([] : List (Int × Int × (List UInt8))), 0, 0, ([] : List UInt8), a0.2.2.2.2.2.1, a0.2.2.2.2.2.2.1.1, a0.2.2.2.2.2.2.1.2.1, a0.2.2.2.2.2.2.1.2.2, a0.2.2.2.2.2.2.2.1.1, a0.2.2.2.2.2.2.2.1.2.1, a0.2.2.2.2.2.2.2.1.2.2, a0.2.2.2.2.2.2.2.2) ((none, 0), (none, 0), (none, 0)) hk3))
       ·replace hk3 := inv_negB hb4 hk3
        refine T.seq (T.region (T.build .list (vals := []) (cells := #[.int .i64 0, str (([] : List UInt8)), str (([] : List UInt8)), .slice none 0 0, .slice none 0 0, .slice none 0 0, .int .i64 0, .int .i64 0, str (([] : List UInt8)), .int .i64 0, .int .i64 0, .int .i64 0, str (([] : List UInt8)), .int .i64 0, .int .i64 0, str (([] : List UInt8)), .int .i64 0]) rfl w0 rfl rfl (run_buildStruct (sizes := [1, 1, 3, 1, 3, 1, 3, 3, 1]) (by kernel_rfl) (by kernel_rfl)) ?_))
        refine T.store .list 4 rfl rfl w0 rfl rfl rfl rfl (Nat.le_of_ble_eq_true rfl) rfl (cs' := [.int .i64 0, str (([] : List UInt8)), str (([] : List UInt8)), .slice none 0 0, .slice none 0 0, .slice none 0 0, .int .i64 0, .int .i64 0, str (([] : List UInt8)), .int .i64 0, .int .i64 0, .int .i64 0, str (([] : List UInt8)), .int .i64 0, .int .i64 0, str (([] : List UInt8)), .int .i64 0]) rfl rfl (T.asg rfl rfl rfl rfl (T.nil (T.then_normal (T.ret (T.in_ret (T.then_ret ?_))))))
        obtain rfl := inv_some hk3
        refine T.nilRo (Elt.pair EStr (Elt.pair E64 E64)) none 0 (T.nilRo (Elt.pair E64 EBool) none 0 (T.nilRo (Elt.pair E64 (Elt.pair E64 EStr)) none 0 ?_))
        refine T.out2 rfl (OutRun.cellN 7 rfl rfl (vs := [.int .i64 0, str (([] : List UInt8)), str (([] : List UInt8)), .slice none 0 0, .slice none 0 0, .slice none 0 0, .int .i64 0, .int .i64 0, str (([] : List UInt8)), .int .i64 0, .int .i64 0, .int .i64 0, str (([] : List UInt8)), .int .i64 0, .int .i64 0, str (([] : List UInt8)), .int .i64 0]) rfl rfl) (OutRun.tmp rfl) (fun w hS => ⟨((none, 0), (none, 0), (none, 0)), rfl, hS.pick [2, 1, 0] 9 rfl rfl nla rfl⟩)
     ·refine T.seq (T.region (T.bin .list rfl w0 rfl rfl rfl rfl (T.asg rfl rfl rfl rfl (T.nil (T.then_normal ?_)))))
      refine T.cond rfl (fun hb5 => ?_) (fun hb5 => ?_)
      ·replace hk2 := inv_posB hb5 hk2
       refine T.skip (T.then_normal ?_)
       exact T.le (EnvLe.cons rfl (EnvLe.cons rfl (EnvLe.cons rfl (EnvLe.cons rfl (EnvLe.cons rfl EnvLe.nil))))) (T.pick [0, 1, 2, 3, 4, 5] 6 rfl rfl nla rfl (J3 (decide (a0.1 = 4)) () hk2))
      ·replace hk2 := inv_negB hb5 hk2
       refine T.region (T.bin .list rfl w0 rfl rfl rfl rfl (T.asg rfl rfl rfl rfl (T.nil (T.then_normal ?_))))
       exact T.le (EnvLe.cons rfl (EnvLe.cons rfl (EnvLe.cons rfl (EnvLe.cons rfl (EnvLe.cons rfl EnvLe.nil))))) (T.pick [0, 1, 2, 3, 4, 5] 6 rfl rfl nla rfl (J3 (decide (a0.1 = 5)) () hk2))
   ·refine T.seq (T.region (T.bin .list rfl w0 rfl rfl rfl rfl (T.asg rfl rfl rfl rfl (T.nil (T.then_normal ?_)))))
    refine T.cond rfl (fun hb6 => ?_) (fun hb6 => ?_)
    ·replace hr := inv_posB hb6 hr
     refine T.skip (T.then_normal ?_)
     exact T.le (EnvLe.cons rfl (EnvLe.cons rfl (EnvLe.cons rfl (EnvLe.cons rfl (EnvLe.cons rfl EnvLe.nil))))) (T.pick [2, 5, 4, 3, 1, 0] 6 rfl rfl nla rfl (J2 (decide (a0.1 = 2)) () hr))
    ·replace hr := inv_negB hb6 hr
     refine T.region (T.bin .list rfl w0 rfl rfl rfl rfl (T.asg rfl rfl rfl rfl (T.nil (T.then_normal ?_))))
     exact T.le (EnvLe.cons rfl (EnvLe.cons rfl (EnvLe.cons rfl (EnvLe.cons rfl (EnvLe.cons rfl EnvLe.nil))))) (T.pick [2, 5, 4, 3, 1, 0] 6 rfl rfl nla rfl (J2 (decide (a0.1 = 3)) () hr))

noncomputable def txn_same.impl (a0 : Int × (List UInt8) × ((List UInt8) × (List ((List UInt8) × Int × Int)) × (List (Int × Bool))) × (List (Int × Int × (List UInt8))) × (Int × Int × (List UInt8)) × Int × (Int × Int × (List UInt8)) × (Int × Int × (List UInt8)) × Int) (a1 : Int × (List UInt8) × ((List UInt8) × (List ((List UInt8) × Int × Int)) × (List (Int × Bool))) × (List (Int × Int × (List UInt8))) × (Int × Int × (List UInt8)) × Int × (Int × Int × (List UInt8)) × (Int × Int × (List UInt8)) × Int) : Option Bool :=
  (if ((decide (a0.1 = a1.1))) = true then (if ((decide (a0.2.1 = a1.2.1))) = true then (schema_Same.impl a0.2.2.1 a1.2.2.1).bind fun r1 => (if r1 = true then (schema_SameRow.impl a0.2.2.2.1 a1.2.2.2.1).bind fun r2 => (if r2 = true then (if ((decide (a0.2.2.2.2.1 = a1.2.2.2.2.1))) = true then (if ((decide (a0.2.2.2.2.2.1 = a1.2.2.2.2.2.1))) = true then (if ((decide (a0.2.2.2.2.2.2.1 = a1.2.2.2.2.2.2.1))) = true then (if ((decide (a0.2.2.2.2.2.2.2.1 = a1.2.2.2.2.2.2.2.1))) = true then some (decide (a0.2.2.2.2.2.2.2.2 = a1.2.2.2.2.2.2.2.2)) else some false) else some false) else some false) else some false) else some false) else some false) else some false) else some false)
set_option maxRecDepth 100000 in
set_option maxHeartbeats 4000000 in
theorem txn_same.c {B : World} {hs : List MP} {w : World} {a0 : Int × (List UInt8) × ((List UInt8) × (List ((List UInt8) × Int × Int)) × (List (Int × Bool))) × (List (Int × Int × (List UInt8))) × (Int × Int × (List UInt8)) × Int × (Int × Int × (List UInt8)) × (Int × Int × (List UInt8)) × Int} {i0a c0a : Nat} {A0a : Option Addr} {i0b c0b : Nat} {A0b : Option Addr} {i0c c0c : Nat} {A0c : Option Addr} {a1 : Int × (List UInt8) × ((List UInt8) × (List ((List UInt8) × Int × Int)) × (List (Int × Bool))) × (List (Int × Int × (List UInt8))) × (Int × Int × (List UInt8)) × Int × (Int × Int × (List UInt8)) × (Int × Int × (List UInt8)) × Int} {i1a c1a : Nat} {A1a : Option Addr} {i1b c1b : Nat} {A1b : Option Addr} {i1c c1c : Nat} {A1c : Option Addr} (hB : Base B) (hS : St B hs w) (h0a : (hs)[i0a]? = some (Ro (Elt.pair EStr (Elt.pair E64 E64)) A0a c0a a0.2.2.1.2.1)) (h0b : (hs)[i0b]? = some (Ro (Elt.pair E64 EBool) A0b c0b a0.2.2.1.2.2)) (h0c : (hs)[i0c]? = some (Ro (Elt.pair E64 (Elt.pair E64 EStr)) A0c c0c a0.2.2.2.1)) (h1a : (hs)[i1a]? = some (Ro (Elt.pair EStr (Elt.pair E64 E64)) A1a c1a a1.2.2.1.2.1)) (h1b : (hs)[i1b]? = some (Ro (Elt.pair E64 EBool) A1b c1b a1.2.2.1.2.2)) (h1c : (hs)[i1c]? = some (Ro (Elt.pair E64 (Elt.pair E64 EStr)) A1c c1c a1.2.2.2.1)) {r : Bool} (hr : txn_same.impl a0 a1 = some r) :
    Calls Tryd.prog 92 #[.agg #[.int .i64 a0.1, str a0.2.1, str a0.2.2.1.1, .slice A0a a0.2.2.1.2.1.length c0a, .slice A0b a0.2.2.1.2.2.length c0b, .slice A0c a0.2.2.2.1.length c0c, .int .i64 a0.2.2.2.2.1.1, .int .i64 a0.2.2.2.2.1.2.1, str a0.2.2.2.2.1.2.2, .int .i64 a0.2.2.2.2.2.1, .int .i64 a0.2.2.2.2.2.2.1.1, .int .i64 a0.2.2.2.2.2.2.1.2.1, str a0.2.2.2.2.2.2.1.2.2, .int .i64 a0.2.2.2.2.2.2.2.1.1, .int .i64 a0.2.2.2.2.2.2.2.1.2.1, str a0.2.2.2.2.2.2.2.1.2.2, .int .i64 a0.2.2.2.2.2.2.2.2], .agg #[.int .i64 a1.1, str a1.2.1, str a1.2.2.1.1, .slice A1a a1.2.2.1.2.1.length c1a, .slice A1b a1.2.2.1.2.2.length c1b, .slice A1c a1.2.2.2.1.length c1c, .int .i64 a1.2.2.2.2.1.1, .int .i64 a1.2.2.2.2.1.2.1, str a1.2.2.2.2.1.2.2, .int .i64 a1.2.2.2.2.2.1, .int .i64 a1.2.2.2.2.2.2.1.1, .int .i64 a1.2.2.2.2.2.2.1.2.1, str a1.2.2.2.2.2.2.1.2.2, .int .i64 a1.2.2.2.2.2.2.2.1.1, .int .i64 a1.2.2.2.2.2.2.2.1.2.1, str a1.2.2.2.2.2.2.2.1.2.2, .int .i64 a1.2.2.2.2.2.2.2.2]] w fun e w' => ∃ x : Unit, e = .returned (.bool r) ∧ St B hs w' := by
 unfold txn_same.impl at hr
 refine calls_T Tryd.func92 rfl rfl rfl hS ?_
 refine T.front i0a h0a (T.front (i0b + 1) h0b (T.front (i0c + 2) h0c (T.front (i1a + 3) h1a (T.front (i1b + 4) h1b (T.front (i1c + 5) h1c (T.seq (T.region ?_)))))))
 refine T.boxS .list rfl w0 rfl rfl (cs := [.int .i64 a0.1, str a0.2.1, str a0.2.2.1.1, .slice A0a a0.2.2.1.2.1.length c0a, .slice A0b a0.2.2.1.2.2.length c0b, .slice A0c a0.2.2.2.1.length c0c, .int .i64 a0.2.2.2.2.1.1, .int .i64 a0.2.2.2.2.1.2.1, str a0.2.2.2.2.1.2.2, .int .i64 a0.2.2.2.2.2.1, .int .i64 a0.2.2.2.2.2.2.1.1, .int .i64 a0.2.2.2.2.2.2.1.2.1, str a0.2.2.2.2.2.2.1.2.2, .int .i64 a0.2.2.2.2.2.2.2.1.1, .int .i64 a0.2.2.2.2.2.2.2.1.2.1, str a0.2.2.2.2.2.2.2.1.2.2, .int .i64 a0.2.2.2.2.2.2.2.2]) rfl (fun b1 => ?_)
 refine T.boxS .list rfl w0 rfl rfl (cs := [.int .i64 a1.1, str a1.2.1, str a1.2.2.1.1, .slice A1a a1.2.2.1.2.1.length c1a, .slice A1b a1.2.2.1.2.2.length c1b, .slice A1c a1.2.2.2.1.length c1c, .int .i64 a1.2.2.2.2.1.1, .int .i64 a1.2.2.2.2.1.2.1, str a1.2.2.2.2.1.2.2, .int .i64 a1.2.2.2.2.2.1, .int .i64 a1.2.2.2.2.2.2.1.1, .int .i64 a1.2.2.2.2.2.2.1.2.1, str a1.2.2.2.2.2.2.1.2.2, .int .i64 a1.2.2.2.2.2.2.2.1.1, .int .i64 a1.2.2.2.2.2.2.2.1.2.1, str a1.2.2.2.2.2.2.2.1.2.2, .int .i64 a1.2.2.2.2.2.2.2.2]) rfl (fun b2 => ?_)
 refine T.asg rfl rfl rfl rfl (T.nil (T.then_normal (T.seq (T.region (T.field .list rfl w0 rfl rfl (T.load .list 1 rfl rfl w0 rfl rfl rfl (T.field .list rfl w0 rfl rfl (T.load .list 0 rfl rfl w0 rfl rfl rfl (T.bin .list rfl w0 rfl rfl rfl rfl (T.mv rfl rfl rfl rfl ?_))))))))))
 refine T.bool (b := (decide (a0.1 = a1.1))) (fun hb1 => ?_) (fun hb1 => ?_)
 ·replace hr := inv_posB hb1 hr
  refine T.field .list rfl (wants1 rfl rfl rfl hb1) rfl rfl (T.load .list 1 rfl rfl (wants1 rfl rfl rfl hb1) rfl rfl rfl (T.field .list rfl (wants1 rfl rfl rfl hb1) rfl rfl (T.load .list 0 rfl rfl (wants1 rfl rfl rfl hb1) rfl rfl rfl (T.strEq .list rfl (wants1 rfl rfl rfl hb1) rfl (l := a0.2.1) (l' := a1.2.1) rfl rfl (T.pickT .list rfl w0 rfl rfl hb1 rfl (T.mv rfl rfl rfl rfl ?_))))))
  refine T.bool (b := (decide (a0.2.1 = a1.2.1))) (fun hb2 => ?_) (fun hb2 => ?_)
  ·replace hr := inv_posB hb2 hr
   refine T.field .list rfl (wants1 rfl rfl rfl hb2) rfl rfl (T.loadN .list 1 rfl rfl (wants1 rfl rfl rfl hb2) rfl rfl (vs := [str a0.2.2.1.1, .slice A0a a0.2.2.1.2.1.length c0a, .slice A0b a0.2.2.1.2.2.length c0b]) rfl rfl (T.field .list rfl (wants1 rfl rfl rfl hb2) rfl rfl (T.loadN .list 0 rfl rfl (wants1 rfl rfl rfl hb2) rfl rfl (vs := [str a1.2.2.1.1, .slice A1a a1.2.2.1.2.1.length c1a, .slice A1b a1.2.2.1.2.2.length c1b]) rfl rfl ?_)))
   obtain ⟨r1, hg1, hr⟩ := inv_bind hr
   refine T.call .list (wants1 rfl rfl rfl hb2) rfl (run_callF (vs := [_, _]) rfl Tryd.func57 rfl (by decide) rfl) (fun w hS => schema_Same.c hB hS (i0a := 7) (i0b := 6) (i1a := 4) (i1b := 3) (a0 := a0.2.2.1) (a1 := a1.2.2.1) rfl rfl rfl rfl hg1) (fun x1 => ?_)
   refine T.pickT .list rfl w0 rfl rfl hb2 rfl (T.mv rfl rfl rfl rfl ?_)
   refine T.bool (b := r1) (fun hb3 => ?_) (fun hb3 => ?_)
   ·replace hr := inv_posB hb3 hr
    refine T.field .list rfl (wants1 rfl rfl rfl hb3) rfl rfl (T.load .list 1 rfl rfl (wants1 rfl rfl rfl hb3) rfl rfl rfl (T.field .list rfl (wants1 rfl rfl rfl hb3) rfl rfl (T.load .list 0 rfl rfl (wants1 rfl rfl rfl hb3) rfl rfl rfl ?_)))
    obtain ⟨r2, hg2, hr⟩ := inv_bind hr
    refine T.call .list (wants1 rfl rfl rfl hb3) rfl (run_callF (vs := [_, _]) rfl Tryd.func58 rfl (by decide) rfl) (fun w hS => schema_SameRow.c hB hS (i0 := 5) (i1 := 2) rfl rfl hg2) (fun x2 => ?_)
    refine T.pickT .list rfl w0 rfl rfl hb3 rfl (T.mv rfl rfl rfl rfl ?_)
    refine T.bool (b := r2) (fun hb4 => ?_) (fun hb4 => ?_)
    ·replace hr := inv_posB hb4 hr
     refine T.field .list rfl (wants1 rfl rfl rfl hb4) rfl rfl (T.loadN .list 1 rfl rfl (wants1 rfl rfl rfl hb4) rfl rfl (vs := [.int .i64 a0.2.2.2.2.1.1, .int .i64 a0.2.2.2.2.1.2.1, str a0.2.2.2.2.1.2.2]) rfl rfl (T.field .list rfl (wants1 rfl rfl rfl hb4) rfl rfl (T.loadN .list 0 rfl rfl (wants1 rfl rfl rfl hb4) rfl rfl (vs := [.int .i64 a1.2.2.2.2.1.1, .int .i64 a1.2.2.2.2.1.2.1, str a1.2.2.2.2.1.2.2]) rfl rfl (T.eqS .list rfl (wants1 rfl rfl rfl hb4) rfl rfl rfl (by kernel_rfl) (by kernel_rfl) (by kernel_rfl) (l := [(3, 0), (3, 1), (9, 2)]) (by kernel_rfl) (.int rfl rfl (.int rfl rfl (.str rfl rfl .nil))) (b' := (decide (a0.2.2.2.2.1 = a1.2.2.2.2.1))) (by rw [Bool.eq_iff_iff]; simp [Prod.ext_iff]) (T.pickT .list rfl w0 rfl rfl hb4 rfl (T.mv rfl rfl rfl rfl ?_))))))
     refine T.bool (b := (decide (a0.2.2.2.2.1 = a1.2.2.2.2.1))) (fun hb5 => ?_) (fun hb5 => ?_)
     ·replace hr := inv_posB hb5 hr
      refine T.field .list rfl (wants1 rfl rfl rfl hb5) rfl rfl (T.load .list 1 rfl rfl (wants1 rfl rfl rfl hb5) rfl rfl rfl (T.field .list rfl (wants1 rfl rfl rfl hb5) rfl rfl (T.load .list 0 rfl rfl (wants1 rfl rfl rfl hb5) rfl rfl rfl (T.bin .list rfl (wants1 rfl rfl rfl hb5) rfl rfl rfl rfl (T.pickT .list rfl w0 rfl rfl hb5 rfl (T.mv rfl rfl rfl rfl ?_))))))
      refine T.bool (b := (decide (a0.2.2.2.2.2.1 = a1.2.2.2.2.2.1))) (fun hb6 => ?_) (fun hb6 => ?_)
      ·replace hr := inv_posB hb6 hr
       refine T.field .list rfl (wants1 rfl rfl rfl hb6) rfl rfl (T.loadN .list 1 rfl rfl (wants1 rfl rfl rfl hb6) rfl rfl (vs := [.int .i64 a0.2.2.2.2.2.2.1.1, .int .i64 a0.2.2.2.2.2.2.1.2.1, str a0.2.2.2.2.2.2.1.2.2]) rfl rfl (T.field .list rfl (wants1 rfl rfl rfl hb6) rfl rfl (T.loadN .list 0 rfl rfl (wants1 rfl rfl rfl hb6) rfl rfl (vs := [.int .i64 a1.2.2.2.2.2.2.1.1, .int .i64 a1.2.2.2.2.2.2.1.2.1, str a1.2.2.2.2.2.2.1.2.2]) rfl rfl (T.eqS .list rfl (wants1 rfl rfl rfl hb6) rfl rfl rfl (by kernel_rfl) (by kernel_rfl) (by kernel_rfl) (l := [(3, 0), (3, 1), (9, 2)]) (by kernel_rfl) (.int rfl rfl (.int rfl rfl (.str rfl rfl .nil))) (b' := (decide (a0.2.2.2.2.2.2.1 = a1.2.2.2.2.2.2.1))) (by rw [Bool.eq_iff_iff]; simp [Prod.ext_iff]) (T.pickT .list rfl w0 rfl rfl hb6 rfl (T.mv rfl rfl rfl rfl ?_))))))
       refine T.bool (b := (decide (a0.2.2.2.2.2.2.1 = a1.2.2.2.2.2.2.1))) (fun hb7 => ?_) (fun hb7 => ?_)
       ·replace hr := inv_posB hb7 hr
        refine T.field .list rfl (wants1 rfl rfl rfl hb7) rfl rfl (T.loadN .list 1 rfl rfl (wants1 rfl rfl rfl hb7) rfl rfl (vs := [.int .i64 a0.2.2.2.2.2.2.2.1.1, .int .i64 a0.2.2.2.2.2.2.2.1.2.1, str a0.2.2.2.2.2.2.2.1.2.2]) rfl rfl (T.field .list rfl (wants1 rfl rfl rfl hb7) rfl rfl (T.loadN .list 0 rfl rfl (wants1 rfl rfl rfl hb7) rfl rfl (vs := [.int .i64 a1.2.2.2.2.2.2.2.1.1, .int .i64 a1.2.2.2.2.2.2.2.1.2.1, str a1.2.2.2.2.2.2.2.1.2.2]) rfl rfl (T.eqS .list rfl (wants1 rfl rfl rfl hb7) rfl rfl rfl (by kernel_rfl) (by kernel_rfl) (by kernel_rfl) (l := [(3, 0), (3, 1), (9, 2)]) (by kernel_rfl) (.int rfl rfl (.int rfl rfl (.str rfl rfl .nil))) (b' := (decide (a0.2.2.2.2.2.2.2.1 = a1.2.2.2.2.2.2.2.1))) (by rw [Bool.eq_iff_iff]; simp [Prod.ext_iff]) (T.pickT .list rfl w0 rfl rfl hb7 rfl (T.mv rfl rfl rfl rfl ?_))))))
        refine T.bool (b := (decide (a0.2.2.2.2.2.2.2.1 = a1.2.2.2.2.2.2.2.1))) (fun hb8 => ?_) (fun hb8 => ?_)
        ·replace hr := inv_posB hb8 hr
         refine T.field .list rfl (wants1 rfl rfl rfl hb8) rfl rfl (T.load .list 1 rfl rfl (wants1 rfl rfl rfl hb8) rfl rfl rfl (T.field .list rfl (wants1 rfl rfl rfl hb8) rfl rfl (T.load .list 0 rfl rfl (wants1 rfl rfl rfl hb8) rfl rfl rfl (T.bin .list rfl (wants1 rfl rfl rfl hb8) rfl rfl rfl rfl (T.pickT .list rfl w0 rfl rfl hb8 rfl (T.asg rfl rfl rfl rfl (T.nil (T.then_normal (T.ret ?_)))))))))
         obtain rfl := inv_some hr
         refine T.pick [] 8 rfl rfl nla rfl ?_
         refine T.ret1 rfl rfl (fun w hS => ⟨(), rfl, hS⟩)
        ·replace hr := inv_negB hb8 hr
         refine T.lv rfl rfl rfl hb8 rfl (T.lv rfl rfl rfl hb8 rfl (T.lv rfl rfl rfl hb8 rfl (T.lv rfl rfl rfl hb8 rfl (T.lv rfl rfl rfl hb8 rfl (T.pickF .list rfl w0 rfl rfl hb8 rfl (T.asg rfl rfl rfl rfl (T.nil (T.then_normal (T.ret ?_)))))))))
         obtain rfl := inv_some hr
         refine T.pick [] 8 rfl rfl nla rfl ?_
         refine T.ret1 rfl rfl (fun w hS => ⟨(), rfl, hS⟩)
       ·replace hr := inv_negB hb7 hr
        refine T.lv rfl rfl rfl hb7 rfl (T.lv rfl rfl rfl hb7 rfl (T.lv rfl rfl rfl hb7 rfl (T.lv rfl rfl rfl hb7 rfl (T.lv rfl rfl rfl hb7 rfl (T.pickF .list rfl w0 rfl rfl hb7 rfl (T.mv rfl rfl rfl rfl (T.lv rfl rfl rfl rfl rfl (T.lv rfl rfl rfl rfl rfl (T.lv rfl rfl rfl rfl rfl (T.lv rfl rfl rfl rfl rfl (T.lv rfl rfl rfl rfl rfl ?_)))))))))))
        refine T.pickF .list rfl w0 rfl rfl rfl rfl (T.asg rfl rfl rfl rfl (T.nil (T.then_normal (T.ret ?_))))
        obtain rfl := inv_some hr
        refine T.pick [] 8 rfl rfl nla rfl ?_
        refine T.ret1 rfl rfl (fun w hS => ⟨(), rfl, hS⟩)
      ·replace hr := inv_negB hb6 hr
       refine T.lv rfl rfl rfl hb6 rfl (T.lv rfl rfl rfl hb6 rfl (T.lv rfl rfl rfl hb6 rfl (T.lv rfl rfl rfl hb6 rfl (T.lv rfl rfl rfl hb6 rfl (T.pickF .list rfl w0 rfl rfl hb6 rfl (T.mv rfl rfl rfl rfl (T.lv rfl rfl rfl rfl rfl (T.lv rfl rfl rfl rfl rfl (T.lv rfl rfl rfl rfl rfl (T.lv rfl rfl rfl rfl rfl (T.lv rfl rfl rfl rfl rfl ?_)))))))))))
       refine T.pickF .list rfl w0 rfl rfl rfl rfl (T.mv rfl rfl rfl rfl (T.lv rfl rfl rfl rfl rfl (T.lv rfl rfl rfl rfl rfl (T.lv rfl rfl rfl rfl rfl (T.lv rfl rfl rfl rfl rfl (T.lv rfl rfl rfl rfl rfl (T.pickF .list rfl w0 rfl rfl rfl rfl (T.asg rfl rfl rfl rfl (T.nil (T.then_normal (T.ret ?_)))))))))))
       obtain rfl := inv_some hr
       refine T.pick [] 8 rfl rfl nla rfl ?_
       refine T.ret1 rfl rfl (fun w hS => ⟨(), rfl, hS⟩)
     ·replace hr := inv_negB hb5 hr
      refine T.lv rfl rfl rfl hb5 rfl (T.lv rfl rfl rfl hb5 rfl (T.lv rfl rfl rfl hb5 rfl (T.lv rfl rfl rfl hb5 rfl (T.lv rfl rfl rfl hb5 rfl (T.pickF .list rfl w0 rfl rfl hb5 rfl (T.mv rfl rfl rfl rfl (T.lv rfl rfl rfl rfl rfl (T.lv rfl rfl rfl rfl rfl (T.lv rfl rfl rfl rfl rfl (T.lv rfl rfl rfl rfl rfl (T.lv rfl rfl rfl rfl rfl ?_)))))))))))
      refine T.pickF .list rfl w0 rfl rfl rfl rfl (T.mv rfl rfl rfl rfl (T.lv rfl rfl rfl rfl rfl (T.lv rfl rfl rfl rfl rfl (T.lv rfl rfl rfl rfl rfl (T.lv rfl rfl rfl rfl rfl (T.lv rfl rfl rfl rfl rfl (T.pickF .list rfl w0 rfl rfl rfl rfl (T.mv rfl rfl rfl rfl (T.lv rfl rfl rfl rfl rfl (T.lv rfl rfl rfl rfl rfl (T.lv rfl rfl rfl rfl rfl ?_)))))))))))
      refine T.lv rfl rfl rfl rfl rfl (T.lv rfl rfl rfl rfl rfl (T.pickF .list rfl w0 rfl rfl rfl rfl (T.asg rfl rfl rfl rfl (T.nil (T.then_normal (T.ret ?_))))))
      obtain rfl := inv_some hr
      refine T.pick [] 8 rfl rfl nla rfl ?_
      refine T.ret1 rfl rfl (fun w hS => ⟨(), rfl, hS⟩)
    ·replace hr := inv_negB hb4 hr
     refine T.lv rfl rfl rfl hb4 rfl (T.lv rfl rfl rfl hb4 rfl (T.lv rfl rfl rfl hb4 rfl (T.lv rfl rfl rfl hb4 rfl (T.lv rfl rfl rfl hb4 rfl (T.pickF .list rfl w0 rfl rfl hb4 rfl (T.mv rfl rfl rfl rfl (T.lv rfl rfl rfl rfl rfl (T.lv rfl rfl rfl rfl rfl (T.lv rfl rfl rfl rfl rfl (T.lv rfl rfl rfl rfl rfl (T.lv rfl rfl rfl rfl rfl ?_)))))))))))
     refine T.pickF .list rfl w0 rfl rfl rfl rfl (T.mv rfl rfl rfl rfl (T.lv rfl rfl rfl rfl rfl (T.lv rfl rfl rfl rfl rfl (T.lv rfl rfl rfl rfl rfl (T.lv rfl rfl rfl rfl rfl (T.lv rfl rfl rfl rfl rfl (T.pickF .list rfl w0 rfl rfl rfl rfl (T.mv rfl rfl rfl rfl (T.lv rfl rfl rfl rfl rfl (T.lv rfl rfl rfl rfl rfl (T.lv rfl rfl rfl rfl rfl ?_)))))))))))
     refine T.lv rfl rfl rfl rfl rfl (T.lv rfl rfl rfl rfl rfl (T.pickF .list rfl w0 rfl rfl rfl rfl (T.mv rfl rfl rfl rfl (T.lv rfl rfl rfl rfl rfl (T.lv rfl rfl rfl rfl rfl (T.lv rfl rfl rfl rfl rfl (T.lv rfl rfl rfl rfl rfl (T.lv rfl rfl rfl rfl rfl (T.pickF .list rfl w0 rfl rfl rfl rfl (T.asg rfl rfl rfl rfl (T.nil ?_)))))))))))
     refine T.then_normal (T.ret ?_)
     obtain rfl := inv_some hr
     refine T.pick [] 8 rfl rfl nla rfl ?_
     refine T.ret1 rfl rfl (fun w hS => ⟨(), rfl, hS⟩)
   ·replace hr := inv_negB hb3 hr
    refine T.lv rfl rfl rfl hb3 rfl (T.lv rfl rfl rfl hb3 rfl (T.lv rfl rfl rfl hb3 rfl (T.lv rfl rfl rfl hb3 rfl (T.lv rfl rfl rfl hb3 rfl (T.pickF .list rfl w0 rfl rfl hb3 rfl (T.mv rfl rfl rfl rfl (T.lv rfl rfl rfl rfl rfl (T.lv rfl rfl rfl rfl rfl (T.lv rfl rfl rfl rfl rfl (T.lv rfl rfl rfl rfl rfl (T.lv rfl rfl rfl rfl rfl ?_)))))))))))
    refine T.pickF .list rfl w0 rfl rfl rfl rfl (T.mv rfl rfl rfl rfl (T.lv rfl rfl rfl rfl rfl (T.lv rfl rfl rfl rfl rfl (T.lv rfl rfl rfl rfl rfl (T.lv rfl rfl rfl rfl rfl (T.lv rfl rfl rfl rfl rfl (T.pickF .list rfl w0 rfl rfl rfl rfl (T.mv rfl rfl rfl rfl (T.lv rfl rfl rfl rfl rfl (T.lv rfl rfl rfl rfl rfl (T.lv rfl rfl rfl rfl rfl ?_)))))))))))
    refine T.lv rfl rfl rfl rfl rfl (T.lv rfl rfl rfl rfl rfl (T.pickF .list rfl w0 rfl rfl rfl rfl (T.mv rfl rfl rfl rfl (T.lv rfl rfl rfl rfl rfl (T.lv rfl rfl rfl rfl rfl (T.lv rfl rfl rfl rfl rfl (T.lv rfl rfl rfl rfl rfl (T.lv rfl rfl rfl rfl rfl (T.pickF .list rfl w0 rfl rfl rfl rfl (T.mv rfl rfl rfl rfl (T.lv rfl rfl rfl rfl rfl ?_)))))))))))
    refine T.lv rfl rfl rfl rfl rfl (T.lv rfl rfl rfl rfl rfl (T.lv rfl rfl rfl rfl rfl (T.lv rfl rfl rfl rfl rfl (T.pickF .list rfl w0 rfl rfl rfl rfl (T.asg rfl rfl rfl rfl (T.nil (T.then_normal (T.ret ?_))))))))
    obtain rfl := inv_some hr
    refine T.pick [] 8 rfl rfl nla rfl ?_
    refine T.ret1 rfl rfl (fun w hS => ⟨(), rfl, hS⟩)
  ·replace hr := inv_negB hb2 hr
   refine T.lv rfl rfl rfl hb2 rfl (T.lv rfl rfl rfl hb2 rfl (T.lv rfl rfl rfl hb2 rfl (T.lv rfl rfl rfl hb2 rfl (T.lv rfl rfl rfl hb2 rfl (T.pickF .list rfl w0 rfl rfl hb2 rfl (T.mv rfl rfl rfl rfl (T.lv rfl rfl rfl rfl rfl (T.lv rfl rfl rfl rfl rfl (T.lv rfl rfl rfl rfl rfl (T.lv rfl rfl rfl rfl rfl (T.lv rfl rfl rfl rfl rfl ?_)))))))))))
   refine T.pickF .list rfl w0 rfl rfl rfl rfl (T.mv rfl rfl rfl rfl (T.lv rfl rfl rfl rfl rfl (T.lv rfl rfl rfl rfl rfl (T.lv rfl rfl rfl rfl rfl (T.lv rfl rfl rfl rfl rfl (T.lv rfl rfl rfl rfl rfl (T.pickF .list rfl w0 rfl rfl rfl rfl (T.mv rfl rfl rfl rfl (T.lv rfl rfl rfl rfl rfl (T.lv rfl rfl rfl rfl rfl (T.lv rfl rfl rfl rfl rfl ?_)))))))))))
   refine T.lv rfl rfl rfl rfl rfl (T.lv rfl rfl rfl rfl rfl (T.pickF .list rfl w0 rfl rfl rfl rfl (T.mv rfl rfl rfl rfl (T.lv rfl rfl rfl rfl rfl (T.lv rfl rfl rfl rfl rfl (T.lv rfl rfl rfl rfl rfl (T.lv rfl rfl rfl rfl rfl (T.lv rfl rfl rfl rfl rfl (T.pickF .list rfl w0 rfl rfl rfl rfl (T.mv rfl rfl rfl rfl (T.lv rfl rfl rfl rfl rfl ?_)))))))))))
   refine T.lv rfl rfl rfl rfl rfl (T.lv rfl rfl rfl rfl rfl (T.lv rfl rfl rfl rfl rfl (T.lv rfl rfl rfl rfl rfl (T.pickF .list rfl w0 rfl rfl rfl rfl (T.mv rfl rfl rfl rfl (T.lv rfl rfl rfl rfl rfl (T.lv rfl rfl rfl rfl rfl (T.lv rfl rfl rfl rfl rfl (T.lv rfl rfl rfl rfl rfl (T.lv rfl rfl rfl rfl rfl (T.pickF .list rfl w0 rfl rfl rfl rfl ?_)))))))))))
   refine T.asg rfl rfl rfl rfl (T.nil (T.then_normal (T.ret ?_)))
   obtain rfl := inv_some hr
   refine T.pick [] 8 rfl rfl nla rfl ?_
   refine T.ret1 rfl rfl (fun w hS => ⟨(), rfl, hS⟩)
 ·replace hr := inv_negB hb1 hr
  refine T.lv rfl rfl rfl hb1 rfl (T.lv rfl rfl rfl hb1 rfl (T.lv rfl rfl rfl hb1 rfl (T.lv rfl rfl rfl hb1 rfl (T.lv rfl rfl rfl hb1 rfl (T.pickF .list rfl w0 rfl rfl hb1 rfl (T.mv rfl rfl rfl rfl (T.lv rfl rfl rfl rfl rfl (T.lv rfl rfl rfl rfl rfl (T.lv rfl rfl rfl rfl rfl (T.lv rfl rfl rfl rfl rfl (T.lv rfl rfl rfl rfl rfl ?_)))))))))))
  refine T.pickF .list rfl w0 rfl rfl rfl rfl (T.mv rfl rfl rfl rfl (T.lv rfl rfl rfl rfl rfl (T.lv rfl rfl rfl rfl rfl (T.lv rfl rfl rfl rfl rfl (T.lv rfl rfl rfl rfl rfl (T.lv rfl rfl rfl rfl rfl (T.pickF .list rfl w0 rfl rfl rfl rfl (T.mv rfl rfl rfl rfl (T.lv rfl rfl rfl rfl rfl (T.lv rfl rfl rfl rfl rfl (T.lv rfl rfl rfl rfl rfl ?_)))))))))))
  refine T.lv rfl rfl rfl rfl rfl (T.lv rfl rfl rfl rfl rfl (T.pickF .list rfl w0 rfl rfl rfl rfl (T.mv rfl rfl rfl rfl (T.lv rfl rfl rfl rfl rfl (T.lv rfl rfl rfl rfl rfl (T.lv rfl rfl rfl rfl rfl (T.lv rfl rfl rfl rfl rfl (T.lv rfl rfl rfl rfl rfl (T.pickF .list rfl w0 rfl rfl rfl rfl (T.mv rfl rfl rfl rfl (T.lv rfl rfl rfl rfl rfl ?_)))))))))))
  refine T.lv rfl rfl rfl rfl rfl (T.lv rfl rfl rfl rfl rfl (T.lv rfl rfl rfl rfl rfl (T.lv rfl rfl rfl rfl rfl (T.pickF .list rfl w0 rfl rfl rfl rfl (T.mv rfl rfl rfl rfl (T.lv rfl rfl rfl rfl rfl (T.lv rfl rfl rfl rfl rfl (T.lv rfl rfl rfl rfl rfl (T.lv rfl rfl rfl rfl rfl (T.lv rfl rfl rfl rfl rfl (T.pickF .list rfl w0 rfl rfl rfl rfl ?_)))))))))))
  refine T.mv rfl rfl rfl rfl (T.lv rfl rfl rfl rfl rfl (T.lv rfl rfl rfl rfl rfl (T.lv rfl rfl rfl rfl rfl (T.lv rfl rfl rfl rfl rfl (T.lv rfl rfl rfl rfl rfl (T.pickF .list rfl w0 rfl rfl rfl rfl (T.asg rfl rfl rfl rfl (T.nil (T.then_normal (T.ret ?_))))))))))
  obtain rfl := inv_some hr
  refine T.pick [] 8 rfl rfl nla rfl ?_
  refine T.ret1 rfl rfl (fun w hS => ⟨(), rfl, hS⟩)

noncomputable def txn_right_1.impl (a0 : Int × Int × (List UInt8)) : Option Bool :=
  (txn_value.impl a0).bind fun r1 => some (!r1)
set_option maxRecDepth 100000 in
set_option maxHeartbeats 4000000 in
theorem txn_right_1.c {B : World} {hs : List MP} {w : World} {a0 : Int × Int × (List UInt8)} (hB : Base B) (hS : St B hs w) {r : Bool} (hr : txn_right_1.impl a0 = some r) :
    Calls Tryd.prog 95 #[.agg #[.int .i64 a0.1, .int .i64 a0.2.1, str a0.2.2]] w fun e w' => ∃ x : Unit, e = .returned (.bool r) ∧ St B hs w' := by
 unfold txn_right_1.impl at hr
 refine calls_T Tryd.func95 rfl rfl rfl hS ?_
 refine T.seq (T.region ?_)
 refine T.boxS .list rfl w0 rfl rfl (cs := [.int .i64 a0.1, .int .i64 a0.2.1, str a0.2.2]) rfl (fun b1 => ?_)
 refine T.asg rfl rfl rfl rfl (T.nil (T.then_normal (T.seq (T.region (T.loadN .list 0 rfl rfl w0 rfl rfl (vs := [.int .i64 a0.1, .int .i64 a0.2.1, str a0.2.2]) rfl rfl ?_)))))
 obtain ⟨r1, hg1, hr⟩ := inv_bind hr
 refine T.call .list w0 rfl (run_callF (vs := [_]) rfl Tryd.func93 rfl (by decide) rfl) (fun w hS => txn_value.c hB hS (a0 := a0)  hg1) (fun x1 => ?_)
 refine T.not .list rfl w0 rfl rfl (T.asg rfl rfl rfl rfl (T.nil (T.then_normal (T.ret ?_))))
 obtain rfl := inv_some hr
 refine T.pick [] 1 rfl rfl nla rfl ?_
 refine T.ret1 rfl rfl (fun w hS => ⟨(), rfl, hS⟩)

noncomputable def slices_IndexFunc_api_Value_api_Value__txn_right_1.k1 (s1 : Unit) : Option Int :=
  some (-1)
noncomputable def slices_IndexFunc_api_Value_api_Value__txn_right_1.st1 (l0 : List (Int × Int × (List UInt8))) (s2 : Int) : Option (Int ⊕ (Int ⊕ Unit)) :=
  (if ((decide (s2 < ((l0.length : Int))))) = true then chk (0 ≤ s2 ∧ s2 < (l0.length : Int)) ((txn_right_1.impl (((l0).getD (s2 : Int).toNat default))).bind fun r1 => (if r1 = true then some (.inr (.inl s2)) else some (.inl (IntKind.i64.wrap (s2 + 1))))) else some (.inr (.inr ())))
noncomputable def slices_IndexFunc_api_Value_api_Value__txn_right_1.impl (l0 : List (Int × Int × (List UInt8))) : Option Int :=
  (loop (slices_IndexFunc_api_Value_api_Value__txn_right_1.st1 l0) 0).bind (fun e1 => match e1 with | .inl v => some v | .inr v => slices_IndexFunc_api_Value_api_Value__txn_right_1.k1 v)
set_option maxRecDepth 100000 in
set_option maxHeartbeats 4000000 in
theorem slices_IndexFunc_api_Value_api_Value__txn_right_1.c {B : World} {hs : List MP} {w : World} {i0 c0 : Nat} {A0 : Option Addr} {l0 : List (Int × Int × (List UInt8))} (hB : Base B) (hS : St B hs w) (h0 : (hs)[i0]? = some (Ro (Elt.pair E64 (Elt.pair E64 EStr)) A0 c0 l0)) {r : Int} (hr : slices_IndexFunc_api_Value_api_Value__txn_right_1.impl l0 = some r) :
    Calls Tryd.prog 99 #[.slice A0 l0.length c0, .func (.func 95) #[] #[]] w fun e w' => ∃ x : Unit, e = .returned (.int .i64 r) ∧ St B hs w' := by
 unfold slices_IndexFunc_api_Value_api_Value__txn_right_1.impl at hr
 refine calls_T Tryd.func99 rfl rfl rfl hS ?_
 refine T.front i0 h0 (T.seq (T.region (T.asg rfl rfl rfl rfl (T.nil (T.then_normal ?_)))))
 refine T.seqJ (fun (s1 : Unit) (x1 : Unit) => []) (fun s1 x1 => hs) (fun s1 => slices_IndexFunc_api_Value_api_Value__txn_right_1.k1 s1 = some r) (fun s1 x1 hk1 => ?_) (fun J1 => ?_)
 ·unfold slices_IndexFunc_api_Value_api_Value__txn_right_1.k1 at hk1
  refine T.seq (T.region (T.asg rfl rfl rfl rfl (T.nil (T.then_normal (T.ret ?_)))))
  obtain rfl := inv_some hk1
  refine T.pick [] 0 rfl rfl nla rfl ?_
  refine T.ret1 rfl rfl (fun w hS => ⟨(), rfl, hS⟩)
 ·refine T.seq (T.region (T.mv rfl rfl rfl rfl (T.lenSlice .list rfl w0 rfl rfl (T.mv rfl rfl rfl rfl (T.nil (T.then_normal (T.block ?_)))))))
  obtain ⟨e1, hl1, hr⟩ := inv_bind hr
  refine T.le (EnvLe.cons rfl (EnvLe.cons rfl (EnvLe.cons rfl (EnvLe.cons rfl EnvLe.nil)))) (T.pick [0] 1 rfl rfl nla rfl (T.loop (s0 := 0) (env := fun s2 x2 => [(0, .slice A0 l0.length c0), (1, .func (.func 95) #[] #[]), (7, .int .i64 ((l0.length : Int))), (8, .int .i64 s2)]) (hs := fun (s2 : Int) (x2 : Unit) => Ro (Elt.pair E64 (Elt.pair E64 EStr)) A0 c0 l0 :: hs) hl1 () (fun K1 s2 x2 o1 he1 hm1 hx1 => ?_)))
  unfold slices_IndexFunc_api_Value_api_Value__txn_right_1.st1 at he1
  refine T.seq (T.region (T.bin .list rfl w0 rfl rfl rfl rfl (T.nil (T.then_normal (T.seq ?_)))))
  refine T.cond rfl (fun hb1 => ?_) (fun hb1 => ?_)
  ·replace he1 := inv_posB hb1 he1
   refine T.skip (T.then_normal (T.seq (T.block (T.seq (T.region (T.mv rfl rfl rfl rfl (T.asg rfl rfl rfl rfl (T.nil (T.then_normal (T.seq (T.region ?_)))))))))))
   refine T.mv rfl rfl rfl rfl (T.mv rfl rfl rfl rfl (T.mv rfl rfl rfl rfl ?_))
   obtain ⟨hc1, he1⟩ := inv_chk he1
   refine T.idxRo .list 0 rfl rfl w0 rfl rfl rfl hc1.1 hc1.2 (Nat.le_refl _) ?_
   refine T.ldFRo 0 .list Fd.self (Sh.pair Sh.sc (Sh.pair Sh.sc Sh.sc)) rfl (.inl rfl) rfl rfl hc1.1 hc1.2 rfl w0 rfl rfl rfl (v := fun x3 => .agg #[.int .i64 (((((l0).getD (s2 : Int).toNat default)).1)), .int .i64 (((((l0).getD (s2 : Int).toNat default)).2.1)), str (((((l0).getD (s2 : Int).toNat default)).2.2))]) (hs' := fun x3 => Ro (Elt.pair E64 (Elt.pair E64 EStr)) A0 c0 l0 :: hs) (fun _ => rfl) (fun _ => rfl) (fun x3 => ?_)
   obtain ⟨r1, hg1, he1⟩ := inv_bind he1
   refine T.call .list w0 rfl (run_callV (vs := [_]) (caps := []) (args := [_]) rfl rfl Tryd.func95 rfl (by decide) rfl rfl) (fun w hS => txn_right_1.c hB hS (a0 := ((l0).getD (s2 : Int).toNat default))  hg1) (fun x4 => ?_)
   refine T.nil (T.then_normal ?_)
   refine T.cond rfl (fun hb2 => ?_) (fun hb2 => ?_)
   ·replace he1 := inv_posB hb2 he1
    refine T.seq (T.region (T.mv rfl rfl rfl rfl (T.asg rfl rfl rfl rfl (T.nil (T.then_normal (T.ret (T.in_ret (T.then_ret (T.then_ret ?_)))))))))
    obtain rfl := inv_some he1
    obtain rfl := hx1 _ rfl
    refine T.in_ret (T.then_ret ?_)
    obtain rfl := inv_some hr
    refine T.pick [] 1 rfl rfl nla rfl ?_
    refine T.ret1 rfl rfl (fun w hS => ⟨(), rfl, hS⟩)
   ·replace he1 := inv_negB hb2 he1
    refine T.skip (T.in_normal (T.then_normal (T.region (T.bin .list rfl w0 rfl rfl rfl rfl (T.mv rfl rfl rfl rfl (T.nil (T.then_normal ?_)))))))
    obtain rfl := inv_some he1
    exact T.le (EnvLe.cons rfl (EnvLe.cons rfl (EnvLe.cons rfl (EnvLe.cons rfl EnvLe.nil)))) (T.pick [0] 1 rfl rfl nla rfl (hm1 (IntKind.i64.wrap (s2 + 1)) rfl ()))
  ·replace he1 := inv_negB hb1 he1
   refine T.exit (T.then_exit (T.then_exit ?_))
   obtain rfl := inv_some he1
   obtain rfl := hx1 _ rfl
   refine T.in_hit (T.then_normal ?_)
   exact T.le EnvLe.nil (T.pick [] 1 rfl rfl nla rfl (J1 () () hr))

noncomputable def slices_ContainsFunc_api_Value_api_Value__txn_right_1.impl (l0 : List (Int × Int × (List UInt8))) : Option Bool :=
  (slices_IndexFunc_api_Value_api_Value__txn_right_1.impl l0).bind fun r1 => some (decide ((0 : Int) ≤ r1))
set_option maxRecDepth 100000 in
set_option maxHeartbeats 4000000 in
theorem slices_ContainsFunc_api_Value_api_Value__txn_right_1.c {B : World} {hs : List MP} {w : World} {i0 c0 : Nat} {A0 : Option Addr} {l0 : List (Int × Int × (List UInt8))} (hB : Base B) (hS : St B hs w) (h0 : (hs)[i0]? = some (Ro (Elt.pair E64 (Elt.pair E64 EStr)) A0 c0 l0)) {r : Bool} (hr : slices_ContainsFunc_api_Value_api_Value__txn_right_1.impl l0 = some r) :
    Calls Tryd.prog 94 #[.slice A0 l0.length c0, .func (.func 95) #[] #[]] w fun e w' => ∃ x : Unit, e = .returned (.bool r) ∧ St B hs w' := by
 unfold slices_ContainsFunc_api_Value_api_Value__txn_right_1.impl at hr
 refine calls_T Tryd.func94 rfl rfl rfl hS ?_
 refine T.front i0 h0 (T.seq (T.region (T.asg rfl rfl rfl rfl (T.nil (T.then_normal (T.seq (T.region (T.mv rfl rfl rfl rfl (T.mv rfl rfl rfl rfl ?_)))))))))
 obtain ⟨r1, hg1, hr⟩ := inv_bind hr
 refine T.call .list w0 rfl (run_callF (vs := [_, _]) rfl Tryd.func99 rfl (by decide) rfl) (fun w hS => slices_IndexFunc_api_Value_api_Value__txn_right_1.c hB hS (i0 := 0) rfl hg1) (fun x1 => ?_)
 refine T.bin .list rfl w0 rfl rfl rfl rfl (T.asg rfl rfl rfl rfl (T.nil (T.then_normal (T.ret ?_))))
 obtain rfl := inv_some hr
 refine T.pick [] 1 rfl rfl nla rfl ?_
 refine T.ret1 rfl rfl (fun w hS => ⟨(), rfl, hS⟩)

noncomputable def txn_right.k3 (a0 : Int × (List UInt8) × ((List UInt8) × (List ((List UInt8) × Int × Int)) × (List (Int × Bool))) × (List (Int × Int × (List UInt8))) × (Int × Int × (List UInt8)) × Int × (Int × Int × (List UInt8)) × (Int × Int × (List UInt8)) × Int) (s3 : Bool) : Option Bool :=
  (if s3 = true then (slices_ContainsFunc_api_Value_api_Value__txn_right_1.impl a0.2.2.2.1).bind fun r3 => some (!r3) else some false)
noncomputable def txn_right.k2 (a0 : Int × (List UInt8) × ((List UInt8) × (List ((List UInt8) × Int × Int)) × (List (Int × Bool))) × (List (Int × Int × (List UInt8))) × (Int × Int × (List UInt8)) × Int × (Int × Int × (List UInt8)) × (Int × Int × (List UInt8)) × Int) (s2 : Bool) : Option Bool :=
  (if ((decide (a0.1 = 6))) = true then (if s2 = true then (if ((decide ((0 : Int) ≤ a0.2.2.2.2.2.1))) = true then (if ((decide (a0.2.2.2.2.2.1 < 3))) = true then (if ((decide ((1 : Int) ≤ a0.2.2.2.2.2.2.2.2))) = true then txn_right.k3 a0 (decide (a0.2.2.2.2.2.2.2.2 ≤ 4)) else txn_right.k3 a0 false) else txn_right.k3 a0 false) else txn_right.k3 a0 false) else txn_right.k3 a0 false) else txn_right.k3 a0 s2)
noncomputable def txn_right.k1 (a0 : Int × (List UInt8) × ((List UInt8) × (List ((List UInt8) × Int × Int)) × (List (Int × Bool))) × (List (Int × Int × (List UInt8))) × (Int × Int × (List UInt8)) × Int × (Int × Int × (List UInt8)) × (Int × Int × (List UInt8)) × Int) (s1 : Bool) : Option Bool :=
  (if s1 = true then some false else (if ((decide (a0.1 = 1))) = true then (schema_Right.impl a0.2.2.1).bind fun r2 => some (decide (r2 = 0)) else (schema_Name.impl a0.2.1).bind fun r4 => (if r4 = true then (if ((decide ((((a0.2.2.2.1.length : Int))) ≤ 3))) = true then (txn_value.impl a0.2.2.2.2.1).bind fun r5 => (if r5 = true then (txn_value.impl a0.2.2.2.2.2.2.1).bind fun r6 => (if r6 = true then (txn_value.impl a0.2.2.2.2.2.2.2.1).bind fun r7 => txn_right.k2 a0 r7 else txn_right.k2 a0 false) else txn_right.k2 a0 false) else txn_right.k2 a0 false) else txn_right.k2 a0 false)))
noncomputable def txn_right.impl (a0 : Int × (List UInt8) × ((List UInt8) × (List ((List UInt8) × Int × Int)) × (List (Int × Bool))) × (List (Int × Int × (List UInt8))) × (Int × Int × (List UInt8)) × Int × (Int × Int × (List UInt8)) × (Int × Int × (List UInt8)) × Int) : Option Bool :=
  (txn_bare.impl a0).bind fun r1 => (if r1.2 = true then (txn_same.impl a0 r1.1).bind fun r8 => txn_right.k1 a0 (!r8) else txn_right.k1 a0 true)
set_option maxRecDepth 100000 in
set_option maxHeartbeats 4000000 in
theorem txn_right.c {B : World} {hs : List MP} {w : World} {a0 : Int × (List UInt8) × ((List UInt8) × (List ((List UInt8) × Int × Int)) × (List (Int × Bool))) × (List (Int × Int × (List UInt8))) × (Int × Int × (List UInt8)) × Int × (Int × Int × (List UInt8)) × (Int × Int × (List UInt8)) × Int} {i0a c0a : Nat} {A0a : Option Addr} {i0b c0b : Nat} {A0b : Option Addr} {i0c c0c : Nat} {A0c : Option Addr} (hB : Base B) (hS : St B hs w) (h0a : (hs)[i0a]? = some (Ro (Elt.pair EStr (Elt.pair E64 E64)) A0a c0a a0.2.2.1.2.1)) (h0b : (hs)[i0b]? = some (Ro (Elt.pair E64 EBool) A0b c0b a0.2.2.1.2.2)) (h0c : (hs)[i0c]? = some (Ro (Elt.pair E64 (Elt.pair E64 EStr)) A0c c0c a0.2.2.2.1)) {r : Bool} (hr : txn_right.impl a0 = some r) :
    Calls Tryd.prog 74 #[.agg #[.int .i64 a0.1, str a0.2.1, str a0.2.2.1.1, .slice A0a a0.2.2.1.2.1.length c0a, .slice A0b a0.2.2.1.2.2.length c0b, .slice A0c a0.2.2.2.1.length c0c, .int .i64 a0.2.2.2.2.1.1, .int .i64 a0.2.2.2.2.1.2.1, str a0.2.2.2.2.1.2.2, .int .i64 a0.2.2.2.2.2.1, .int .i64 a0.2.2.2.2.2.2.1.1, .int .i64 a0.2.2.2.2.2.2.1.2.1, str a0.2.2.2.2.2.2.1.2.2, .int .i64 a0.2.2.2.2.2.2.2.1.1, .int .i64 a0.2.2.2.2.2.2.2.1.2.1, str a0.2.2.2.2.2.2.2.1.2.2, .int .i64 a0.2.2.2.2.2.2.2.2]] w fun e w' => ∃ x : Unit, e = .returned (.bool r) ∧ St B hs w' := by
 unfold txn_right.impl at hr
 refine calls_T Tryd.func74 rfl rfl rfl hS ?_
 refine T.front i0a h0a (T.front (i0b + 1) h0b (T.front (i0c + 2) h0c (T.seq (T.region ?_))))
 refine T.boxS .list rfl w0 rfl rfl (cs := [.int .i64 a0.1, str a0.2.1, str a0.2.2.1.1, .slice A0a a0.2.2.1.2.1.length c0a, .slice A0b a0.2.2.1.2.2.length c0b, .slice A0c a0.2.2.2.1.length c0c, .int .i64 a0.2.2.2.2.1.1, .int .i64 a0.2.2.2.2.1.2.1, str a0.2.2.2.2.1.2.2, .int .i64 a0.2.2.2.2.2.1, .int .i64 a0.2.2.2.2.2.2.1.1, .int .i64 a0.2.2.2.2.2.2.1.2.1, str a0.2.2.2.2.2.2.1.2.2, .int .i64 a0.2.2.2.2.2.2.2.1.1, .int .i64 a0.2.2.2.2.2.2.2.1.2.1, str a0.2.2.2.2.2.2.2.1.2.2, .int .i64 a0.2.2.2.2.2.2.2.2]) rfl (fun b1 => ?_)
 refine T.asg rfl rfl rfl rfl (T.nil (T.then_normal (T.seq (T.region (T.loadN .list 0 rfl rfl w0 rfl rfl (vs := [.int .i64 a0.1, str a0.2.1, str a0.2.2.1.1, .slice A0a a0.2.2.1.2.1.length c0a, .slice A0b a0.2.2.1.2.2.length c0b, .slice A0c a0.2.2.2.1.length c0c, .int .i64 a0.2.2.2.2.1.1, .int .i64 a0.2.2.2.2.1.2.1, str a0.2.2.2.2.1.2.2, .int .i64 a0.2.2.2.2.2.1, .int .i64 a0.2.2.2.2.2.2.1.1, .int .i64 a0.2.2.2.2.2.2.1.2.1, str a0.2.2.2.2.2.2.1.2.2, .int .i64 a0.2.2.2.2.2.2.2.1.1, .int .i64 a0.2.2.2.2.2.2.2.1.2.1, str a0.2.2.2.2.2.2.2.1.2.2, .int .i64 a0.2.2.2.2.2.2.2.2]) rfl rfl ?_)))))
 obtain ⟨r1, hg1, hr⟩ := inv_bind hr
 refine T.call .list w0 rfl (run_callF (vs := [_]) rfl Tryd.func91 rfl (by decide) rfl) (fun w hS => txn_bare.c hB hS (i0a := 3) (i0b := 2) (i0c := 1) (a0 := a0) rfl rfl rfl hg1) (fun x1 => ?_)
 refine T.mv rfl rfl rfl rfl (T.extract .list rfl w0 rfl rfl rfl (T.extract .list rfl w0 rfl rfl rfl ?_))
 refine T.allocS .list rfl w0 rfl (cs := [.int .i64 0, str (([] : List UInt8)), str (([] : List UInt8)), .slice none 0 0, .slice none 0 0, .slice none 0 0, .int .i64 0, .int .i64 0, str (([] : List UInt8)), .int .i64 0, .int .i64 0, .int .i64 0, str (([] : List UInt8)), .int .i64 0, .int .i64 0, str (([] : List UInt8)), .int .i64 0]) rfl (fun b2 => ?_)
 refine T.store .list 0 rfl rfl w0 rfl rfl rfl rfl (Nat.le_of_ble_eq_true rfl) rfl (cs' := [.int .i64 r1.1.1, str r1.1.2.1, str r1.1.2.2.1.1, .slice x1.1.1 r1.1.2.2.1.2.1.length x1.1.2, .slice x1.2.1.1 r1.1.2.2.1.2.2.length x1.2.1.2, .slice x1.2.2.1 r1.1.2.2.2.1.length x1.2.2.2, .int .i64 r1.1.2.2.2.2.1.1, .int .i64 r1.1.2.2.2.2.1.2.1, str r1.1.2.2.2.2.1.2.2, .int .i64 r1.1.2.2.2.2.2.1, .int .i64 r1.1.2.2.2.2.2.2.1.1, .int .i64 r1.1.2.2.2.2.2.2.1.2.1, str r1.1.2.2.2.2.2.2.1.2.2, .int .i64 r1.1.2.2.2.2.2.2.2.1.1, .int .i64 r1.1.2.2.2.2.2.2.2.1.2.1, str r1.1.2.2.2.2.2.2.2.1.2.2, .int .i64 r1.1.2.2.2.2.2.2.2.2]) rfl rfl (T.asg rfl rfl rfl rfl (T.nil (T.then_normal (T.seq ?_))))
 refine T.seqJ (fun (s1 : Bool) (x2 : Unit) => [(1, .pointer (some ⟨b1, 0, none⟩)), (18, .bool s1)]) (fun s1 x2 => Cl b1 66 [.int .i64 a0.1, str a0.2.1, str a0.2.2.1.1, .slice A0a a0.2.2.1.2.1.length c0a, .slice A0b a0.2.2.1.2.2.length c0b, .slice A0c a0.2.2.2.1.length c0c, .int .i64 a0.2.2.2.2.1.1, .int .i64 a0.2.2.2.2.1.2.1, str a0.2.2.2.2.1.2.2, .int .i64 a0.2.2.2.2.2.1, .int .i64 a0.2.2.2.2.2.2.1.1, .int .i64 a0.2.2.2.2.2.2.1.2.1, str a0.2.2.2.2.2.2.1.2.2, .int .i64 a0.2.2.2.2.2.2.2.1.1, .int .i64 a0.2.2.2.2.2.2.2.1.2.1, str a0.2.2.2.2.2.2.2.1.2.2, .int .i64 a0.2.2.2.2.2.2.2.2] :: Ro (Elt.pair EStr (Elt.pair E64 E64)) A0a c0a a0.2.2.1.2.1 :: Ro (Elt.pair E64 EBool) A0b c0b a0.2.2.1.2.2 :: Ro (Elt.pair E64 (Elt.pair E64 EStr)) A0c c0c a0.2.2.2.1 :: hs) (fun s1 => txn_right.k1 a0 s1 = some r) (fun s1 x2 hk1 => ?_) (fun J1 => ?_)
 ·unfold txn_right.k1 at hk1
  refine T.cond rfl (fun hb1 => ?_) (fun hb1 => ?_)
  ·replace hk1 := inv_posB hb1 hk1
   refine T.seq (T.region (T.asg rfl rfl rfl rfl (T.nil (T.then_normal (T.ret (T.then_ret ?_))))))
   obtain rfl := inv_some hk1
   refine T.pick [] 4 rfl rfl nla rfl ?_
   refine T.ret1 rfl rfl (fun w hS => ⟨(), rfl, hS⟩)
  ·replace hk1 := inv_negB hb1 hk1
   refine T.skip (T.then_normal (T.seq (T.seq (T.region (T.field .list rfl w0 rfl rfl (T.load .list 0 rfl rfl w0 rfl rfl rfl (T.bin .list rfl w0 rfl rfl rfl rfl (T.nil (T.then_normal ?_)))))))))
   refine T.cond rfl (fun hb2 => ?_) (fun hb2 => ?_)
   ·replace hk1 := inv_posB hb2 hk1
    refine T.seq (T.region (T.field .list rfl w0 rfl rfl (T.loadN .list 0 rfl rfl w0 rfl rfl (vs := [str a0.2.2.1.1, .slice A0a a0.2.2.1.2.1.length c0a, .slice A0b a0.2.2.1.2.2.length c0b]) rfl rfl ?_)))
    obtain ⟨r2, hg2, hk1⟩ := inv_bind hk1
    refine T.call .list w0 rfl (run_callF (vs := [_]) rfl Tryd.func71 rfl (by decide) rfl) (fun w hS => schema_Right.c hB hS (i0a := 1) (i0b := 2) (a0 := a0.2.2.1) rfl rfl hg2) (fun x3 => ?_)
    refine T.bin .list rfl w0 rfl rfl rfl rfl (T.asg rfl rfl rfl rfl (T.nil (T.then_normal (T.ret (T.then_ret ?_)))))
    obtain rfl := inv_some hk1
    refine T.pick [] 4 rfl rfl nla rfl ?_
    refine T.ret1 rfl rfl (fun w hS => ⟨(), rfl, hS⟩)
   ·replace hk1 := inv_negB hb2 hk1
    refine T.skip (T.then_normal ?_)
    refine T.seqJ (fun (s2 : Bool) (x4 : Unit) => [(1, .pointer (some ⟨b1, 0, none⟩)), (5, .bool s2)]) (fun s2 x4 => Cl b1 66 [.int .i64 a0.1, str a0.2.1, str a0.2.2.1.1, .slice A0a a0.2.2.1.2.1.length c0a, .slice A0b a0.2.2.1.2.2.length c0b, .slice A0c a0.2.2.2.1.length c0c, .int .i64 a0.2.2.2.2.1.1, .int .i64 a0.2.2.2.2.1.2.1, str a0.2.2.2.2.1.2.2, .int .i64 a0.2.2.2.2.2.1, .int .i64 a0.2.2.2.2.2.2.1.1, .int .i64 a0.2.2.2.2.2.2.1.2.1, str a0.2.2.2.2.2.2.1.2.2, .int .i64 a0.2.2.2.2.2.2.2.1.1, .int .i64 a0.2.2.2.2.2.2.2.1.2.1, str a0.2.2.2.2.2.2.2.1.2.2, .int .i64 a0.2.2.2.2.2.2.2.2] :: Ro (Elt.pair EStr (Elt.pair E64 E64)) A0a c0a a0.2.2.1.2.1 :: Ro (Elt.pair E64 EBool) A0b c0b a0.2.2.1.2.2 :: Ro (Elt.pair E64 (Elt.pair E64 EStr)) A0c c0c a0.2.2.2.1 :: hs) (fun s2 => txn_right.k2 a0 s2 = some r) (fun s2 x4 hk2 => ?_) (fun J2 => ?_)
    ·unfold txn_right.k2 at hk2
     refine T.seqJ (fun (s3 : Bool) (x5 : Unit) => [(1, .pointer (some ⟨b1, 0, none⟩)), (5, .bool s3)]) (fun s3 x5 => Cl b1 66 [.int .i64 a0.1, str a0.2.1, str a0.2.2.1.1, .slice A0a a0.2.2.1.2.1.length c0a, .slice A0b a0.2.2.1.2.2.length c0b, .slice A0c a0.2.2.2.1.length c0c, .int .i64 a0.2.2.2.2.1.1, .int .i64 a0.2.2.2.2.1.2.1, str a0.2.2.2.2.1.2.2, .int .i64 a0.2.2.2.2.2.1, .int .i64 a0.2.2.2.2.2.2.1.1, .int .i64 a0.2.2.2.2.2.2.1.2.1, str a0.2.2.2.2.2.2.1.2.2, .int .i64 a0.2.2.2.2.2.2.2.1.1, .int .i64 a0.2.2.2.2.2.2.2.1.2.1, str a0.2.2.2.2.2.2.2.1.2.2, .int .i64 a0.2.2.2.2.2.2.2.2] :: Ro (Elt.pair EStr (Elt.pair E64 E64)) A0a c0a a0.2.2.1.2.1 :: Ro (Elt.pair E64 EBool) A0b c0b a0.2.2.1.2.2 :: Ro (Elt.pair E64 (Elt.pair E64 EStr)) A0c c0c a0.2.2.2.1 :: hs) (fun s3 => txn_right.k3 a0 s3 = some r) (fun s3 x5 hk3 => ?_) (fun J3 => ?_)
     ·unfold txn_right.k3 at hk3
      refine T.seq (T.region (T.mv rfl rfl rfl rfl (T.mv rfl rfl rfl rfl ?_)))
      refine T.bool (b := s3) (fun hb3 => ?_) (fun hb3 => ?_)
      ·replace hk3 := inv_posB hb3 hk3
       refine T.field .list rfl (wants1 rfl rfl rfl hb3) rfl rfl (T.load .list 0 rfl rfl (wants1 rfl rfl rfl hb3) rfl rfl rfl ?_)
       obtain ⟨r3, hg3, hk3⟩ := inv_bind hk3
       refine T.call .list (wants1 rfl rfl rfl hb3) rfl (run_callF (vs := [_, _]) rfl Tryd.func94 rfl (by decide) rfl) (fun w hS => slices_ContainsFunc_api_Value_api_Value__txn_right_1.c hB hS (i0 := 3) rfl hg3) (fun x6 => ?_)
       refine T.not .list rfl (wants1 rfl rfl rfl hb3) rfl rfl (T.pickT .list rfl w0 rfl rfl hb3 rfl (T.asg rfl rfl rfl rfl (T.nil (T.then_normal (T.ret ?_)))))
       obtain rfl := inv_some hk3
       refine T.pick [] 4 rfl rfl nla rfl ?_
       refine T.ret1 rfl rfl (fun w hS => ⟨(), rfl, hS⟩)
      ·replace hk3 := inv_negB hb3 hk3
       refine T.lv rfl rfl rfl hb3 rfl (T.lv rfl rfl rfl hb3 rfl (T.lv rfl rfl rfl hb3 rfl (T.lv rfl rfl rfl hb3 rfl (T.pickF .list rfl w0 rfl rfl hb3 rfl (T.asg rfl rfl rfl rfl (T.nil (T.then_normal (T.ret ?_))))))))
       obtain rfl := inv_some hk3
       refine T.pick [] 4 rfl rfl nla rfl ?_
       refine T.ret1 rfl rfl (fun w hS => ⟨(), rfl, hS⟩)
     ·refine T.seq (T.region (T.field .list rfl w0 rfl rfl (T.load .list 0 rfl rfl w0 rfl rfl rfl (T.bin .list rfl w0 rfl rfl rfl rfl (T.nil (T.then_normal ?_))))))
      refine T.cond rfl (fun hb4 => ?_) (fun hb4 => ?_)
      ·replace hk2 := inv_posB hb4 hk2
       refine T.region (T.mv rfl rfl rfl rfl (T.mv rfl rfl rfl rfl ?_))
       refine T.bool (b := s2) (fun hb5 => ?_) (fun hb5 => ?_)
       ·replace hk2 := inv_posB hb5 hk2
        refine T.field .list rfl (wants1 rfl rfl rfl hb5) rfl rfl (T.load .list 0 rfl rfl (wants1 rfl rfl rfl hb5) rfl rfl rfl (T.bin .list rfl (wants1 rfl rfl rfl hb5) rfl rfl rfl rfl (T.pickT .list rfl w0 rfl rfl hb5 rfl (T.mv rfl rfl rfl rfl ?_))))
        refine T.bool (b := (decide ((0 : Int) ≤ a0.2.2.2.2.2.1))) (fun hb6 => ?_) (fun hb6 => ?_)
        ·replace hk2 := inv_posB hb6 hk2
         refine T.field .list rfl (wants1 rfl rfl rfl hb6) rfl rfl (T.load .list 0 rfl rfl (wants1 rfl rfl rfl hb6) rfl rfl rfl (T.bin .list rfl (wants1 rfl rfl rfl hb6) rfl rfl rfl rfl (T.pickT .list rfl w0 rfl rfl hb6 rfl (T.mv rfl rfl rfl rfl ?_))))
         refine T.bool (b := (decide (a0.2.2.2.2.2.1 < 3))) (fun hb7 => ?_) (fun hb7 => ?_)
         ·replace hk2 := inv_posB hb7 hk2
          refine T.field .list rfl (wants1 rfl rfl rfl hb7) rfl rfl (T.load .list 0 rfl rfl (wants1 rfl rfl rfl hb7) rfl rfl rfl (T.bin .list rfl (wants1 rfl rfl rfl hb7) rfl rfl rfl rfl (T.pickT .list rfl w0 rfl rfl hb7 rfl (T.mv rfl rfl rfl rfl ?_))))
          refine T.bool (b := (decide ((1 : Int) ≤ a0.2.2.2.2.2.2.2.2))) (fun hb8 => ?_) (fun hb8 => ?_)
          ·replace hk2 := inv_posB hb8 hk2
           refine T.field .list rfl (wants1 rfl rfl rfl hb8) rfl rfl (T.load .list 0 rfl rfl (wants1 rfl rfl rfl hb8) rfl rfl rfl (T.bin .list rfl (wants1 rfl rfl rfl hb8) rfl rfl rfl rfl (T.pickT .list rfl w0 rfl rfl hb8 rfl (T.asg rfl rfl rfl rfl (T.nil (T.then_normal ?_))))))
           exact T.le (EnvLe.cons rfl (EnvLe.cons rfl EnvLe.nil)) (T.pick [0, 1, 2, 3] 4 rfl rfl nla rfl (J3 (decide (a0.2.2.2.2.2.2.2.2 ≤ 4)) () hk2))
          ·replace hk2 := inv_negB hb8 hk2
           refine T.lv rfl rfl rfl hb8 rfl (T.lv rfl rfl rfl hb8 rfl (T.lv rfl rfl rfl hb8 rfl (T.pickF .list rfl w0 rfl rfl hb8 rfl (T.asg rfl rfl rfl rfl (T.nil (T.then_normal ?_))))))
           exact T.le (EnvLe.cons rfl (EnvLe.cons rfl EnvLe.nil)) (T.pick [0, 1, 2, 3] 4 rfl rfl nla rfl (J3 false () hk2))
         ·replace hk2 := inv_negB hb7 hk2
          refine T.lv rfl rfl rfl hb7 rfl (T.lv rfl rfl rfl hb7 rfl (T.lv rfl rfl rfl hb7 rfl (T.pickF .list rfl w0 rfl rfl hb7 rfl (T.mv rfl rfl rfl rfl (T.lv rfl rfl rfl rfl rfl (T.lv rfl rfl rfl rfl rfl (T.lv rfl rfl rfl rfl rfl (T.pickF .list rfl w0 rfl rfl rfl rfl (T.asg rfl rfl rfl rfl (T.nil (T.then_normal ?_)))))))))))
          exact T.le (EnvLe.cons rfl (EnvLe.cons rfl EnvLe.nil)) (T.pick [0, 1, 2, 3] 4 rfl rfl nla rfl (J3 false () hk2))
        ·replace hk2 := inv_negB hb6 hk2
         refine T.lv rfl rfl rfl hb6 rfl (T.lv rfl rfl rfl hb6 rfl (T.lv rfl rfl rfl hb6 rfl (T.pickF .list rfl w0 rfl rfl hb6 rfl (T.mv rfl rfl rfl rfl (T.lv rfl rfl rfl rfl rfl (T.lv rfl rfl rfl rfl rfl (T.lv rfl rfl rfl rfl rfl (T.pickF .list rfl w0 rfl rfl rfl rfl (T.mv rfl rfl rfl rfl (T.lv rfl rfl rfl rfl rfl (T.lv rfl rfl rfl rfl rfl ?_)))))))))))
         refine T.lv rfl rfl rfl rfl rfl (T.pickF .list rfl w0 rfl rfl rfl rfl (T.asg rfl rfl rfl rfl (T.nil (T.then_normal ?_))))
         exact T.le (EnvLe.cons rfl (EnvLe.cons rfl EnvLe.nil)) (T.pick [0, 1, 2, 3] 4 rfl rfl nla rfl (J3 false () hk2))
       ·replace hk2 := inv_negB hb5 hk2
        refine T.lv rfl rfl rfl hb5 rfl (T.lv rfl rfl rfl hb5 rfl (T.lv rfl rfl rfl hb5 rfl (T.pickF .list rfl w0 rfl rfl hb5 rfl (T.mv rfl rfl rfl rfl (T.lv rfl rfl rfl rfl rfl (T.lv rfl rfl rfl rfl rfl (T.lv rfl rfl rfl rfl rfl (T.pickF .list rfl w0 rfl rfl rfl rfl (T.mv rfl rfl rfl rfl (T.lv rfl rfl rfl rfl rfl (T.lv rfl rfl rfl rfl rfl ?_)))))))))))
        refine T.lv rfl rfl rfl rfl rfl (T.pickF .list rfl w0 rfl rfl rfl rfl (T.mv rfl rfl rfl rfl (T.lv rfl rfl rfl rfl rfl (T.lv rfl rfl rfl rfl rfl (T.lv rfl rfl rfl rfl rfl (T.pickF .list rfl w0 rfl rfl rfl rfl (T.asg rfl rfl rfl rfl (T.nil (T.then_normal ?_)))))))))
        exact T.le (EnvLe.cons rfl (EnvLe.cons rfl EnvLe.nil)) (T.pick [0, 1, 2, 3] 4 rfl rfl nla rfl (J3 false () hk2))
      ·replace hk2 := inv_negB hb4 hk2
       refine T.skip (T.then_normal ?_)
       exact T.le (EnvLe.cons rfl (EnvLe.cons rfl EnvLe.nil)) (T.pick [0, 1, 2, 3] 4 rfl rfl nla rfl (J3 s2 () hk2))
    ·refine T.region (T.field .list rfl w0 rfl rfl (T.load .list 0 rfl rfl w0 rfl rfl rfl ?_))
     obtain ⟨r4, hg4, hk1⟩ := inv_bind hk1
     refine T.call .list w0 rfl (run_callF (vs := [_]) rfl Tryd.func84 rfl (by decide) rfl) (fun w hS => schema_Name.c hB hS  hg4) (fun x7 => ?_)
     refine T.mv rfl rfl rfl rfl ?_
     refine T.bool (b := r4) (fun hb9 => ?_) (fun hb9 => ?_)
     ·replace hk1 := inv_posB hb9 hk1
      refine T.field .list rfl (wants1 rfl rfl rfl hb9) rfl rfl (T.load .list 0 rfl rfl (wants1 rfl rfl rfl hb9) rfl rfl rfl (T.lenSlice .list rfl (wants1 rfl rfl rfl hb9) rfl rfl (T.bin .list rfl (wants1 rfl rfl rfl hb9) rfl rfl rfl rfl (T.pickT .list rfl w0 rfl rfl hb9 rfl (T.mv rfl rfl rfl rfl ?_)))))
      refine T.bool (b := (decide ((((a0.2.2.2.1.length : Int))) ≤ 3))) (fun hb10 => ?_) (fun hb10 => ?_)
      ·replace hk1 := inv_posB hb10 hk1
       refine T.field .list rfl (wants1 rfl rfl rfl hb10) rfl rfl (T.loadN .list 0 rfl rfl (wants1 rfl rfl rfl hb10) rfl rfl (vs := [.int .i64 a0.2.2.2.2.1.1, .int .i64 a0.2.2.2.2.1.2.1, str a0.2.2.2.2.1.2.2]) rfl rfl ?_)
       obtain ⟨r5, hg5, hk1⟩ := inv_bind hk1
       refine T.call .list (wants1 rfl rfl rfl hb10) rfl (run_callF (vs := [_]) rfl Tryd.func93 rfl (by decide) rfl) (fun w hS => txn_value.c hB hS (a0 := a0.2.2.2.2.1)  hg5) (fun x8 => ?_)
       refine T.pickT .list rfl w0 rfl rfl hb10 rfl (T.mv rfl rfl rfl rfl ?_)
       refine T.bool (b := r5) (fun hb11 => ?_) (fun hb11 => ?_)
       ·replace hk1 := inv_posB hb11 hk1
        refine T.field .list rfl (wants1 rfl rfl rfl hb11) rfl rfl (T.loadN .list 0 rfl rfl (wants1 rfl rfl rfl hb11) rfl rfl (vs := [.int .i64 a0.2.2.2.2.2.2.1.1, .int .i64 a0.2.2.2.2.2.2.1.2.1, str a0.2.2.2.2.2.2.1.2.2]) rfl rfl ?_)
        obtain ⟨r6, hg6, hk1⟩ := inv_bind hk1
        refine T.call .list (wants1 rfl rfl rfl hb11) rfl (run_callF (vs := [_]) rfl Tryd.func93 rfl (by decide) rfl) (fun w hS => txn_value.c hB hS (a0 := a0.2.2.2.2.2.2.1)  hg6) (fun x9 => ?_)
        refine T.pickT .list rfl w0 rfl rfl hb11 rfl (T.mv rfl rfl rfl rfl ?_)
        refine T.bool (b := r6) (fun hb12 => ?_) (fun hb12 => ?_)
        ·replace hk1 := inv_posB hb12 hk1
         refine T.field .list rfl (wants1 rfl rfl rfl hb12) rfl rfl (T.loadN .list 0 rfl rfl (wants1 rfl rfl rfl hb12) rfl rfl (vs := [.int .i64 a0.2.2.2.2.2.2.2.1.1, .int .i64 a0.2.2.2.2.2.2.2.1.2.1, str a0.2.2.2.2.2.2.2.1.2.2]) rfl rfl ?_)
         obtain ⟨r7, hg7, hk1⟩ := inv_bind hk1
         refine T.call .list (wants1 rfl rfl rfl hb12) rfl (run_callF (vs := [_]) rfl Tryd.func93 rfl (by decide) rfl) (fun w hS => txn_value.c hB hS (a0 := a0.2.2.2.2.2.2.2.1)  hg7) (fun x10 => ?_)
         refine T.pickT .list rfl w0 rfl rfl hb12 rfl (T.asg rfl rfl rfl rfl (T.nil (T.then_normal ?_)))
         exact T.le (EnvLe.cons rfl (EnvLe.cons rfl EnvLe.nil)) (T.pick [0, 1, 2, 3] 4 rfl rfl nla rfl (J2 r7 () hk1))
        ·replace hk1 := inv_negB hb12 hk1
         refine T.lv rfl rfl rfl hb12 rfl (T.lv rfl rfl rfl hb12 rfl (T.lv rfl rfl rfl hb12 rfl (T.pickF .list rfl w0 rfl rfl hb12 rfl (T.asg rfl rfl rfl rfl (T.nil (T.then_normal ?_))))))
         exact T.le (EnvLe.cons rfl (EnvLe.cons rfl EnvLe.nil)) (T.pick [0, 1, 2, 3] 4 rfl rfl nla rfl (J2 false () hk1))
       ·replace hk1 := inv_negB hb11 hk1
        refine T.lv rfl rfl rfl hb11 rfl (T.lv rfl rfl rfl hb11 rfl (T.lv rfl rfl rfl hb11 rfl (T.pickF .list rfl w0 rfl rfl hb11 rfl (T.mv rfl rfl rfl rfl (T.lv rfl rfl rfl rfl rfl (T.lv rfl rfl rfl rfl rfl (T.lv rfl rfl rfl rfl rfl (T.pickF .list rfl w0 rfl rfl rfl rfl (T.asg rfl rfl rfl rfl (T.nil (T.then_normal ?_)))))))))))
        exact T.le (EnvLe.cons rfl (EnvLe.cons rfl EnvLe.nil)) (T.pick [0, 1, 2, 3] 4 rfl rfl nla rfl (J2 false () hk1))
      ·replace hk1 := inv_negB hb10 hk1
       refine T.lv rfl rfl rfl hb10 rfl (T.lv rfl rfl rfl hb10 rfl (T.lv rfl rfl rfl hb10 rfl (T.pickF .list rfl w0 rfl rfl hb10 rfl (T.mv rfl rfl rfl rfl (T.lv rfl rfl rfl rfl rfl (T.lv rfl rfl rfl rfl rfl (T.lv rfl rfl rfl rfl rfl (T.pickF .list rfl w0 rfl rfl rfl rfl (T.mv rfl rfl rfl rfl (T.lv rfl rfl rfl rfl rfl (T.lv rfl rfl rfl rfl rfl ?_)))))))))))
       refine T.lv rfl rfl rfl rfl rfl (T.pickF .list rfl w0 rfl rfl rfl rfl (T.asg rfl rfl rfl rfl (T.nil (T.then_normal ?_))))
       exact T.le (EnvLe.cons rfl (EnvLe.cons rfl EnvLe.nil)) (T.pick [0, 1, 2, 3] 4 rfl rfl nla rfl (J2 false () hk1))
     ·replace hk1 := inv_negB hb9 hk1
      refine T.lv rfl rfl rfl hb9 rfl (T.lv rfl rfl rfl hb9 rfl (T.lv rfl rfl rfl hb9 rfl (T.lv rfl rfl rfl hb9 rfl (T.pickF .list rfl w0 rfl rfl hb9 rfl (T.mv rfl rfl rfl rfl (T.lv rfl rfl rfl rfl rfl (T.lv rfl rfl rfl rfl rfl (T.lv rfl rfl rfl rfl rfl (T.pickF .list rfl w0 rfl rfl rfl rfl (T.mv rfl rfl rfl rfl (T.lv rfl rfl rfl rfl rfl ?_)))))))))))
      refine T.lv rfl rfl rfl rfl rfl (T.lv rfl rfl rfl rfl rfl (T.pickF .list rfl w0 rfl rfl rfl rfl (T.mv rfl rfl rfl rfl (T.lv rfl rfl rfl rfl rfl (T.lv rfl rfl rfl rfl rfl (T.lv rfl rfl rfl rfl rfl (T.pickF .list rfl w0 rfl rfl rfl rfl (T.asg rfl rfl rfl rfl (T.nil (T.then_normal ?_))))))))))
      exact T.le (EnvLe.cons rfl (EnvLe.cons rfl EnvLe.nil)) (T.pick [0, 1, 2, 3] 4 rfl rfl nla rfl (J2 false () hk1))
 ·refine T.region (T.mv rfl rfl rfl rfl (T.not .list rfl w0 rfl rfl (T.mv rfl rfl rfl rfl ?_)))
  refine T.bool (b := r1.2) (fun hb13 => ?_) (fun hb13 => ?_)
  ·replace hr := inv_posB hb13 hr
   refine T.loadN .list 4 rfl rfl (wants1 rfl rfl rfl (not_t hb13)) rfl rfl (vs := [.int .i64 a0.1, str a0.2.1, str a0.2.2.1.1, .slice A0a a0.2.2.1.2.1.length c0a, .slice A0b a0.2.2.1.2.2.length c0b, .slice A0c a0.2.2.2.1.length c0c, .int .i64 a0.2.2.2.2.1.1, .int .i64 a0.2.2.2.2.1.2.1, str a0.2.2.2.2.1.2.2, .int .i64 a0.2.2.2.2.2.1, .int .i64 a0.2.2.2.2.2.2.1.1, .int .i64 a0.2.2.2.2.2.2.1.2.1, str a0.2.2.2.2.2.2.1.2.2, .int .i64 a0.2.2.2.2.2.2.2.1.1, .int .i64 a0.2.2.2.2.2.2.2.1.2.1, str a0.2.2.2.2.2.2.2.1.2.2, .int .i64 a0.2.2.2.2.2.2.2.2]) rfl rfl (T.loadN .list 0 rfl rfl (wants1 rfl rfl rfl (not_t hb13)) rfl rfl (vs := [.int .i64 r1.1.1, str r1.1.2.1, str r1.1.2.2.1.1, .slice x1.1.1 r1.1.2.2.1.2.1.length x1.1.2, .slice x1.2.1.1 r1.1.2.2.1.2.2.length x1.2.1.2, .slice x1.2.2.1 r1.1.2.2.2.1.length x1.2.2.2, .int .i64 r1.1.2.2.2.2.1.1, .int .i64 r1.1.2.2.2.2.1.2.1, str r1.1.2.2.2.2.1.2.2, .int .i64 r1.1.2.2.2.2.2.1, .int .i64 r1.1.2.2.2.2.2.2.1.1, .int .i64 r1.1.2.2.2.2.2.2.1.2.1, str r1.1.2.2.2.2.2.2.1.2.2, .int .i64 r1.1.2.2.2.2.2.2.2.1.1, .int .i64 r1.1.2.2.2.2.2.2.2.1.2.1, str r1.1.2.2.2.2.2.2.2.1.2.2, .int .i64 r1.1.2.2.2.2.2.2.2.2]) rfl rfl ?_)
   obtain ⟨r8, hg8, hr⟩ := inv_bind hr
   refine T.call .list (wants1 rfl rfl rfl (not_t hb13)) rfl (run_callF (vs := [_, _]) rfl Tryd.func92 rfl (by decide) rfl) (fun w hS => txn_same.c hB hS (i0a := 7) (i0b := 6) (i0c := 5) (i1a := 1) (i1b := 2) (i1c := 3) (a0 := a0) (a1 := r1.1) rfl rfl rfl rfl rfl rfl hg8) (fun x11 => ?_)
   refine T.not .list rfl (wants1 rfl rfl rfl (not_t hb13)) rfl rfl (T.pickF .list rfl w0 rfl rfl (not_t hb13) rfl (T.nil (T.then_normal ?_)))
   exact T.le (EnvLe.cons rfl (EnvLe.cons rfl EnvLe.nil)) (T.pick [4, 7, 6, 5] 8 rfl rfl nla rfl (J1 (!r8) () hr))
  ·replace hr := inv_negB hb13 hr
   refine T.leave .list (wantsNot rfl rfl rfl (not_f hb13)) rfl (T.leave .list (wantsNot rfl rfl rfl (not_f hb13)) rfl (T.leave .list (wantsNot rfl rfl rfl (not_f hb13)) rfl (T.leave .list (wantsNot rfl rfl rfl (not_f hb13)) rfl (T.pickT .list rfl w0 rfl rfl (not_f hb13) rfl (T.nil (T.then_normal ?_))))))
   exact T.le (EnvLe.cons rfl (EnvLe.cons rfl EnvLe.nil)) (T.pick [4, 7, 6, 5] 8 rfl rfl nla rfl (J1 true () hr))

noncomputable def txn_Right_1.impl (a0 : Int × (List UInt8) × ((List UInt8) × (List ((List UInt8) × Int × Int)) × (List (Int × Bool))) × (List (Int × Int × (List UInt8))) × (Int × Int × (List UInt8)) × Int × (Int × Int × (List UInt8)) × (Int × Int × (List UInt8)) × Int) : Option Bool :=
  (txn_right.impl a0).bind fun r1 => some (!r1)
set_option maxRecDepth 100000 in
set_option maxHeartbeats 4000000 in
theorem txn_Right_1.c {B : World} {hs : List MP} {w : World} {a0 : Int × (List UInt8) × ((List UInt8) × (List ((List UInt8) × Int × Int)) × (List (Int × Bool))) × (List (Int × Int × (List UInt8))) × (Int × Int × (List UInt8)) × Int × (Int × Int × (List UInt8)) × (Int × Int × (List UInt8)) × Int} {i0a c0a : Nat} {A0a : Option Addr} {i0b c0b : Nat} {A0b : Option Addr} {i0c c0c : Nat} {A0c : Option Addr} (hB : Base B) (hS : St B hs w) (h0a : (hs)[i0a]? = some (Ro (Elt.pair EStr (Elt.pair E64 E64)) A0a c0a a0.2.2.1.2.1)) (h0b : (hs)[i0b]? = some (Ro (Elt.pair E64 EBool) A0b c0b a0.2.2.1.2.2)) (h0c : (hs)[i0c]? = some (Ro (Elt.pair E64 (Elt.pair E64 EStr)) A0c c0c a0.2.2.2.1)) {r : Bool} (hr : txn_Right_1.impl a0 = some r) :
    Calls Tryd.prog 73 #[.agg #[.int .i64 a0.1, str a0.2.1, str a0.2.2.1.1, .slice A0a a0.2.2.1.2.1.length c0a, .slice A0b a0.2.2.1.2.2.length c0b, .slice A0c a0.2.2.2.1.length c0c, .int .i64 a0.2.2.2.2.1.1, .int .i64 a0.2.2.2.2.1.2.1, str a0.2.2.2.2.1.2.2, .int .i64 a0.2.2.2.2.2.1, .int .i64 a0.2.2.2.2.2.2.1.1, .int .i64 a0.2.2.2.2.2.2.1.2.1, str a0.2.2.2.2.2.2.1.2.2, .int .i64 a0.2.2.2.2.2.2.2.1.1, .int .i64 a0.2.2.2.2.2.2.2.1.2.1, str a0.2.2.2.2.2.2.2.1.2.2, .int .i64 a0.2.2.2.2.2.2.2.2]] w fun e w' => ∃ x : Unit, e = .returned (.bool r) ∧ St B hs w' := by
 unfold txn_Right_1.impl at hr
 refine calls_T Tryd.func73 rfl rfl rfl hS ?_
 refine T.front i0a h0a (T.front (i0b + 1) h0b (T.front (i0c + 2) h0c (T.seq (T.region ?_))))
 refine T.boxS .list rfl w0 rfl rfl (cs := [.int .i64 a0.1, str a0.2.1, str a0.2.2.1.1, .slice A0a a0.2.2.1.2.1.length c0a, .slice A0b a0.2.2.1.2.2.length c0b, .slice A0c a0.2.2.2.1.length c0c, .int .i64 a0.2.2.2.2.1.1, .int .i64 a0.2.2.2.2.1.2.1, str a0.2.2.2.2.1.2.2, .int .i64 a0.2.2.2.2.2.1, .int .i64 a0.2.2.2.2.2.2.1.1, .int .i64 a0.2.2.2.2.2.2.1.2.1, str a0.2.2.2.2.2.2.1.2.2, .int .i64 a0.2.2.2.2.2.2.2.1.1, .int .i64 a0.2.2.2.2.2.2.2.1.2.1, str a0.2.2.2.2.2.2.2.1.2.2, .int .i64 a0.2.2.2.2.2.2.2.2]) rfl (fun b1 => ?_)
 refine T.asg rfl rfl rfl rfl (T.nil (T.then_normal (T.seq (T.region (T.loadN .list 0 rfl rfl w0 rfl rfl (vs := [.int .i64 a0.1, str a0.2.1, str a0.2.2.1.1, .slice A0a a0.2.2.1.2.1.length c0a, .slice A0b a0.2.2.1.2.2.length c0b, .slice A0c a0.2.2.2.1.length c0c, .int .i64 a0.2.2.2.2.1.1, .int .i64 a0.2.2.2.2.1.2.1, str a0.2.2.2.2.1.2.2, .int .i64 a0.2.2.2.2.2.1, .int .i64 a0.2.2.2.2.2.2.1.1, .int .i64 a0.2.2.2.2.2.2.1.2.1, str a0.2.2.2.2.2.2.1.2.2, .int .i64 a0.2.2.2.2.2.2.2.1.1, .int .i64 a0.2.2.2.2.2.2.2.1.2.1, str a0.2.2.2.2.2.2.2.1.2.2, .int .i64 a0.2.2.2.2.2.2.2.2]) rfl rfl ?_)))))
 obtain ⟨r1, hg1, hr⟩ := inv_bind hr
 refine T.call .list w0 rfl (run_callF (vs := [_]) rfl Tryd.func74 rfl (by decide) rfl) (fun w hS => txn_right.c hB hS (i0a := 3) (i0b := 2) (i0c := 1) (a0 := a0) rfl rfl rfl hg1) (fun x1 => ?_)
 refine T.not .list rfl w0 rfl rfl (T.asg rfl rfl rfl rfl (T.nil (T.then_normal (T.ret ?_))))
 obtain rfl := inv_some hr
 refine T.pick [] 4 rfl rfl nla rfl ?_
 refine T.ret1 rfl rfl (fun w hS => ⟨(), rfl, hS⟩)

noncomputable def slices_IndexFunc_api_Op_api_Op__txn_Right_1.k1 (s1 : Unit) : Option Int :=
  some (-1)
noncomputable def slices_IndexFunc_api_Op_api_Op__txn_Right_1.st1 (l0 : List (Int × (List UInt8) × ((List UInt8) × (List ((List UInt8) × Int × Int)) × (List (Int × Bool))) × (List (Int × Int × (List UInt8))) × (Int × Int × (List UInt8)) × Int × (Int × Int × (List UInt8)) × (Int × Int × (List UInt8)) × Int)) (s2 : Int) : Option (Int ⊕ (Int ⊕ Unit)) :=
  (if ((decide (s2 < ((l0.length : Int))))) = true then chk (0 ≤ s2 ∧ s2 < (l0.length : Int)) ((txn_Right_1.impl (((l0).getD (s2 : Int).toNat default))).bind fun r1 => (if r1 = true then some (.inr (.inl s2)) else some (.inl (IntKind.i64.wrap (s2 + 1))))) else some (.inr (.inr ())))
noncomputable def slices_IndexFunc_api_Op_api_Op__txn_Right_1.impl (l0 : List (Int × (List UInt8) × ((List UInt8) × (List ((List UInt8) × Int × Int)) × (List (Int × Bool))) × (List (Int × Int × (List UInt8))) × (Int × Int × (List UInt8)) × Int × (Int × Int × (List UInt8)) × (Int × Int × (List UInt8)) × Int)) : Option Int :=
  (loop (slices_IndexFunc_api_Op_api_Op__txn_Right_1.st1 l0) 0).bind (fun e1 => match e1 with | .inl v => some v | .inr v => slices_IndexFunc_api_Op_api_Op__txn_Right_1.k1 v)
set_option maxRecDepth 100000 in
set_option maxHeartbeats 4000000 in
theorem slices_IndexFunc_api_Op_api_Op__txn_Right_1.c {B : World} {hs : List MP} {w : World} {i0 c0 : Nat} {A0 : Option Addr} {l0 : List (Int × (List UInt8) × ((List UInt8) × (List ((List UInt8) × Int × Int)) × (List (Int × Bool))) × (List (Int × Int × (List UInt8))) × (Int × Int × (List UInt8)) × Int × (Int × Int × (List UInt8)) × (Int × Int × (List UInt8)) × Int)} (hB : Base B) (hS : St B hs w) (h0 : (hs)[i0]? = some (Ro (Elt.pair E64 (Elt.pair EStr (Elt.pair (Elt.pair EStr (Elt.pair (Elt.slice (Elt.pair EStr (Elt.pair E64 E64))) (Elt.slice (Elt.pair E64 EBool)))) (Elt.pair (Elt.slice (Elt.pair E64 (Elt.pair E64 EStr))) (Elt.pair (Elt.pair E64 (Elt.pair E64 EStr)) (Elt.pair E64 (Elt.pair (Elt.pair E64 (Elt.pair E64 EStr)) (Elt.pair (Elt.pair E64 (Elt.pair E64 EStr)) E64)))))))) A0 c0 l0)) {r : Int} (hr : slices_IndexFunc_api_Op_api_Op__txn_Right_1.impl l0 = some r) :
    Calls Tryd.prog 90 #[.slice A0 l0.length c0, .func (.func 73) #[] #[]] w fun e w' => ∃ x : Unit, e = .returned (.int .i64 r) ∧ St B hs w' := by
 unfold slices_IndexFunc_api_Op_api_Op__txn_Right_1.impl at hr
 refine calls_T Tryd.func90 rfl rfl rfl hS ?_
 refine T.front i0 h0 (T.seq (T.region (T.asg rfl rfl rfl rfl (T.nil (T.then_normal ?_)))))
 refine T.seqJ (fun (s1 : Unit) (x1 : Unit) => []) (fun s1 x1 => hs) (fun s1 => slices_IndexFunc_api_Op_api_Op__txn_Right_1.k1 s1 = some r) (fun s1 x1 hk1 => ?_) (fun J1 => ?_)
 ·unfold slices_IndexFunc_api_Op_api_Op__txn_Right_1.k1 at hk1
  refine T.seq (T.region (T.asg rfl rfl rfl rfl (T.nil (T.then_normal (T.ret ?_)))))
  obtain rfl := inv_some hk1
  refine T.pick [] 0 rfl rfl nla rfl ?_
  refine T.ret1 rfl rfl (fun w hS => ⟨(), rfl, hS⟩)
 ·refine T.seq (T.region (T.mv rfl rfl rfl rfl (T.lenSlice .list rfl w0 rfl rfl (T.mv rfl rfl rfl rfl (T.nil (T.then_normal (T.block ?_)))))))
  obtain ⟨e1, hl1, hr⟩ := inv_bind hr
  refine T.le (EnvLe.cons rfl (EnvLe.cons rfl (EnvLe.cons rfl (EnvLe.cons rfl EnvLe.nil)))) (T.pick [0] 1 rfl rfl nla rfl (T.loop (s0 := 0) (env := fun s2 x2 => [(0, .slice A0 l0.length c0), (1, .func (.func 73) #[] #[]), (7, .int .i64 ((l0.length : Int))), (8, .int .i64 s2)]) (hs := fun (s2 : Int) (x2 : Unit) => Ro (Elt.pair E64 (Elt.pair EStr (Elt.pair (Elt.pair EStr (Elt.pair (Elt.slice (Elt.pair EStr (Elt.pair E64 E64))) (Elt.slice (Elt.pair E64 EBool)))) (Elt.pair (Elt.slice (Elt.pair E64 (Elt.pair E64 EStr))) (Elt.pair (Elt.pair E64 (Elt.pair E64 EStr)) (Elt.pair E64 (Elt.pair (Elt.pair E64 (Elt.pair E64 EStr)) (Elt.pair (Elt.pair E64 (Elt.pair E64 EStr)) E64)))))))) A0 c0 l0 :: hs) hl1 () (fun K1 s2 x2 o1 he1 hm1 hx1 => ?_)))
  unfold slices_IndexFunc_api_Op_api_Op__txn_Right_1.st1 at he1
  refine T.seq (T.region (T.bin .list rfl w0 rfl rfl rfl rfl (T.nil (T.then_normal (T.seq ?_)))))
  refine T.cond rfl (fun hb1 => ?_) (fun hb1 => ?_)
  ·replace he1 := inv_posB hb1 he1
   refine T.skip (T.then_normal (T.seq (T.block (T.seq (T.region (T.mv rfl rfl rfl rfl (T.asg rfl rfl rfl rfl (T.nil (T.then_normal (T.seq (T.region ?_)))))))))))
   refine T.mv rfl rfl rfl rfl (T.mv rfl rfl rfl rfl (T.mv rfl rfl rfl rfl ?_))
   obtain ⟨hc1, he1⟩ := inv_chk he1
   refine T.idxRo .list 0 rfl rfl w0 rfl rfl rfl hc1.1 hc1.2 (Nat.le_refl _) ?_
   refine T.ldFRo 0 .list Fd.self (Sh.pair Sh.sc (Sh.pair Sh.sc (Sh.pair (Sh.pair Sh.sc (Sh.pair Sh.slice Sh.slice)) (Sh.pair Sh.slice (Sh.pair (Sh.pair Sh.sc (Sh.pair Sh.sc Sh.sc)) (Sh.pair Sh.sc (Sh.pair (Sh.pair Sh.sc (Sh.pair Sh.sc Sh.sc)) (Sh.pair (Sh.pair Sh.sc (Sh.pair Sh.sc Sh.sc)) Sh.sc)))))))) rfl (.inl rfl) rfl rfl hc1.1 hc1.2 rfl w0 rfl rfl rfl (v := fun x3 => .agg #[.int .i64 (((((l0).getD (s2 : Int).toNat default)).1)), str (((((l0).getD (s2 : Int).toNat default)).2.1)), str ((((((l0).getD (s2 : Int).toNat default)).2.2.1).1)), .slice x3.2.2.1.2.1.1 (((((((l0).getD (s2 : Int).toNat default)).2.2.1).2.1)).length) x3.2.2.1.2.1.2, .slice x3.2.2.1.2.2.1 (((((((l0).getD (s2 : Int).toNat default)).2.2.1).2.2)).length) x3.2.2.1.2.2.2, .slice x3.2.2.2.1.1 ((((((l0).getD (s2 : Int).toNat default)).2.2.2.1)).length) x3.2.2.2.1.2, .int .i64 ((((((l0).getD (s2 : Int).toNat default)).2.2.2.2.1).1)), .int .i64 ((((((l0).getD (s2 : Int).toNat default)).2.2.2.2.1).2.1)), str ((((((l0).getD (s2 : Int).toNat default)).2.2.2.2.1).2.2)), .int .i64 (((((l0).getD (s2 : Int).toNat default)).2.2.2.2.2.1)), .int .i64 ((((((l0).getD (s2 : Int).toNat default)).2.2.2.2.2.2.1).1)), .int .i64 ((((((l0).getD (s2 : Int).toNat default)).2.2.2.2.2.2.1).2.1)), str ((((((l0).getD (s2 : Int).toNat default)).2.2.2.2.2.2.1).2.2)), .int .i64 ((((((l0).getD (s2 : Int).toNat default)).2.2.2.2.2.2.2.1).1)), .int .i64 ((((((l0).getD (s2 : Int).toNat default)).2.2.2.2.2.2.2.1).2.1)), str ((((((l0).getD (s2 : Int).toNat default)).2.2.2.2.2.2.2.1).2.2)), .int .i64 (((((l0).getD (s2 : Int).toNat default)).2.2.2.2.2.2.2.2))]) (hs' := fun x3 => Ro (Elt.pair EStr (Elt.pair E64 E64)) x3.2.2.1.2.1.1 x3.2.2.1.2.1.2 ((((((l0).getD (s2 : Int).toNat default)).2.2.1).2.1)) :: Ro (Elt.pair E64 EBool) x3.2.2.1.2.2.1 x3.2.2.1.2.2.2 ((((((l0).getD (s2 : Int).toNat default)).2.2.1).2.2)) :: Ro (Elt.pair E64 (Elt.pair E64 EStr)) x3.2.2.2.1.1 x3.2.2.2.1.2 (((((l0).getD (s2 : Int).toNat default)).2.2.2.1)) :: Ro (Elt.pair E64 (Elt.pair EStr (Elt.pair (Elt.pair EStr (Elt.pair (Elt.slice (Elt.pair EStr (Elt.pair E64 E64))) (Elt.slice (Elt.pair E64 EBool)))) (Elt.pair (Elt.slice (Elt.pair E64 (Elt.pair E64 EStr))) (Elt.pair (Elt.pair E64 (Elt.pair E64 EStr)) (Elt.pair E64 (Elt.pair (Elt.pair E64 (Elt.pair E64 EStr)) (Elt.pair (Elt.pair E64 (Elt.pair E64 EStr)) E64)))))))) A0 c0 l0 :: hs) (fun _ => rfl) (fun _ => rfl) (fun x3 => ?_)
   obtain ⟨r1, hg1, he1⟩ := inv_bind he1
   refine T.call .list w0 rfl (run_callV (vs := [_]) (caps := []) (args := [_]) rfl rfl Tryd.func73 rfl (by decide) rfl rfl) (fun w hS => txn_Right_1.c hB hS (i0a := 0) (i0b := 1) (i0c := 2) (a0 := ((l0).getD (s2 : Int).toNat default)) rfl rfl rfl hg1) (fun x4 => ?_)
   refine T.nil (T.then_normal ?_)
   refine T.cond rfl (fun hb2 => ?_) (fun hb2 => ?_)
   ·replace he1 := inv_posB hb2 he1
    refine T.seq (T.region (T.mv rfl rfl rfl rfl (T.asg rfl rfl rfl rfl (T.nil (T.then_normal (T.ret (T.in_ret (T.then_ret (T.then_ret ?_)))))))))
    obtain rfl := inv_some he1
    obtain rfl := hx1 _ rfl
    refine T.in_ret (T.then_ret ?_)
    obtain rfl := inv_some hr
    refine T.pick [] 4 rfl rfl nla rfl ?_
    refine T.ret1 rfl rfl (fun w hS => ⟨(), rfl, hS⟩)
   ·replace he1 := inv_negB hb2 he1
    refine T.skip (T.in_normal (T.then_normal (T.region (T.bin .list rfl w0 rfl rfl rfl rfl (T.mv rfl rfl rfl rfl (T.nil (T.then_normal ?_)))))))
    obtain rfl := inv_some he1
    exact T.le (EnvLe.cons rfl (EnvLe.cons rfl (EnvLe.cons rfl (EnvLe.cons rfl EnvLe.nil)))) (T.pick [3] 4 rfl rfl nla rfl (hm1 (IntKind.i64.wrap (s2 + 1)) rfl ()))
  ·replace he1 := inv_negB hb1 he1
   refine T.exit (T.then_exit (T.then_exit ?_))
   obtain rfl := inv_some he1
   obtain rfl := hx1 _ rfl
   refine T.in_hit (T.then_normal ?_)
   exact T.le EnvLe.nil (T.pick [] 1 rfl rfl nla rfl (J1 () () hr))

noncomputable def slices_ContainsFunc_api_Op_api_Op__txn_Right_1.impl (l0 : List (Int × (List UInt8) × ((List UInt8) × (List ((List UInt8) × Int × Int)) × (List (Int × Bool))) × (List (Int × Int × (List UInt8))) × (Int × Int × (List UInt8)) × Int × (Int × Int × (List UInt8)) × (Int × Int × (List UInt8)) × Int)) : Option Bool :=
  (slices_IndexFunc_api_Op_api_Op__txn_Right_1.impl l0).bind fun r1 => some (decide ((0 : Int) ≤ r1))
set_option maxRecDepth 100000 in
set_option maxHeartbeats 4000000 in
theorem slices_ContainsFunc_api_Op_api_Op__txn_Right_1.c {B : World} {hs : List MP} {w : World} {i0 c0 : Nat} {A0 : Option Addr} {l0 : List (Int × (List UInt8) × ((List UInt8) × (List ((List UInt8) × Int × Int)) × (List (Int × Bool))) × (List (Int × Int × (List UInt8))) × (Int × Int × (List UInt8)) × Int × (Int × Int × (List UInt8)) × (Int × Int × (List UInt8)) × Int)} (hB : Base B) (hS : St B hs w) (h0 : (hs)[i0]? = some (Ro (Elt.pair E64 (Elt.pair EStr (Elt.pair (Elt.pair EStr (Elt.pair (Elt.slice (Elt.pair EStr (Elt.pair E64 E64))) (Elt.slice (Elt.pair E64 EBool)))) (Elt.pair (Elt.slice (Elt.pair E64 (Elt.pair E64 EStr))) (Elt.pair (Elt.pair E64 (Elt.pair E64 EStr)) (Elt.pair E64 (Elt.pair (Elt.pair E64 (Elt.pair E64 EStr)) (Elt.pair (Elt.pair E64 (Elt.pair E64 EStr)) E64)))))))) A0 c0 l0)) {r : Bool} (hr : slices_ContainsFunc_api_Op_api_Op__txn_Right_1.impl l0 = some r) :
    Calls Tryd.prog 72 #[.slice A0 l0.length c0, .func (.func 73) #[] #[]] w fun e w' => ∃ x : Unit, e = .returned (.bool r) ∧ St B hs w' := by
 unfold slices_ContainsFunc_api_Op_api_Op__txn_Right_1.impl at hr
 refine calls_T Tryd.func72 rfl rfl rfl hS ?_
 refine T.front i0 h0 (T.seq (T.region (T.asg rfl rfl rfl rfl (T.nil (T.then_normal (T.seq (T.region (T.mv rfl rfl rfl rfl (T.mv rfl rfl rfl rfl ?_)))))))))
 obtain ⟨r1, hg1, hr⟩ := inv_bind hr
 refine T.call .list w0 rfl (run_callF (vs := [_, _]) rfl Tryd.func90 rfl (by decide) rfl) (fun w hS => slices_IndexFunc_api_Op_api_Op__txn_Right_1.c hB hS (i0 := 0) rfl hg1) (fun x1 => ?_)
 refine T.bin .list rfl w0 rfl rfl rfl rfl (T.asg rfl rfl rfl rfl (T.nil (T.then_normal (T.ret ?_))))
 obtain rfl := inv_some hr
 refine T.pick [] 1 rfl rfl nla rfl ?_
 refine T.ret1 rfl rfl (fun w hS => ⟨(), rfl, hS⟩)

noncomputable def txn_Right.impl (l0 : List (Int × (List UInt8) × ((List UInt8) × (List ((List UInt8) × Int × Int)) × (List (Int × Bool))) × (List (Int × Int × (List UInt8))) × (Int × Int × (List UInt8)) × Int × (Int × Int × (List UInt8)) × (Int × Int × (List UInt8)) × Int)) : Option Bool :=
  (if ((decide ((((l0.length : Int))) ≤ 3))) = true then (slices_ContainsFunc_api_Op_api_Op__txn_Right_1.impl l0).bind fun r1 => some (!r1) else some false)
set_option maxRecDepth 100000 in
set_option maxHeartbeats 4000000 in
theorem txn_Right.c {B : World} {hs : List MP} {w : World} {i0 c0 : Nat} {A0 : Option Addr} {l0 : List (Int × (List UInt8) × ((List UInt8) × (List ((List UInt8) × Int × Int)) × (List (Int × Bool))) × (List (Int × Int × (List UInt8))) × (Int × Int × (List UInt8)) × Int × (Int × Int × (List UInt8)) × (Int × Int × (List UInt8)) × Int)} (hB : Base B) (hS : St B hs w) (h0 : (hs)[i0]? = some (Ro (Elt.pair E64 (Elt.pair EStr (Elt.pair (Elt.pair EStr (Elt.pair (Elt.slice (Elt.pair EStr (Elt.pair E64 E64))) (Elt.slice (Elt.pair E64 EBool)))) (Elt.pair (Elt.slice (Elt.pair E64 (Elt.pair E64 EStr))) (Elt.pair (Elt.pair E64 (Elt.pair E64 EStr)) (Elt.pair E64 (Elt.pair (Elt.pair E64 (Elt.pair E64 EStr)) (Elt.pair (Elt.pair E64 (Elt.pair E64 EStr)) E64)))))))) A0 c0 l0)) {r : Bool} (hr : txn_Right.impl l0 = some r) :
    Calls Tryd.prog 55 #[.slice A0 l0.length c0] w fun e w' => ∃ x : Unit, e = .returned (.bool r) ∧ St B hs w' := by
 unfold txn_Right.impl at hr
 refine calls_T Tryd.func55 rfl rfl rfl hS ?_
 refine T.front i0 h0 (T.seq (T.region (T.asg rfl rfl rfl rfl (T.nil (T.then_normal (T.seq (T.region (T.mv rfl rfl rfl rfl (T.lenSlice .list rfl w0 rfl rfl (T.bin .list rfl w0 rfl rfl rfl rfl (T.mv rfl rfl rfl rfl ?_)))))))))))
 refine T.bool (b := (decide ((((l0.length : Int))) ≤ 3))) (fun hb1 => ?_) (fun hb1 => ?_)
 ·replace hr := inv_posB hb1 hr
  refine T.move .list rfl (wants1 rfl rfl rfl hb1) rfl rfl ?_
  obtain ⟨r1, hg1, hr⟩ := inv_bind hr
  refine T.call .list (wants1 rfl rfl rfl hb1) rfl (run_callF (vs := [_, _]) rfl Tryd.func72 rfl (by decide) rfl) (fun w hS => slices_ContainsFunc_api_Op_api_Op__txn_Right_1.c hB hS (i0 := 0) rfl hg1) (fun x1 => ?_)
  refine T.not .list rfl (wants1 rfl rfl rfl hb1) rfl rfl (T.pickT .list rfl w0 rfl rfl hb1 rfl (T.asg rfl rfl rfl rfl (T.nil (T.then_normal (T.ret ?_)))))
  obtain rfl := inv_some hr
  refine T.pick [] 1 rfl rfl nla rfl ?_
  refine T.ret1 rfl rfl (fun w hS => ⟨(), rfl, hS⟩)
 ·replace hr := inv_negB hb1 hr
  refine T.lv rfl rfl rfl hb1 rfl (T.lv rfl rfl rfl hb1 rfl (T.lv rfl rfl rfl hb1 rfl (T.pickF .list rfl w0 rfl rfl hb1 rfl (T.asg rfl rfl rfl rfl (T.nil (T.then_normal (T.ret ?_)))))))
  obtain rfl := inv_some hr
  refine T.pick [] 1 rfl rfl nla rfl ?_
  refine T.ret1 rfl rfl (fun w hS => ⟨(), rfl, hS⟩)
end Go.Proofs.YtpogdeibkghhaaaDoor
