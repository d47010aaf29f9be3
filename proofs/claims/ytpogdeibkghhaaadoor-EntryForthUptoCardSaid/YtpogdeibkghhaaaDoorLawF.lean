/- LawF: what the functions compute, and that the program computes it; printed by a program of ours. -/
import Derived.Test.YtpogdeibkghhaaaDoorLaw
import Derived.Test.YtpogdeibkghhaaaDoorCks
set_option linter.unusedVariables false
set_option linter.unusedSimpArgs false
namespace Go.Proofs.YtpogdeibkghhaaaDoor
open Go.RowKit
noncomputable def law17_EntryForth.k5 (r6 : (Int × Int × (List (Int × Int × (List (Int × (List UInt8) × ((List UInt8) × (List ((List UInt8) × Int × Int)) × (List (Int × Bool))) × (List (Int × Int × (List UInt8))) × (Int × Int × (List UInt8)) × Int × (Int × Int × (List UInt8)) × (Int × Int × (List UInt8)) × Int)))) × Int) × Int) (a2 : Int) (r3 : List UInt8 × Int) (s5 : Unit) : Option Bool :=
  (if ((decide (r6.2 = 0))) = true then chk (0 ≤ (Int.tmod (bitsOf .and .i64 a2 65535) (((((([] : List UInt8)) ++ r3.1)).length : Int))) ∧ (Int.tmod (bitsOf .and .i64 a2 65535) (((((([] : List UInt8)) ++ r3.1)).length : Int))) ≤ (r3.1.length : Int)) ((entry_Decode.impl (subl r3.1 0 (Int.tmod (bitsOf .and .i64 a2 65535) (((((([] : List UInt8)) ++ r3.1)).length : Int))))).bind fun r8 => (entry_Encode.impl r8.1).bind fun r9 => (if ((decide (r9.2 = 0))) = true then chk (0 ≤ (Int.tmod (bitsOf .and .i64 a2 65535) (((((([] : List UInt8)) ++ r3.1)).length : Int))) ∧ (Int.tmod (bitsOf .and .i64 a2 65535) (((((([] : List UInt8)) ++ r3.1)).length : Int))) ≤ (r3.1.length : Int)) (some (decide (r9.1 = (subl r3.1 0 (Int.tmod (bitsOf .and .i64 a2 65535) (((((([] : List UInt8)) ++ r3.1)).length : Int))))))) else some false)) else (law17_told.impl ).bind fun r10 => some r10)
noncomputable def law17_EntryForth.k6 (r6 : (Int × Int × (List (Int × Int × (List (Int × (List UInt8) × ((List UInt8) × (List ((List UInt8) × Int × Int)) × (List (Int × Bool))) × (List (Int × Int × (List UInt8))) × (Int × Int × (List UInt8)) × Int × (Int × Int × (List UInt8)) × (Int × Int × (List UInt8)) × Int)))) × Int) × Int) (a2 : Int) (r3 : List UInt8 × Int) (s6 : Bool) : Option Bool :=
  (if s6 = true then some false else law17_EntryForth.k5 r6 a2 r3 ())
noncomputable def law17_EntryForth.k4 (a2 : Int) (r3 : List UInt8 × Int) (l0 : List UInt8) (s4 : Unit) : Option Bool :=
  chk (0 ≤ (Int.tmod (bitsOf .and .i64 a2 65535) (((((([] : List UInt8)) ++ r3.1)).length : Int))) ∧ (Int.tmod (bitsOf .and .i64 a2 65535) (((((([] : List UInt8)) ++ r3.1)).length : Int))) ≤ (r3.1.length : Int)) ((entry_Decode.impl (subl r3.1 0 (Int.tmod (bitsOf .and .i64 a2 65535) (((((([] : List UInt8)) ++ r3.1)).length : Int))))).bind fun r6 => (entry_DecodeReply.impl l0).bind fun r7 => (if ((decide (r7.2 = 0))) = true then (entry_EncodeReply.impl r7.1).bind fun r11 => (if ((decide (r11.2 = 0))) = true then law17_EntryForth.k6 r6 a2 r3 (!(decide (r11.1 = l0))) else law17_EntryForth.k6 r6 a2 r3 true) else law17_EntryForth.k5 r6 a2 r3 ()))
noncomputable def law17_EntryForth.k7 (a2 : Int) (r3 : List UInt8 × Int) (l0 : List UInt8) (s7 : Bool) : Option Bool :=
  (if s7 = true then some false else law17_EntryForth.k4 a2 r3 l0 ())
noncomputable def law17_EntryForth.k3 (a2 : Int) (r3 : List UInt8 × Int) (a3 : Int) (l0 : List UInt8) (s3 : Unit) : Option Bool :=
  chk (0 ≤ (Int.tmod (bitsOf .and .i64 a2 65535) (((((([] : List UInt8)) ++ r3.1)).length : Int))) ∧ (Int.tmod (bitsOf .and .i64 a2 65535) (((((([] : List UInt8)) ++ r3.1)).length : Int))) ≤ (r3.1.length : Int)) (chk (((([] : List UInt8)).length + (subl r3.1 0 (Int.tmod (bitsOf .and .i64 a2 65535) (((((([] : List UInt8)) ++ r3.1)).length : Int)))).length) * 1 ≤ 140737488355328) (chk (0 ≤ a3 ∧ a3 < 256) (chk (((((([] : List UInt8)) ++ (subl r3.1 0 (Int.tmod (bitsOf .and .i64 a2 65535) (((((([] : List UInt8)) ++ r3.1)).length : Int)))))).length + (([(u8 a3)] : List UInt8)).length) * 1 ≤ 140737488355328) (chk (0 ≤ (Int.tmod (bitsOf .and .i64 a2 65535) (((((([] : List UInt8)) ++ r3.1)).length : Int))) ∧ (Int.tmod (bitsOf .and .i64 a2 65535) (((((([] : List UInt8)) ++ r3.1)).length : Int))) ≤ ((r3.1.length : Int)) ∧ ((r3.1.length : Int)) ≤ (r3.1.length : Int)) (chk (((((((([] : List UInt8)) ++ (subl r3.1 0 (Int.tmod (bitsOf .and .i64 a2 65535) (((((([] : List UInt8)) ++ r3.1)).length : Int)))))) ++ (([(u8 a3)] : List UInt8)))).length + (subl r3.1 (Int.tmod (bitsOf .and .i64 a2 65535) (((((([] : List UInt8)) ++ r3.1)).length : Int))) ((r3.1.length : Int))).length) * 1 ≤ 140737488355328) ((entry_Decode.impl (((((((([] : List UInt8)) ++ (subl r3.1 0 (Int.tmod (bitsOf .and .i64 a2 65535) (((((([] : List UInt8)) ++ r3.1)).length : Int)))))) ++ (([(u8 a3)] : List UInt8)))) ++ (subl r3.1 (Int.tmod (bitsOf .and .i64 a2 65535) (((((([] : List UInt8)) ++ r3.1)).length : Int))) ((r3.1.length : Int)))))).bind fun r12 => (if ((decide (r12.2 = 0))) = true then (entry_Encode.impl r12.1).bind fun r13 => (if ((decide (r13.2 = 0))) = true then law17_EntryForth.k7 a2 r3 l0 (!(decide (r13.1 = (((((((([] : List UInt8)) ++ (subl r3.1 0 (Int.tmod (bitsOf .and .i64 a2 65535) (((((([] : List UInt8)) ++ r3.1)).length : Int)))))) ++ (([(u8 a3)] : List UInt8)))) ++ (subl r3.1 (Int.tmod (bitsOf .and .i64 a2 65535) (((((([] : List UInt8)) ++ r3.1)).length : Int))) ((r3.1.length : Int)))))))) else law17_EntryForth.k7 a2 r3 l0 true) else law17_EntryForth.k4 a2 r3 l0 ())))))))
noncomputable def law17_EntryForth.k8 (a2 : Int) (r3 : List UInt8 × Int) (a3 : Int) (l0 : List UInt8) (s8 : Bool) : Option Bool :=
  (if s8 = true then some false else law17_EntryForth.k3 a2 r3 a3 l0 ())
noncomputable def law17_EntryForth.k2 (r3 : List UInt8 × Int) (a2 : Int) (a3 : Int) (l0 : List UInt8) (s2 : Bool) : Option Bool :=
  (if s2 = true then (law17_told.impl ).bind fun r4 => some r4 else chk (((([] : List UInt8)).length + r3.1.length) * 1 ≤ 140737488355328) (chk (¬ (((((([] : List UInt8)) ++ r3.1)).length : Int)) = 0) (chk (0 ≤ (Int.tmod (bitsOf .and .i64 a2 65535) (((((([] : List UInt8)) ++ r3.1)).length : Int))) ∧ (Int.tmod (bitsOf .and .i64 a2 65535) (((((([] : List UInt8)) ++ r3.1)).length : Int))) < ((((([] : List UInt8)) ++ r3.1)).length : Int)) (chk (0 ≤ a3 ∧ a3 < 256) ((entry_Decode.impl (((((([] : List UInt8)) ++ r3.1)).set (Int.tmod (bitsOf .and .i64 a2 65535) (((((([] : List UInt8)) ++ r3.1)).length : Int)) : Int).toNat (u8 a3)))).bind fun r5 => (if ((decide (r5.2 = 0))) = true then (entry_Encode.impl r5.1).bind fun r14 => (if ((decide (r14.2 = 0))) = true then law17_EntryForth.k8 a2 r3 a3 l0 (!(decide (r14.1 = (((((([] : List UInt8)) ++ r3.1)).set (Int.tmod (bitsOf .and .i64 a2 65535) (((((([] : List UInt8)) ++ r3.1)).length : Int)) : Int).toNat (u8 a3)))))) else law17_EntryForth.k8 a2 r3 a3 l0 true) else law17_EntryForth.k3 a2 r3 a3 l0 ()))))))
noncomputable def law17_EntryForth.k1 (a1 : Int × Int × (List (Int × Int × (List (Int × (List UInt8) × ((List UInt8) × (List ((List UInt8) × Int × Int)) × (List (Int × Bool))) × (List (Int × Int × (List UInt8))) × (Int × Int × (List UInt8)) × Int × (Int × Int × (List UInt8)) × (Int × Int × (List UInt8)) × Int)))) × Int) (a2 : Int) (a3 : Int) (l0 : List UInt8) (s1 : Unit) : Option Bool :=
  (law17_few.impl a1).bind fun r2 => (entry_Encode.impl r2).bind fun r3 => (if ((decide (r3.2 = 0))) = true then law17_EntryForth.k2 r3 a2 a3 l0 (decide ((((r3.1.length : Int))) = 0)) else law17_EntryForth.k2 r3 a2 a3 l0 true)
noncomputable def law17_EntryForth.k9 (a1 : Int × Int × (List (Int × Int × (List (Int × (List UInt8) × ((List UInt8) × (List ((List UInt8) × Int × Int)) × (List (Int × Bool))) × (List (Int × Int × (List UInt8))) × (Int × Int × (List UInt8)) × Int × (Int × Int × (List UInt8)) × (Int × Int × (List UInt8)) × Int)))) × Int) (a2 : Int) (a3 : Int) (l0 : List UInt8) (s9 : Bool) : Option Bool :=
  (if s9 = true then some false else law17_EntryForth.k1 a1 a2 a3 l0 ())
noncomputable def law17_EntryForth.impl (l0 : List UInt8) (a1 : Int × Int × (List (Int × Int × (List (Int × (List UInt8) × ((List UInt8) × (List ((List UInt8) × Int × Int)) × (List (Int × Bool))) × (List (Int × Int × (List UInt8))) × (Int × Int × (List UInt8)) × Int × (Int × Int × (List UInt8)) × (Int × Int × (List UInt8)) × Int)))) × Int) (a2 : Int) (a3 : Int) : Option Bool :=
  (entry_Decode.impl l0).bind fun r1 => (if ((decide (r1.2 = 0))) = true then (entry_Encode.impl r1.1).bind fun r15 => (if ((decide (r15.2 = 0))) = true then (if ((decide (r15.1 = l0))) = true then (entry_Right.impl r1.1).bind fun r16 => law17_EntryForth.k9 a1 a2 a3 l0 (!r16) else law17_EntryForth.k9 a1 a2 a3 l0 true) else law17_EntryForth.k9 a1 a2 a3 l0 true) else (if ((!(decide (r1.2 = 11)))) = true then some false else law17_EntryForth.k1 a1 a2 a3 l0 ()))
set_option maxRecDepth 100000 in
set_option maxHeartbeats 4000000 in
theorem law17_EntryForth.c {B : World} {hs : List MP} {w : World} {i0 c0 : Nat} {A0 : Option Addr} {l0 : List UInt8} {a1 : Int × Int × (List (Int × Int × (List (Int × (List UInt8) × ((List UInt8) × (List ((List UInt8) × Int × Int)) × (List (Int × Bool))) × (List (Int × Int × (List UInt8))) × (Int × Int × (List UInt8)) × Int × (Int × Int × (List UInt8)) × (Int × Int × (List UInt8)) × Int)))) × Int} {i1a c1a : Nat} {A1a : Option Addr} {a2 : Int} {a3 : Int} (hB : Base B) (hS : St B hs w) (h0 : (hs)[i0]? = some (Ro E8 A0 c0 l0)) (h1a : (hs)[i1a]? = some (Ro (Elt.pair E64 (Elt.pair E64 (Elt.slice (Elt.pair E64 (Elt.pair EStr (Elt.pair (Elt.pair EStr (Elt.pair (Elt.slice (Elt.pair EStr (Elt.pair E64 E64))) (Elt.slice (Elt.pair E64 EBool)))) (Elt.pair (Elt.slice (Elt.pair E64 (Elt.pair E64 EStr))) (Elt.pair (Elt.pair E64 (Elt.pair E64 EStr)) (Elt.pair E64 (Elt.pair (Elt.pair E64 (Elt.pair E64 EStr)) (Elt.pair (Elt.pair E64 (Elt.pair E64 EStr)) E64))))))))))) A1a c1a a1.2.2.1)) {r : Bool} (hr : law17_EntryForth.impl l0 a1 a2 a3 = some r) :
    Calls Tryd.prog 4 #[.slice A0 l0.length c0, .agg #[.int .i64 a1.1, .int .i64 a1.2.1, .slice A1a a1.2.2.1.length c1a, .int .i64 a1.2.2.2], .int .i64 a2, .int .u8 a3] w fun e w' => ∃ x : Unit, e = .returned (.bool r) ∧ St B hs w' := by
 unfold law17_EntryForth.impl at hr
 refine calls_T Tryd.func4 rfl rfl rfl hS ?_
 refine T.front i0 h0 (T.front (i1a + 1) h1a (T.seq (T.region ?_)))
 refine T.boxS .list rfl w0 rfl rfl (cs := [.int .i64 a1.1, .int .i64 a1.2.1, .slice A1a a1.2.2.1.length c1a, .int .i64 a1.2.2.2]) rfl (fun b1 => ?_)
 refine T.asg rfl rfl rfl rfl (T.nil (T.then_normal (T.seq (T.region (T.mv rfl rfl rfl rfl ?_)))))
 obtain ⟨r1, hg1, hr⟩ := inv_bind hr
 refine T.call .list w0 rfl (run_callF (vs := [_]) rfl Tryd.func11 rfl (by decide) rfl) (fun w hS => entry_Decode.c hB hS (i0 := 2) rfl hg1) (fun x1 => ?_)
 refine T.mv rfl rfl rfl rfl (T.extract .list rfl w0 rfl rfl rfl (T.extract .list rfl w0 rfl rfl rfl ?_))
 refine T.allocS .list rfl w0 rfl (cs := [.int .i64 0, .int .i64 0, .slice none 0 0, .int .i64 0]) rfl (fun b2 => ?_)
 refine T.store .list 0 rfl rfl w0 rfl rfl rfl rfl (Nat.le_of_ble_eq_true rfl) rfl (cs' := [.int .i64 r1.1.1, .int .i64 r1.1.2.1, .slice x1.1 r1.1.2.2.1.length x1.2, .int .i64 r1.1.2.2.2]) rfl rfl (T.asg rfl rfl rfl rfl (T.nil (T.then_normal ?_)))
 refine T.seqJ (fun (s1 : Unit) (x2 : Unit) => [(0, .slice A0 l0.length c0), (2, .int .i64 a2), (3, .int .u8 a3), (5, .pointer (some ⟨b1, 0, none⟩))]) (fun s1 x2 => Ro E8 A0 c0 l0 :: Cl b1 36 [.int .i64 a1.1, .int .i64 a1.2.1, .slice A1a a1.2.2.1.length c1a, .int .i64 a1.2.2.2] :: Ro (Elt.pair E64 (Elt.pair E64 (Elt.slice (Elt.pair E64 (Elt.pair EStr (Elt.pair (Elt.pair EStr (Elt.pair (Elt.slice (Elt.pair EStr (Elt.pair E64 E64))) (Elt.slice (Elt.pair E64 EBool)))) (Elt.pair (Elt.slice (Elt.pair E64 (Elt.pair E64 EStr))) (Elt.pair (Elt.pair E64 (Elt.pair E64 EStr)) (Elt.pair E64 (Elt.pair (Elt.pair E64 (Elt.pair E64 EStr)) (Elt.pair (Elt.pair E64 (Elt.pair E64 EStr)) E64))))))))))) A1a c1a a1.2.2.1 :: hs) (fun s1 => law17_EntryForth.k1 a1 a2 a3 l0 s1 = some r) (fun s1 x2 hk1 => ?_) (fun J1 => ?_)
 ·unfold law17_EntryForth.k1 at hk1
  refine T.seq (T.region (T.loadN .list 1 rfl rfl w0 rfl rfl (vs := [.int .i64 a1.1, .int .i64 a1.2.1, .slice A1a a1.2.2.1.length c1a, .int .i64 a1.2.2.2]) rfl rfl ?_))
  obtain ⟨r2, hg2, hk1⟩ := inv_bind hk1
  refine T.call .list w0 rfl (run_callF (vs := [_]) rfl Tryd.func14 rfl (by decide) rfl) (fun w hS => law17_few.c hB hS (i0a := 2) (a0 := a1) rfl hg2) (fun x3 => ?_)
  obtain ⟨r3, hg3, hk1⟩ := inv_bind hk1
  refine T.call .list w0 rfl (run_callF (vs := [_]) rfl Tryd.func12 rfl (by decide) rfl) (fun w hS => entry_Encode.c hB hS (i0a := 0) (a0 := r2) rfl hg3) (fun x4 => ?_)
  refine T.mv rfl rfl rfl rfl (T.extract .list rfl w0 rfl rfl rfl (T.extract .list rfl w0 rfl rfl rfl (T.asg rfl rfl rfl rfl (T.asg rfl rfl rfl rfl (T.nil (T.then_normal (T.seq ?_)))))))
  refine T.seqJ (fun (s2 : Bool) (x5 : Unit) => [(0, .slice A0 l0.length c0), (2, .int .i64 a2), (3, .int .u8 a3), (13, .slice x4.1 r3.1.length x4.2), (76, .bool s2)]) (fun s2 x5 => Ro E8 A0 c0 l0 :: Bf E8 5 x4.1 x4.2 r3.1 :: hs) (fun s2 => law17_EntryForth.k2 r3 a2 a3 l0 s2 = some r) (fun s2 x5 hk2 => ?_) (fun J2 => ?_)
  ·unfold law17_EntryForth.k2 at hk2
   refine T.cond rfl (fun hb1 => ?_) (fun hb1 => ?_)
   ·replace hk2 := inv_posB hb1 hk2
    refine T.seq (T.region ?_)
    obtain ⟨r4, hg4, hk2⟩ := inv_bind hk2
    refine T.call .list w0 rfl (run_callF (vs := []) rfl Tryd.func8 rfl (by decide) rfl) (fun w hS => law17_told.c hB hS  hg4) (fun x6 => ?_)
    refine T.asg rfl rfl rfl rfl (T.nil (T.then_normal (T.ret (T.then_ret ?_))))
    obtain rfl := inv_some hk2
    refine T.pick [] 2 rfl rfl nla rfl ?_
    refine T.ret1 rfl rfl (fun w hS => ⟨(), rfl, hS⟩)
   ·replace hk2 := inv_negB hb1 hk2
    refine T.skip (T.then_normal (T.seq (T.region (T.asg rfl rfl rfl rfl (T.nil (T.then_normal (T.seq (T.region (T.mv rfl rfl rfl rfl (T.mv rfl rfl rfl rfl (T.nilBf E8 5 ?_)))))))))))
    obtain ⟨hc1, hk2⟩ := inv_chk hk2
    refine T.appBf .list 0 2 rfl rfl rfl rfl rfl w0 rfl rfl rfl rfl rfl rfl hc1 (fun _ _ => rfl) (fun A5 c5 => ?_)
    refine T.asg rfl rfl rfl rfl (T.nil (T.then_normal (T.seq (T.region (T.mv rfl rfl rfl rfl (T.bin .list rfl w0 rfl rfl rfl rfl (T.mv rfl rfl rfl rfl (T.lenSlice .list rfl w0 rfl rfl ?_))))))))
    obtain ⟨hc2, hk2⟩ := inv_chk hk2
    refine T.rem .list rfl w0 rfl rfl rfl hc2 (T.asg rfl rfl rfl rfl (T.nil (T.then_normal (T.seq (T.region (T.mv rfl rfl rfl rfl (T.mv rfl rfl rfl rfl (T.mv rfl rfl rfl rfl ?_))))))))
    obtain ⟨hc3, hk2⟩ := inv_chk hk2
    refine T.idxBf .list 0 rfl rfl w0 rfl rfl rfl hc3.1 hc3.2 (Nat.le_refl _) ?_
    obtain ⟨hc4, hk2⟩ := inv_chk hk2
    refine T.stBf .list 0 rfl rfl w0 rfl rfl rfl (b8_u8 hc4.1 hc4.2) hc3.1 hc3.2 rfl (T.nil (T.then_normal (T.seq (T.region (T.mv rfl rfl rfl rfl (T.env1 91 rfl (slc (n' := (((((([] : List UInt8)) ++ r3.1)).set (Int.tmod (bitsOf .and .i64 a2 65535) (((((([] : List UInt8)) ++ r3.1)).length : Int)) : Int).toNat (u8 a3))).length) (by simp only [List.length_set])) (T.freeze 0 rfl rfl rfl ?_)))))))
    obtain ⟨r5, hg5, hk2⟩ := inv_bind hk2
    refine T.call .list w0 rfl (run_callF (vs := [_]) rfl Tryd.func11 rfl (by decide) rfl) (fun w hS => entry_Decode.c hB hS (i0 := 0) rfl hg5) (fun x7 => ?_)
    refine T.mv rfl rfl rfl rfl (T.extract .list rfl w0 rfl rfl rfl (T.extract .list rfl w0 rfl rfl rfl ?_))
    refine T.allocS .list rfl w0 rfl (cs := [.int .i64 0, .int .i64 0, .slice none 0 0, .int .i64 0]) rfl (fun b3 => ?_)
    refine T.store .list 0 rfl rfl w0 rfl rfl rfl rfl (Nat.le_of_ble_eq_true rfl) rfl (cs' := [.int .i64 r5.1.1, .int .i64 r5.1.2.1, .slice x7.1 r5.1.2.2.1.length x7.2, .int .i64 r5.1.2.2.2]) rfl rfl (T.asg rfl rfl rfl rfl (T.nil (T.then_normal ?_)))
    refine T.seqJ (fun (s3 : Unit) (x8 : Unit) => [(0, .slice A0 l0.length c0), (3, .int .u8 a3), (13, .slice x4.1 r3.1.length x4.2), (16, .int .i64 (Int.tmod (bitsOf .and .i64 a2 65535) (((((([] : List UInt8)) ++ r3.1)).length : Int))))]) (fun s3 x8 => Ro E8 A0 c0 l0 :: Bf E8 5 x4.1 x4.2 r3.1 :: hs) (fun s3 => law17_EntryForth.k3 a2 r3 a3 l0 s3 = some r) (fun s3 x8 hk3 => ?_) (fun J3 => ?_)
    ·unfold law17_EntryForth.k3 at hk3
     refine T.seq (T.region (T.asg rfl rfl rfl rfl (T.nil (T.then_normal (T.seq (T.region (T.mv rfl rfl rfl rfl (T.mv rfl rfl rfl rfl (T.mv rfl rfl rfl rfl ?_)))))))))
     obtain ⟨hc5, hk3⟩ := inv_chk hk3
     refine T.cut0Bf .list 1 rfl rfl rfl w0 rfl rfl (.inl rfl) (.inr ⟨_, _, rfl, rfl⟩) hc5.1 hc5.2 (T.nilBf E8 5 (T.freeze 2 rfl rfl rfl (T.viewRo 2 (b := Int.tmod (bitsOf .and .i64 a2 65535) (((((([] : List UInt8)) ++ r3.1)).length : Int))) rfl ?_)))
     obtain ⟨hc6, hk3⟩ := inv_chk hk3
     refine T.appRo .list 1 0 rfl rfl rfl rfl rfl w0 rfl rfl rfl rfl rfl rfl hc6 (fun _ _ => rfl) (fun A6 c6 => ?_)
     refine T.asg rfl rfl rfl rfl (T.nil (T.then_normal (T.seq (T.region (T.mv rfl rfl rfl rfl (T.mv rfl rfl rfl rfl ?_))))))
     obtain ⟨hc7, hk3⟩ := inv_chk hk3
     refine T.lit (E := E8) .list (vals := [(0, .int .u8 a3)]) (cells := #[.int .u8 a3]) rfl w0 rfl rfl rfl rfl rfl (by kernel_rfl) ([(u8 a3)] : List UInt8) rfl (fun _ _ _ _ _ => (Encs.c1 (enc := b8) (h1 := fun _ => rfl) (b8_u8 hc7.1 hc7.2) rfl)) (fun b4 => ?_)
     obtain ⟨hc8, hk3⟩ := inv_chk hk3
     refine T.appBf .list 2 0 rfl rfl rfl rfl rfl w0 rfl rfl rfl rfl rfl rfl hc8 (fun _ _ => rfl) (fun A7 c7 => ?_)
     refine T.asg rfl rfl rfl rfl (T.nil (T.then_normal (T.seq (T.region (T.mv rfl rfl rfl rfl (T.mv rfl rfl rfl rfl (T.mv rfl rfl rfl rfl ?_)))))))
     obtain ⟨hc9, hk3⟩ := inv_chk hk3
     refine T.cut .list 4 rfl rfl rfl w0 rfl rfl (.inr ⟨_, _, rfl, rfl⟩) (.inl ⟨rfl, rfl⟩) hc9.1 hc9.2.1 hc9.2.2 ?_
     obtain ⟨hc10, hk3⟩ := inv_chk hk3
     refine T.appRo .list 3 0 rfl rfl rfl rfl rfl w0 rfl rfl rfl rfl rfl rfl hc10 (fun _ _ => rfl) (fun A8 c8 => ?_)
     refine T.asg rfl rfl rfl rfl (T.nil (T.then_normal ?_))
     refine T.seqJ (fun (s4 : Unit) (x9 : Unit) => [(0, .slice A0 l0.length c0), (13, .slice x4.1 r3.1.length x4.2), (16, .int .i64 (Int.tmod (bitsOf .and .i64 a2 65535) (((((([] : List UInt8)) ++ r3.1)).length : Int))))]) (fun s4 x9 => Ro E8 A0 c0 l0 :: Ro E8 x4.1 x4.2 r3.1 :: hs) (fun s4 => law17_EntryForth.k4 a2 r3 l0 s4 = some r) (fun s4 x9 hk4 => ?_) (fun J4 => ?_)
     ·unfold law17_EntryForth.k4 at hk4
      refine T.seq (T.region (T.mv rfl rfl rfl rfl (T.mv rfl rfl rfl rfl ?_)))
      obtain ⟨hc11, hk4⟩ := inv_chk hk4
      refine T.cut0 .list 1 rfl rfl rfl w0 rfl rfl (.inl rfl) (.inr ⟨_, _, rfl, rfl⟩) hc11.1 hc11.2 ?_
      obtain ⟨r6, hg6, hk4⟩ := inv_bind hk4
      refine T.call .list w0 rfl (run_callF (vs := [_]) rfl Tryd.func11 rfl (by decide) rfl) (fun w hS => entry_Decode.c hB hS (i0 := 0) rfl hg6) (fun x10 => ?_)
      refine T.mv rfl rfl rfl rfl (T.extract .list rfl w0 rfl rfl rfl (T.extract .list rfl w0 rfl rfl rfl ?_))
      refine T.allocS .list rfl w0 rfl (cs := [.int .i64 0, .int .i64 0, .slice none 0 0, .int .i64 0]) rfl (fun b5 => ?_)
      refine T.store .list 0 rfl rfl w0 rfl rfl rfl rfl (Nat.le_of_ble_eq_true rfl) rfl (cs' := [.int .i64 r6.1.1, .int .i64 r6.1.2.1, .slice x10.1 r6.1.2.2.1.length x10.2, .int .i64 r6.1.2.2.2]) rfl rfl (T.asg rfl rfl rfl rfl (T.nil (T.then_normal (T.seq (T.region (T.mv rfl rfl rfl rfl ?_))))))
      obtain ⟨r7, hg7, hk4⟩ := inv_bind hk4
      refine T.call .list w0 rfl (run_callF (vs := [_]) rfl Tryd.func9 rfl (by decide) rfl) (fun w hS => entry_DecodeReply.c hB hS (i0 := 3) rfl hg7) (fun x11 => ?_)
      refine T.mv rfl rfl rfl rfl (T.extract .list rfl w0 rfl rfl rfl (T.extract .list rfl w0 rfl rfl rfl ?_))
      refine T.allocS .list rfl w0 rfl (cs := [.int .i64 0, .int .i64 0, .slice none 0 0]) rfl (fun b6 => ?_)
      refine T.store .list 0 rfl rfl w0 rfl rfl rfl rfl (Nat.le_of_ble_eq_true rfl) rfl (cs' := [.int .i64 r7.1.1, .int .i64 r7.1.2.1, .slice x11.1 r7.1.2.2.length x11.2]) rfl rfl (T.asg rfl rfl rfl rfl (T.nil (T.then_normal ?_)))
      refine T.seqJ (fun (s5 : Unit) (x12 : Unit) => [(13, .slice x4.1 r3.1.length x4.2), (16, .int .i64 (Int.tmod (bitsOf .and .i64 a2 65535) (((((([] : List UInt8)) ++ r3.1)).length : Int)))), (27, .int .i64 r6.2)]) (fun s5 x12 => Ro E8 x4.1 x4.2 r3.1 :: hs) (fun s5 => law17_EntryForth.k5 r6 a2 r3 s5 = some r) (fun s5 x12 hk5 => ?_) (fun J5 => ?_)
      ·unfold law17_EntryForth.k5 at hk5
       refine T.seq (T.seq (T.region (T.mv rfl rfl rfl rfl (T.bin .list rfl w0 rfl rfl rfl rfl (T.nil (T.then_normal ?_))))))
       refine T.cond rfl (fun hb2 => ?_) (fun hb2 => ?_)
       ·replace hk5 := inv_posB hb2 hk5
        refine T.seq (T.region (T.mv rfl rfl rfl rfl (T.mv rfl rfl rfl rfl ?_)))
        obtain ⟨hc12, hk5⟩ := inv_chk hk5
        refine T.cut0 .list 0 rfl rfl rfl w0 rfl rfl (.inl rfl) (.inr ⟨_, _, rfl, rfl⟩) hc12.1 hc12.2 ?_
        obtain ⟨r8, hg8, hk5⟩ := inv_bind hk5
        refine T.call .list w0 rfl (run_callF (vs := [_]) rfl Tryd.func11 rfl (by decide) rfl) (fun w hS => entry_Decode.c hB hS (i0 := 0) rfl hg8) (fun x13 => ?_)
        refine T.mv rfl rfl rfl rfl (T.extract .list rfl w0 rfl rfl rfl (T.extract .list rfl w0 rfl rfl rfl ?_))
        refine T.allocS .list rfl w0 rfl (cs := [.int .i64 0, .int .i64 0, .slice none 0 0, .int .i64 0]) rfl (fun b7 => ?_)
        refine T.store .list 0 rfl rfl w0 rfl rfl rfl rfl (Nat.le_of_ble_eq_true rfl) rfl (cs' := [.int .i64 r8.1.1, .int .i64 r8.1.2.1, .slice x13.1 r8.1.2.2.1.length x13.2, .int .i64 r8.1.2.2.2]) rfl rfl (T.asg rfl rfl rfl rfl (T.nil (T.then_normal (T.seq (T.region (T.loadN .list 0 rfl rfl w0 rfl rfl (vs := [.int .i64 r8.1.1, .int .i64 r8.1.2.1, .slice x13.1 r8.1.2.2.1.length x13.2, .int .i64 r8.1.2.2.2]) rfl rfl ?_))))))
        obtain ⟨r9, hg9, hk5⟩ := inv_bind hk5
        refine T.call .list w0 rfl (run_callF (vs := [_]) rfl Tryd.func12 rfl (by decide) rfl) (fun w hS => entry_Encode.c hB hS (i0a := 1) (a0 := r8.1) rfl hg9) (fun x14 => ?_)
        refine T.mv rfl rfl rfl rfl (T.extract .list rfl w0 rfl rfl rfl (T.extract .list rfl w0 rfl rfl rfl (T.asg rfl rfl rfl rfl (T.asg rfl rfl rfl rfl (T.nil (T.then_normal (T.seq (T.plan [(0, 0), (1, 0), (2, 0), (3, 0), (5, 0), (6, 0), (7, 0), (4, 1), (8, 1), (9, 0), (10, 0), (11, 0)] mixed (by kernel_rfl) (by kernel_rfl) rfl (fun d _ _ _ _ h => by cases d <;> exact h) (T.move (.plan rfl) rfl w0 rfl rfl (T.bin (.plan rfl) rfl w0 rfl rfl rfl rfl (T.move (.plan rfl) rfl w0 rfl rfl ?_)))))))))))
        refine T.bool (b := (decide (r9.2 = 0))) (fun hb3 => ?_) (fun hb3 => ?_)
        ·replace hk5 := inv_posB hb3 hk5
         refine T.move (.plan rfl) rfl (wants1 rfl rfl rfl hb3) rfl rfl (T.move (.plan rfl) rfl (wants1 rfl rfl rfl hb3) rfl rfl (T.move (.plan rfl) rfl (wants1 rfl rfl rfl hb3) rfl rfl ?_))
         obtain ⟨hc13, hk5⟩ := inv_chk hk5
         refine T.cut0 (.plan rfl) 4 rfl rfl rfl (wants1 rfl rfl rfl hb3) rfl rfl (.inl rfl) (.inr ⟨_, _, rfl, rfl⟩) hc13.1 hc13.2 (T.strBf (.plan rfl) 1 rfl rfl (wants1 rfl rfl rfl hb3) rfl rfl rfl (T.strRo (.plan rfl) 0 rfl rfl (wants1 rfl rfl rfl hb3) rfl rfl rfl (T.strEq (.plan rfl) rfl (wants1 rfl rfl rfl hb3) rfl (l := r9.1) (l' := (subl r3.1 0 (Int.tmod (bitsOf .and .i64 a2 65535) (((((([] : List UInt8)) ++ r3.1)).length : Int))))) rfl rfl (T.pickT (.plan rfl) rfl w0 rfl rfl hb3 rfl (T.assign (.plan rfl) rfl w0 rfl rfl (T.planEnd (T.then_normal (T.ret (T.then_ret ?_)))))))))
         obtain rfl := inv_some hk5
         refine T.pick [] 6 rfl rfl nla rfl ?_
         refine T.ret1 rfl rfl (fun w hS => ⟨(), rfl, hS⟩)
        ·replace hk5 := inv_negB hb3 hk5
         refine T.leave (.plan rfl) (wantsNot rfl rfl rfl hb3) rfl (T.leave (.plan rfl) (wantsNot rfl rfl rfl hb3) rfl (T.leave (.plan rfl) (wantsNot rfl rfl rfl hb3) rfl (T.leave (.plan rfl) (wantsNot rfl rfl rfl hb3) rfl (T.leave (.plan rfl) (wantsNot rfl rfl rfl hb3) rfl (T.leave (.plan rfl) (wantsNot rfl rfl rfl hb3) rfl (T.leave (.plan rfl) (wantsNot rfl rfl rfl hb3) rfl (T.pickF (.plan rfl) rfl w0 rfl rfl hb3 rfl (T.assign (.plan rfl) rfl w0 rfl rfl (T.planEnd (T.then_normal (T.ret ?_)))))))))))
         refine T.then_ret ?_
         obtain rfl := inv_some hk5
         refine T.pick [] 5 rfl rfl nla rfl ?_
         refine T.ret1 rfl rfl (fun w hS => ⟨(), rfl, hS⟩)
       ·replace hk5 := inv_negB hb2 hk5
        refine T.skip (T.then_normal (T.seq (T.region ?_)))
        obtain ⟨r10, hg10, hk5⟩ := inv_bind hk5
        refine T.call .list w0 rfl (run_callF (vs := []) rfl Tryd.func8 rfl (by decide) rfl) (fun w hS => law17_told.c hB hS  hg10) (fun x15 => ?_)
        refine T.asg rfl rfl rfl rfl (T.nil (T.then_normal (T.ret ?_)))
        obtain rfl := inv_some hk5
        refine T.pick [] 1 rfl rfl nla rfl ?_
        refine T.ret1 rfl rfl (fun w hS => ⟨(), rfl, hS⟩)
      ·refine T.seq (T.region (T.mv rfl rfl rfl rfl (T.bin .list rfl w0 rfl rfl rfl rfl (T.nil (T.then_normal ?_)))))
       refine T.cond rfl (fun hb4 => ?_) (fun hb4 => ?_)
       ·replace hk4 := inv_posB hb4 hk4
        refine T.seq (T.region (T.loadN .list 0 rfl rfl w0 rfl rfl (vs := [.int .i64 r7.1.1, .int .i64 r7.1.2.1, .slice x11.1 r7.1.2.2.length x11.2]) rfl rfl ?_))
        obtain ⟨r11, hg11, hk4⟩ := inv_bind hk4
        refine T.call .list w0 rfl (run_callF (vs := [_]) rfl Tryd.func6 rfl (by decide) rfl) (fun w hS => entry_EncodeReply.c hB hS (i0a := 1) (a0 := r7.1) rfl hg11) (fun x16 => ?_)
        refine T.mv rfl rfl rfl rfl (T.extract .list rfl w0 rfl rfl rfl (T.extract .list rfl w0 rfl rfl rfl (T.asg rfl rfl rfl rfl (T.asg rfl rfl rfl rfl (T.nil (T.then_normal ?_))))))
        refine T.seqJ (fun (s6 : Bool) (x17 : Unit) => [(13, .slice x4.1 r3.1.length x4.2), (16, .int .i64 (Int.tmod (bitsOf .and .i64 a2 65535) (((((([] : List UInt8)) ++ r3.1)).length : Int)))), (27, .int .i64 r6.2), (173, .bool s6)]) (fun s6 x17 => Ro E8 x4.1 x4.2 r3.1 :: hs) (fun s6 => law17_EntryForth.k6 r6 a2 r3 s6 = some r) (fun s6 x17 hk6 => ?_) (fun J6 => ?_)
        ·unfold law17_EntryForth.k6 at hk6
         refine T.cond rfl (fun hb5 => ?_) (fun hb5 => ?_)
         ·replace hk6 := inv_posB hb5 hk6
          refine T.seq (T.region (T.asg rfl rfl rfl rfl (T.nil (T.then_normal (T.ret (T.then_ret ?_))))))
          obtain rfl := inv_some hk6
          refine T.pick [] 1 rfl rfl nla rfl ?_
          refine T.ret1 rfl rfl (fun w hS => ⟨(), rfl, hS⟩)
         ·replace hk6 := inv_negB hb5 hk6
          refine T.skip (T.then_normal ?_)
          exact T.le (EnvLe.cons rfl (EnvLe.cons rfl (EnvLe.cons rfl EnvLe.nil))) (T.pick [0] 1 rfl rfl nla rfl (J5 () () hk6))
        ·refine T.region (T.mv rfl rfl rfl rfl (T.bin .list rfl w0 rfl rfl rfl rfl (T.mv rfl rfl rfl rfl ?_)))
         refine T.bool (b := (decide (r11.2 = 0))) (fun hb6 => ?_) (fun hb6 => ?_)
         ·replace hk4 := inv_posB hb6 hk4
          refine T.move .list rfl (wants1 rfl rfl rfl (not_t hb6)) rfl rfl (T.strBf .list 0 rfl rfl (wants1 rfl rfl rfl (not_t hb6)) rfl rfl rfl (T.move .list rfl (wants1 rfl rfl rfl (not_t hb6)) rfl rfl (T.strRo .list 6 rfl rfl (wants1 rfl rfl rfl (not_t hb6)) rfl rfl rfl (T.strNe .list rfl (wants1 rfl rfl rfl (not_t hb6)) rfl (l := r11.1) (l' := l0) rfl rfl (T.pickF .list rfl w0 rfl rfl (not_t hb6) rfl (T.nil (T.then_normal ?_)))))))
          exact T.le (EnvLe.cons rfl (EnvLe.cons rfl (EnvLe.cons rfl (EnvLe.cons rfl EnvLe.nil)))) (T.pick [7] 8 rfl rfl nla rfl (J6 (!(decide (r11.1 = l0))) () hk4))
         ·replace hk4 := inv_negB hb6 hk4
          refine T.leave .list (wantsNot rfl rfl rfl (not_f hb6)) rfl (T.leave .list (wantsNot rfl rfl rfl (not_f hb6)) rfl (T.leave .list (wantsNot rfl rfl rfl (not_f hb6)) rfl (T.leave .list (wantsNot rfl rfl rfl (not_f hb6)) rfl (T.leave .list (wantsNot rfl rfl rfl (not_f hb6)) rfl (T.pickT .list rfl w0 rfl rfl (not_f hb6) rfl (T.nil (T.then_normal ?_)))))))
          exact T.le (EnvLe.cons rfl (EnvLe.cons rfl (EnvLe.cons rfl (EnvLe.cons rfl EnvLe.nil)))) (T.pick [7] 8 rfl rfl nla rfl (J6 true () hk4))
       ·replace hk4 := inv_negB hb4 hk4
        refine T.skip (T.then_normal ?_)
        exact T.le (EnvLe.cons rfl (EnvLe.cons rfl (EnvLe.cons rfl EnvLe.nil))) (T.pick [6] 7 rfl rfl nla rfl (J5 () () hk4))
     ·refine T.seq (T.region (T.mv rfl rfl rfl rfl (T.freeze 3 rfl rfl rfl ?_)))
      obtain ⟨r12, hg12, hk3⟩ := inv_bind hk3
      refine T.call .list w0 rfl (run_callF (vs := [_]) rfl Tryd.func11 rfl (by decide) rfl) (fun w hS => entry_Decode.c hB hS (i0 := 3) rfl hg12) (fun x18 => ?_)
      refine T.mv rfl rfl rfl rfl (T.extract .list rfl w0 rfl rfl rfl (T.extract .list rfl w0 rfl rfl rfl ?_))
      refine T.allocS .list rfl w0 rfl (cs := [.int .i64 0, .int .i64 0, .slice none 0 0, .int .i64 0]) rfl (fun b8 => ?_)
      refine T.store .list 0 rfl rfl w0 rfl rfl rfl rfl (Nat.le_of_ble_eq_true rfl) rfl (cs' := [.int .i64 r12.1.1, .int .i64 r12.1.2.1, .slice x18.1 r12.1.2.2.1.length x18.2, .int .i64 r12.1.2.2.2]) rfl rfl (T.asg rfl rfl rfl rfl (T.nil (T.then_normal (T.seq (T.region (T.mv rfl rfl rfl rfl (T.bin .list rfl w0 rfl rfl rfl rfl (T.nil (T.then_normal ?_)))))))))
      refine T.cond rfl (fun hb7 => ?_) (fun hb7 => ?_)
      ·replace hk3 := inv_posB hb7 hk3
       refine T.seq (T.region (T.loadN .list 0 rfl rfl w0 rfl rfl (vs := [.int .i64 r12.1.1, .int .i64 r12.1.2.1, .slice x18.1 r12.1.2.2.1.length x18.2, .int .i64 r12.1.2.2.2]) rfl rfl ?_))
       obtain ⟨r13, hg13, hk3⟩ := inv_bind hk3
       refine T.call .list w0 rfl (run_callF (vs := [_]) rfl Tryd.func12 rfl (by decide) rfl) (fun w hS => entry_Encode.c hB hS (i0a := 1) (a0 := r12.1) rfl hg13) (fun x19 => ?_)
       refine T.mv rfl rfl rfl rfl (T.extract .list rfl w0 rfl rfl rfl (T.extract .list rfl w0 rfl rfl rfl (T.asg rfl rfl rfl rfl (T.asg rfl rfl rfl rfl (T.nil (T.then_normal ?_))))))
       refine T.seqJ (fun (s7 : Bool) (x20 : Unit) => [(0, .slice A0 l0.length c0), (13, .slice x4.1 r3.1.length x4.2), (16, .int .i64 (Int.tmod (bitsOf .and .i64 a2 65535) (((((([] : List UInt8)) ++ r3.1)).length : Int)))), (145, .bool s7)]) (fun s7 x20 => Ro E8 A0 c0 l0 :: Ro E8 x4.1 x4.2 r3.1 :: hs) (fun s7 => law17_EntryForth.k7 a2 r3 l0 s7 = some r) (fun s7 x20 hk7 => ?_) (fun J7 => ?_)
       ·unfold law17_EntryForth.k7 at hk7
        refine T.cond rfl (fun hb8 => ?_) (fun hb8 => ?_)
        ·replace hk7 := inv_posB hb8 hk7
         refine T.seq (T.region (T.asg rfl rfl rfl rfl (T.nil (T.then_normal (T.ret (T.then_ret ?_))))))
         obtain rfl := inv_some hk7
         refine T.pick [] 2 rfl rfl nla rfl ?_
         refine T.ret1 rfl rfl (fun w hS => ⟨(), rfl, hS⟩)
        ·replace hk7 := inv_negB hb8 hk7
         refine T.skip (T.then_normal ?_)
         exact T.le (EnvLe.cons rfl (EnvLe.cons rfl (EnvLe.cons rfl EnvLe.nil))) (T.pick [0, 1] 2 rfl rfl nla rfl (J4 () () hk7))
       ·refine T.region (T.mv rfl rfl rfl rfl (T.bin .list rfl w0 rfl rfl rfl rfl (T.mv rfl rfl rfl rfl ?_)))
        refine T.bool (b := (decide (r13.2 = 0))) (fun hb9 => ?_) (fun hb9 => ?_)
        ·replace hk3 := inv_posB hb9 hk3
         refine T.move .list rfl (wants1 rfl rfl rfl (not_t hb9)) rfl rfl (T.strBf .list 0 rfl rfl (wants1 rfl rfl rfl (not_t hb9)) rfl rfl rfl (T.move .list rfl (wants1 rfl rfl rfl (not_t hb9)) rfl rfl (T.strRo .list 6 rfl rfl (wants1 rfl rfl rfl (not_t hb9)) rfl rfl rfl (T.strNe .list rfl (wants1 rfl rfl rfl (not_t hb9)) rfl (l := r13.1) (l' := (((((((([] : List UInt8)) ++ (subl r3.1 0 (Int.tmod (bitsOf .and .i64 a2 65535) (((((([] : List UInt8)) ++ r3.1)).length : Int)))))) ++ (([(u8 a3)] : List UInt8)))) ++ (subl r3.1 (Int.tmod (bitsOf .and .i64 a2 65535) (((((([] : List UInt8)) ++ r3.1)).length : Int))) ((r3.1.length : Int)))))) rfl rfl (T.pickF .list rfl w0 rfl rfl (not_t hb9) rfl (T.nil (T.then_normal ?_)))))))
         exact T.le (EnvLe.cons rfl (EnvLe.cons rfl (EnvLe.cons rfl (EnvLe.cons rfl EnvLe.nil)))) (T.pick [7, 8] 9 rfl rfl nla rfl (J7 (!(decide (r13.1 = (((((((([] : List UInt8)) ++ (subl r3.1 0 (Int.tmod (bitsOf .and .i64 a2 65535) (((((([] : List UInt8)) ++ r3.1)).length : Int)))))) ++ (([(u8 a3)] : List UInt8)))) ++ (subl r3.1 (Int.tmod (bitsOf .and .i64 a2 65535) (((((([] : List UInt8)) ++ r3.1)).length : Int))) ((r3.1.length : Int)))))))) () hk3))
        ·replace hk3 := inv_negB hb9 hk3
         refine T.leave .list (wantsNot rfl rfl rfl (not_f hb9)) rfl (T.leave .list (wantsNot rfl rfl rfl (not_f hb9)) rfl (T.leave .list (wantsNot rfl rfl rfl (not_f hb9)) rfl (T.leave .list (wantsNot rfl rfl rfl (not_f hb9)) rfl (T.leave .list (wantsNot rfl rfl rfl (not_f hb9)) rfl (T.pickT .list rfl w0 rfl rfl (not_f hb9) rfl (T.nil (T.then_normal ?_)))))))
         exact T.le (EnvLe.cons rfl (EnvLe.cons rfl (EnvLe.cons rfl (EnvLe.cons rfl EnvLe.nil)))) (T.pick [7, 8] 9 rfl rfl nla rfl (J7 true () hk3))
      ·replace hk3 := inv_negB hb7 hk3
       refine T.skip (T.then_normal ?_)
       exact T.le (EnvLe.cons rfl (EnvLe.cons rfl (EnvLe.cons rfl EnvLe.nil))) (T.pick [6, 7] 8 rfl rfl nla rfl (J4 () () hk3))
    ·refine T.seq (T.region (T.mv rfl rfl rfl rfl (T.bin .list rfl w0 rfl rfl rfl rfl (T.nil (T.then_normal ?_)))))
     refine T.cond rfl (fun hb10 => ?_) (fun hb10 => ?_)
     ·replace hk2 := inv_posB hb10 hk2
      refine T.seq (T.region (T.loadN .list 0 rfl rfl w0 rfl rfl (vs := [.int .i64 r5.1.1, .int .i64 r5.1.2.1, .slice x7.1 r5.1.2.2.1.length x7.2, .int .i64 r5.1.2.2.2]) rfl rfl ?_))
      obtain ⟨r14, hg14, hk2⟩ := inv_bind hk2
      refine T.call .list w0 rfl (run_callF (vs := [_]) rfl Tryd.func12 rfl (by decide) rfl) (fun w hS => entry_Encode.c hB hS (i0a := 1) (a0 := r5.1) rfl hg14) (fun x21 => ?_)
      refine T.mv rfl rfl rfl rfl (T.extract .list rfl w0 rfl rfl rfl (T.extract .list rfl w0 rfl rfl rfl (T.asg rfl rfl rfl rfl (T.asg rfl rfl rfl rfl (T.nil (T.then_normal ?_))))))
      refine T.seqJ (fun (s8 : Bool) (x22 : Unit) => [(0, .slice A0 l0.length c0), (3, .int .u8 a3), (13, .slice x4.1 r3.1.length x4.2), (16, .int .i64 (Int.tmod (bitsOf .and .i64 a2 65535) (((((([] : List UInt8)) ++ r3.1)).length : Int)))), (110, .bool s8)]) (fun s8 x22 => Ro E8 A0 c0 l0 :: Bf E8 5 x4.1 x4.2 r3.1 :: hs) (fun s8 => law17_EntryForth.k8 a2 r3 a3 l0 s8 = some r) (fun s8 x22 hk8 => ?_) (fun J8 => ?_)
      ·unfold law17_EntryForth.k8 at hk8
       refine T.cond rfl (fun hb11 => ?_) (fun hb11 => ?_)
       ·replace hk8 := inv_posB hb11 hk8
        refine T.seq (T.region (T.asg rfl rfl rfl rfl (T.nil (T.then_normal (T.ret (T.then_ret ?_))))))
        obtain rfl := inv_some hk8
        refine T.pick [] 2 rfl rfl nla rfl ?_
        refine T.ret1 rfl rfl (fun w hS => ⟨(), rfl, hS⟩)
       ·replace hk8 := inv_negB hb11 hk8
        refine T.skip (T.then_normal ?_)
        exact T.le (EnvLe.cons rfl (EnvLe.cons rfl (EnvLe.cons rfl (EnvLe.cons rfl EnvLe.nil)))) (T.pick [0, 1] 2 rfl rfl nla rfl (J3 () () hk8))
      ·refine T.region (T.mv rfl rfl rfl rfl (T.bin .list rfl w0 rfl rfl rfl rfl (T.mv rfl rfl rfl rfl ?_)))
       refine T.bool (b := (decide (r14.2 = 0))) (fun hb12 => ?_) (fun hb12 => ?_)
       ·replace hk2 := inv_posB hb12 hk2
        refine T.move .list rfl (wants1 rfl rfl rfl (not_t hb12)) rfl rfl (T.strBf .list 0 rfl rfl (wants1 rfl rfl rfl (not_t hb12)) rfl rfl rfl (T.move .list rfl (wants1 rfl rfl rfl (not_t hb12)) rfl rfl (T.env1 107 rfl (slc (n' := (((((([] : List UInt8)) ++ r3.1)).set (Int.tmod (bitsOf .and .i64 a2 65535) (((((([] : List UInt8)) ++ r3.1)).length : Int)) : Int).toNat (u8 a3))).length) (by simp only [List.length_set])) (T.strRo .list 3 rfl rfl (wants1 rfl rfl rfl (not_t hb12)) rfl rfl rfl (T.strNe .list rfl (wants1 rfl rfl rfl (not_t hb12)) rfl (l := r14.1) (l' := (((((([] : List UInt8)) ++ r3.1)).set (Int.tmod (bitsOf .and .i64 a2 65535) (((((([] : List UInt8)) ++ r3.1)).length : Int)) : Int).toNat (u8 a3)))) rfl rfl (T.pickF .list rfl w0 rfl rfl (not_t hb12) rfl (T.nil (T.then_normal ?_))))))))
        exact T.le (EnvLe.cons rfl (EnvLe.cons rfl (EnvLe.cons rfl (EnvLe.cons rfl (EnvLe.cons rfl EnvLe.nil))))) (T.pick [4, 5] 6 rfl rfl nla rfl (J8 (!(decide (r14.1 = (((((([] : List UInt8)) ++ r3.1)).set (Int.tmod (bitsOf .and .i64 a2 65535) (((((([] : List UInt8)) ++ r3.1)).length : Int)) : Int).toNat (u8 a3)))))) () hk2))
       ·replace hk2 := inv_negB hb12 hk2
        refine T.leave .list (wantsNot rfl rfl rfl (not_f hb12)) rfl (T.leave .list (wantsNot rfl rfl rfl (not_f hb12)) rfl (T.leave .list (wantsNot rfl rfl rfl (not_f hb12)) rfl (T.leave .list (wantsNot rfl rfl rfl (not_f hb12)) rfl (T.leave .list (wantsNot rfl rfl rfl (not_f hb12)) rfl (T.pickT .list rfl w0 rfl rfl (not_f hb12) rfl (T.nil (T.then_normal ?_)))))))
        exact T.le (EnvLe.cons rfl (EnvLe.cons rfl (EnvLe.cons rfl (EnvLe.cons rfl (EnvLe.cons rfl EnvLe.nil))))) (T.pick [4, 5] 6 rfl rfl nla rfl (J8 true () hk2))
     ·replace hk2 := inv_negB hb10 hk2
      refine T.skip (T.then_normal ?_)
      exact T.le (EnvLe.cons rfl (EnvLe.cons rfl (EnvLe.cons rfl (EnvLe.cons rfl EnvLe.nil)))) (T.pick [3, 4] 5 rfl rfl nla rfl (J3 () () hk2))
  ·refine T.region (T.mv rfl rfl rfl rfl (T.bin .list rfl w0 rfl rfl rfl rfl (T.mv rfl rfl rfl rfl ?_)))
   refine T.bool (b := (decide (r3.2 = 0))) (fun hb13 => ?_) (fun hb13 => ?_)
   ·replace hk1 := inv_posB hb13 hk1
    refine T.move .list rfl (wants1 rfl rfl rfl (not_t hb13)) rfl rfl (T.lenSlice .list rfl (wants1 rfl rfl rfl (not_t hb13)) rfl rfl (T.bin .list rfl (wants1 rfl rfl rfl (not_t hb13)) rfl rfl rfl rfl (T.pickF .list rfl w0 rfl rfl (not_t hb13) rfl (T.nil (T.then_normal ?_)))))
    exact T.le (EnvLe.cons rfl (EnvLe.cons rfl (EnvLe.cons rfl (EnvLe.cons rfl (EnvLe.cons rfl EnvLe.nil))))) (T.pick [2, 0] 5 rfl rfl nla rfl (J2 (decide ((((r3.1.length : Int))) = 0)) () hk1))
   ·replace hk1 := inv_negB hb13 hk1
    refine T.leave .list (wantsNot rfl rfl rfl (not_f hb13)) rfl (T.leave .list (wantsNot rfl rfl rfl (not_f hb13)) rfl (T.leave .list (wantsNot rfl rfl rfl (not_f hb13)) rfl (T.pickT .list rfl w0 rfl rfl (not_f hb13) rfl (T.nil (T.then_normal ?_)))))
    exact T.le (EnvLe.cons rfl (EnvLe.cons rfl (EnvLe.cons rfl (EnvLe.cons rfl (EnvLe.cons rfl EnvLe.nil))))) (T.pick [2, 0] 5 rfl rfl nla rfl (J2 true () hk1))
 ·refine T.seq (T.region (T.mv rfl rfl rfl rfl (T.bin .list rfl w0 rfl rfl rfl rfl (T.nil (T.then_normal ?_)))))
  refine T.cond rfl (fun hb14 => ?_) (fun hb14 => ?_)
  ·replace hr := inv_posB hb14 hr
   refine T.seq (T.region (T.loadN .list 0 rfl rfl w0 rfl rfl (vs := [.int .i64 r1.1.1, .int .i64 r1.1.2.1, .slice x1.1 r1.1.2.2.1.length x1.2, .int .i64 r1.1.2.2.2]) rfl rfl ?_))
   obtain ⟨r15, hg15, hr⟩ := inv_bind hr
   refine T.call .list w0 rfl (run_callF (vs := [_]) rfl Tryd.func12 rfl (by decide) rfl) (fun w hS => entry_Encode.c hB hS (i0a := 1) (a0 := r1.1) rfl hg15) (fun x23 => ?_)
   refine T.mv rfl rfl rfl rfl (T.extract .list rfl w0 rfl rfl rfl (T.extract .list rfl w0 rfl rfl rfl (T.asg rfl rfl rfl rfl (T.asg rfl rfl rfl rfl (T.nil (T.then_normal ?_))))))
   refine T.seqJ (fun (s9 : Bool) (x24 : Unit) => [(0, .slice A0 l0.length c0), (2, .int .i64 a2), (3, .int .u8 a3), (5, .pointer (some ⟨b1, 0, none⟩)), (61, .bool s9)]) (fun s9 x24 => Ro E8 A0 c0 l0 :: Cl b1 36 [.int .i64 a1.1, .int .i64 a1.2.1, .slice A1a a1.2.2.1.length c1a, .int .i64 a1.2.2.2] :: Ro (Elt.pair E64 (Elt.pair E64 (Elt.slice (Elt.pair E64 (Elt.pair EStr (Elt.pair (Elt.pair EStr (Elt.pair (Elt.slice (Elt.pair EStr (Elt.pair E64 E64))) (Elt.slice (Elt.pair E64 EBool)))) (Elt.pair (Elt.slice (Elt.pair E64 (Elt.pair E64 EStr))) (Elt.pair (Elt.pair E64 (Elt.pair E64 EStr)) (Elt.pair E64 (Elt.pair (Elt.pair E64 (Elt.pair E64 EStr)) (Elt.pair (Elt.pair E64 (Elt.pair E64 EStr)) E64))))))))))) A1a c1a a1.2.2.1 :: hs) (fun s9 => law17_EntryForth.k9 a1 a2 a3 l0 s9 = some r) (fun s9 x24 hk9 => ?_) (fun J9 => ?_)
   ·unfold law17_EntryForth.k9 at hk9
    refine T.cond rfl (fun hb15 => ?_) (fun hb15 => ?_)
    ·replace hk9 := inv_posB hb15 hk9
     refine T.seq (T.region (T.asg rfl rfl rfl rfl (T.nil (T.then_normal (T.ret (T.then_ret ?_))))))
     obtain rfl := inv_some hk9
     refine T.pick [] 3 rfl rfl nla rfl ?_
     refine T.ret1 rfl rfl (fun w hS => ⟨(), rfl, hS⟩)
    ·replace hk9 := inv_negB hb15 hk9
     refine T.skip (T.then_normal ?_)
     exact T.le (EnvLe.cons rfl (EnvLe.cons rfl (EnvLe.cons rfl (EnvLe.cons rfl EnvLe.nil)))) (T.pick [0, 1, 2] 3 rfl rfl nla rfl (J1 () () hk9))
   ·refine T.region (T.mv rfl rfl rfl rfl (T.bin .list rfl w0 rfl rfl rfl rfl (T.mv rfl rfl rfl rfl ?_)))
    refine T.bool (b := (decide (r15.2 = 0))) (fun hb16 => ?_) (fun hb16 => ?_)
    ·replace hr := inv_posB hb16 hr
     refine T.move .list rfl (wants1 rfl rfl rfl (not_t hb16)) rfl rfl (T.strBf .list 0 rfl rfl (wants1 rfl rfl rfl (not_t hb16)) rfl rfl rfl (T.move .list rfl (wants1 rfl rfl rfl (not_t hb16)) rfl rfl (T.strRo .list 5 rfl rfl (wants1 rfl rfl rfl (not_t hb16)) rfl rfl rfl (T.strNe .list rfl (wants1 rfl rfl rfl (not_t hb16)) rfl (l := r15.1) (l' := l0) rfl rfl (T.pickF .list rfl w0 rfl rfl (not_t hb16) rfl (T.mv rfl rfl rfl rfl ?_))))))
     refine T.bool (b := (decide (r15.1 = l0))) (fun hb17 => ?_) (fun hb17 => ?_)
     ·replace hr := inv_posB hb17 hr
      refine T.loadN .list 1 rfl rfl (wants1 rfl rfl rfl (not_t hb17)) rfl rfl (vs := [.int .i64 r1.1.1, .int .i64 r1.1.2.1, .slice x1.1 r1.1.2.2.1.length x1.2, .int .i64 r1.1.2.2.2]) rfl rfl ?_
      obtain ⟨r16, hg16, hr⟩ := inv_bind hr
      refine T.call .list (wants1 rfl rfl rfl (not_t hb17)) rfl (run_callF (vs := [_]) rfl Tryd.func13 rfl (by decide) rfl) (fun w hS => entry_Right.c hB hS (i0a := 2) (a0 := r1.1) rfl hg16) (fun x25 => ?_)
      refine T.not .list rfl (wants1 rfl rfl rfl (not_t hb17)) rfl rfl (T.pickF .list rfl w0 rfl rfl (not_t hb17) rfl (T.nil (T.then_normal ?_)))
      exact T.le (EnvLe.cons rfl (EnvLe.cons rfl (EnvLe.cons rfl (EnvLe.cons rfl (EnvLe.cons rfl EnvLe.nil))))) (T.pick [5, 3, 4] 6 rfl rfl nla rfl (J9 (!r16) () hr))
     ·replace hr := inv_negB hb17 hr
      refine T.leave .list (wantsNot rfl rfl rfl (not_f hb17)) rfl (T.leave .list (wantsNot rfl rfl rfl (not_f hb17)) rfl (T.leave .list (wantsNot rfl rfl rfl (not_f hb17)) rfl (T.pickT .list rfl w0 rfl rfl (not_f hb17) rfl (T.nil (T.then_normal ?_)))))
      exact T.le (EnvLe.cons rfl (EnvLe.cons rfl (EnvLe.cons rfl (EnvLe.cons rfl (EnvLe.cons rfl EnvLe.nil))))) (T.pick [5, 3, 4] 6 rfl rfl nla rfl (J9 true () hr))
    ·replace hr := inv_negB hb16 hr
     refine T.leave .list (wantsNot rfl rfl rfl (not_f hb16)) rfl (T.leave .list (wantsNot rfl rfl rfl (not_f hb16)) rfl (T.leave .list (wantsNot rfl rfl rfl (not_f hb16)) rfl (T.leave .list (wantsNot rfl rfl rfl (not_f hb16)) rfl (T.leave .list (wantsNot rfl rfl rfl (not_f hb16)) rfl (T.pickT .list rfl w0 rfl rfl (not_f hb16) rfl (T.mv rfl rfl rfl rfl (T.lv rfl rfl rfl rfl rfl (T.lv rfl rfl rfl rfl rfl (T.lv rfl rfl rfl rfl rfl (T.pickT .list rfl w0 rfl rfl rfl rfl (T.nil ?_)))))))))))
     refine T.then_normal ?_
     exact T.le (EnvLe.cons rfl (EnvLe.cons rfl (EnvLe.cons rfl (EnvLe.cons rfl (EnvLe.cons rfl EnvLe.nil))))) (T.pick [5, 3, 4] 6 rfl rfl nla rfl (J9 true () hr))
  ·replace hr := inv_negB hb14 hr
   refine T.seq (T.region (T.mv rfl rfl rfl rfl (T.bin .list rfl w0 rfl rfl rfl rfl (T.nil (T.then_normal ?_)))))
   refine T.cond rfl (fun hb18 => ?_) (fun hb18 => ?_)
   ·replace hr := inv_posB hb18 hr
    refine T.seq (T.region (T.asg rfl rfl rfl rfl (T.nil (T.then_normal (T.ret (T.then_ret ?_))))))
    obtain rfl := inv_some hr
    refine T.pick [] 5 rfl rfl nla rfl ?_
    refine T.ret1 rfl rfl (fun w hS => ⟨(), rfl, hS⟩)
   ·replace hr := inv_negB hb18 hr
    refine T.skip (T.then_normal ?_)
    exact T.le (EnvLe.cons rfl (EnvLe.cons rfl (EnvLe.cons rfl (EnvLe.cons rfl EnvLe.nil)))) (T.pick [4, 2, 3] 5 rfl rfl nla rfl (J1 () () hr))
end Go.Proofs.YtpogdeibkghhaaaDoor
