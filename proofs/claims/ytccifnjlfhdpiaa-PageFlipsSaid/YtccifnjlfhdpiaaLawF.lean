/- LawF: what the functions compute, and that the program computes it; printed by a program of ours. -/
import Derived.Test.YtccifnjlfhdpiaaLawT
set_option linter.unusedVariables false
set_option linter.unusedSimpArgs false
namespace Go.Proofs.Ytccifnjlfhdpiaa
open Go.RowKit
noncomputable def law4_PageFlips.k1 (s1 : Unit) : Option Bool :=
  some false
noncomputable def law4_PageFlips.k6 (r2p0 : (Int × Int × Int × Int) × (List (Int × Int))) (r3 : Int × Int × (List (Int × Int)) × (Int × Bool × Int × Int × Int × Int × Int) × (List (Int × (List UInt8))) × (List (Int × List UInt8))) (l0 : List UInt8) (s6 : (List (Int × (List UInt8))) × (List (Int × List UInt8)) × Int) : Option Bool :=
  (page_Store_Get.impl ((r2p0.1.1, r2p0.1.2.1, r2p0.1.2.2.1, r2p0.1.2.2.2)) r3.2.2.1 ((r3.2.2.2.1.1, r3.2.2.2.1.2.1, r3.2.2.2.1.2.2.1, r3.2.2.2.1.2.2.2.1, r3.2.2.2.1.2.2.2.2.1, r3.2.2.2.1.2.2.2.2.2.1, r3.2.2.2.1.2.2.2.2.2.2)) s6.1 s6.2.1 r3.1).bind fun r6 => (law4_told.impl ).bind fun r7 => (if r7 = true then (if ((decide (s6.2.2 = 0))) = true then (if ((decide (r6.2 = 0))) = true then (if ((decide (r6.1 = (subl l0 0 (min ((l0.length : Int)) 500))))) = true then some true else (if ((decide ((0 : Int) < s6.2.2))) = true then some (decide (r6.2 = 22)) else some false)) else (if ((decide ((0 : Int) < s6.2.2))) = true then some (decide (r6.2 = 22)) else some false)) else (if ((decide ((0 : Int) < s6.2.2))) = true then some (decide (r6.2 = 22)) else some false)) else some false)
noncomputable def law4_PageFlips.k8 (s7 : (List (Int × (List UInt8))) × (List (Int × List UInt8)) × Int × Int) (s9 : (List (Int × (List UInt8))) × (List (Int × List UInt8)) × Int) : Option (((List (Int × (List UInt8))) × (List (Int × List UInt8)) × Int × Int) ⊕ ((List (Int × (List UInt8))) × (List (Int × List UInt8)) × Int)) :=
  some (.inl (s9.1, s9.2.1, s9.2.2, IntKind.i64.wrap (s7.2.2.2 + 1)))
noncomputable def law4_PageFlips.k7 (a4 : Int) (s7 : (List (Int × (List UInt8))) × (List (Int × List UInt8)) × Int × Int) (r3 : Int × Int × (List (Int × Int)) × (Int × Bool × Int × Int × Int × Int × Int) × (List (Int × (List UInt8))) × (List (Int × List UInt8))) (a1 : Int) (l0 : List UInt8) (s8 : Bool) : Option (((List (Int × (List UInt8))) × (List (Int × List UInt8)) × Int × Int) ⊕ ((List (Int × (List UInt8))) × (List (Int × List UInt8)) × Int)) :=
  (if s8 = true then (if ((decide (((bitsOf .and .u32 (shrI .u32 a4 (IntKind.u64.wrap s7.2.2.2)) 1)) = 1))) = true then (disk_Disk_Flip.impl ((r3.2.2.2.1.1, r3.2.2.2.1.2.1, r3.2.2.2.1.2.2.1, r3.2.2.2.1.2.2.2.1, r3.2.2.2.1.2.2.2.2.1, r3.2.2.2.1.2.2.2.2.2.1, r3.2.2.2.1.2.2.2.2.2.2)) s7.1 s7.2.1 r3.1 (IntKind.i64.wrap ((IntKind.i64.wrap (32 + (Int.tmod (bitsOf .and .i64 a1 1099511627775) (IntKind.i64.wrap ((IntKind.i64.wrap (8 * (IntKind.i64.wrap ((((subl l0 0 (min ((l0.length : Int)) 500)).length : Int)) + 6)))) - 32))))) + s7.2.2.2))).bind fun r8 => law4_PageFlips.k8 s7 (r8.2.1, r8.2.2, IntKind.i64.wrap (s7.2.2.1 + 1)) else law4_PageFlips.k8 s7 (s7.1, s7.2.1, s7.2.2.1)) else some (.inr (s7.1, s7.2.1, s7.2.2.1)))
noncomputable def law4_PageFlips.st1 (a4 : Int) (r3 : Int × Int × (List (Int × Int)) × (Int × Bool × Int × Int × Int × Int × Int) × (List (Int × (List UInt8))) × (List (Int × List UInt8))) (a1 : Int) (l0 : List UInt8) (s7 : (List (Int × (List UInt8))) × (List (Int × List UInt8)) × Int × Int) : Option (((List (Int × (List UInt8))) × (List (Int × List UInt8)) × Int × Int) ⊕ ((List (Int × (List UInt8))) × (List (Int × List UInt8)) × Int)) :=
  (if ((decide (s7.2.2.2 < 32))) = true then law4_PageFlips.k7 a4 s7 r3 a1 l0 (decide (((IntKind.i64.wrap ((IntKind.i64.wrap (32 + (Int.tmod (bitsOf .and .i64 a1 1099511627775) (IntKind.i64.wrap ((IntKind.i64.wrap (8 * (IntKind.i64.wrap ((((subl l0 0 (min ((l0.length : Int)) 500)).length : Int)) + 6)))) - 32))))) + s7.2.2.2))) < 65536)) else law4_PageFlips.k7 a4 s7 r3 a1 l0 false)
noncomputable def law4_PageFlips.k5 (l0 : List UInt8) (a4 : Int) (r3 : Int × Int × (List (Int × Int)) × (Int × Bool × Int × Int × Int × Int × Int) × (List (Int × (List UInt8))) × (List (Int × List UInt8))) (a1 : Int) (s4 : (List (Int × (List UInt8))) × (List (Int × List UInt8))) (r2p0 : (Int × Int × Int × Int) × (List (Int × Int))) (s5 : Bool) : Option Bool :=
  (if s5 = true then some false else chk (¬ (IntKind.i64.wrap ((IntKind.i64.wrap (8 * (IntKind.i64.wrap ((((subl l0 0 (min ((l0.length : Int)) 500)).length : Int)) + 6)))) - 32)) = 0) ((loop (law4_PageFlips.st1 a4 r3 a1 l0) (s4.1, s4.2, 0, 0)).bind (fun e1 => law4_PageFlips.k6 r2p0 r3 l0 e1)))
noncomputable def law4_PageFlips.k4 (r2p0 : (Int × Int × Int × Int) × (List (Int × Int))) (r3 : Int × Int × (List (Int × Int)) × (Int × Bool × Int × Int × Int × Int × Int) × (List (Int × (List UInt8))) × (List (Int × List UInt8))) (l0 : List UInt8) (a4 : Int) (a1 : Int) (s4 : (List (Int × (List UInt8))) × (List (Int × List UInt8))) : Option Bool :=
  (page_Store_Get.impl ((r2p0.1.1, r2p0.1.2.1, r2p0.1.2.2.1, r2p0.1.2.2.2)) r3.2.2.1 ((r3.2.2.2.1.1, r3.2.2.2.1.2.1, r3.2.2.2.1.2.2.1, r3.2.2.2.1.2.2.2.1, r3.2.2.2.1.2.2.2.2.1, r3.2.2.2.1.2.2.2.2.2.1, r3.2.2.2.1.2.2.2.2.2.2)) s4.1 s4.2 r3.1).bind fun r5 => (if ((decide (r5.2 = 0))) = true then law4_PageFlips.k5 l0 a4 r3 a1 s4 r2p0 (!(decide (r5.1 = (subl l0 0 (min ((l0.length : Int)) 500))))) else law4_PageFlips.k5 l0 a4 r3 a1 s4 r2p0 true)
noncomputable def law4_PageFlips.st2 (s3 : (List (Int × (List UInt8))) × (List (Int × List UInt8)) × List Int) (r3 : Int × Int × (List (Int × Int)) × (Int × Bool × Int × Int × Int × Int × Int) × (List (Int × (List UInt8))) × (List (Int × List UInt8))) (s10 : (List (Int × (List UInt8))) × (List (Int × List UInt8)) × Int) : Option (((List (Int × (List UInt8))) × (List (Int × List UInt8)) × Int) ⊕ ((List (Int × (List UInt8))) × (List (Int × List UInt8)))) :=
  (if ((decide (s10.2.2 < 3))) = true then chk (0 ≤ s10.2.2 ∧ s10.2.2 < 3) (chk ((0 + (s10.2.2 : Int).toNat * 1) < s3.2.2.length) ((disk_Disk_Flip.impl ((r3.2.2.2.1.1, r3.2.2.2.1.2.1, r3.2.2.2.1.2.2.1, r3.2.2.2.1.2.2.2.1, r3.2.2.2.1.2.2.2.2.1, r3.2.2.2.1.2.2.2.2.2.1, r3.2.2.2.1.2.2.2.2.2.2)) s10.1 s10.2.1 r3.1 (((s3.2.2).getD ((0 + (s10.2.2 : Int).toNat * 1)) default))).bind fun r9 => some (.inl (r9.2.1, r9.2.2, IntKind.i64.wrap (s10.2.2 + 1))))) else some (.inr (s10.1, s10.2.1)))
noncomputable def law4_PageFlips.k3 (r2p0 : (Int × Int × Int × Int) × (List (Int × Int))) (r3 : Int × Int × (List (Int × Int)) × (Int × Bool × Int × Int × Int × Int × Int) × (List (Int × (List UInt8))) × (List (Int × List UInt8))) (l0 : List UInt8) (a4 : Int) (a1 : Int) (s3 : (List (Int × (List UInt8))) × (List (Int × List UInt8)) × List Int) : Option Bool :=
  (page_Store_Get.impl ((r2p0.1.1, r2p0.1.2.1, r2p0.1.2.2.1, r2p0.1.2.2.2)) r3.2.2.1 ((r3.2.2.2.1.1, r3.2.2.2.1.2.1, r3.2.2.2.1.2.2.1, r3.2.2.2.1.2.2.2.1, r3.2.2.2.1.2.2.2.2.1, r3.2.2.2.1.2.2.2.2.2.1, r3.2.2.2.1.2.2.2.2.2.2)) s3.1 s3.2.1 r3.1).bind fun r4 => (if ((!(decide (r4.2 = 22)))) = true then some false else (loop (law4_PageFlips.st2 s3 r3) (s3.1, s3.2.1, 0)).bind (fun e2 => law4_PageFlips.k4 r2p0 r3 l0 a4 a1 e2))
noncomputable def law4_PageFlips.k9 (s11 : (List (Int × (List UInt8))) × (List (Int × List UInt8)) × List Int × Int) (r3 : Int × Int × (List (Int × Int)) × (Int × Bool × Int × Int × Int × Int × Int) × (List (Int × (List UInt8))) × (List (Int × List UInt8))) (s12 : List Int) : Option (((List (Int × (List UInt8))) × (List (Int × List UInt8)) × List Int × Int) ⊕ ((List (Int × (List UInt8))) × (List (Int × List UInt8)) × List Int)) :=
  chk (0 ≤ s11.2.2.2 ∧ s11.2.2.2 < 3) (chk ((0 + (s11.2.2.2 : Int).toNat * 1) < s12.length) ((disk_Disk_Flip.impl ((r3.2.2.2.1.1, r3.2.2.2.1.2.1, r3.2.2.2.1.2.2.1, r3.2.2.2.1.2.2.2.1, r3.2.2.2.1.2.2.2.2.1, r3.2.2.2.1.2.2.2.2.2.1, r3.2.2.2.1.2.2.2.2.2.2)) s11.1 s11.2.1 r3.1 (((s12).getD ((0 + (s11.2.2.2 : Int).toNat * 1)) default))).bind fun r10 => some (.inl (r10.2.1, r10.2.2, s12, IntKind.i64.wrap (s11.2.2.2 + 1)))))
noncomputable def law4_PageFlips.st3 (a1 : Int) (l0 : List UInt8) (r3 : Int × Int × (List (Int × Int)) × (Int × Bool × Int × Int × Int × Int × Int) × (List (Int × (List UInt8))) × (List (Int × List UInt8))) (s11 : (List (Int × (List UInt8))) × (List (Int × List UInt8)) × List Int × Int) : Option (((List (Int × (List UInt8))) × (List (Int × List UInt8)) × List Int × Int) ⊕ ((List (Int × (List UInt8))) × (List (Int × List UInt8)) × List Int)) :=
  (if ((decide (s11.2.2.2 < 3))) = true then (if ((decide (((bitsOf .and .i64 a1 1)) = 1))) = true then chk (0 ≤ s11.2.2.2 ∧ s11.2.2.2 < 3) (chk ((0 + (s11.2.2.2 : Int).toNat * 1) < s11.2.2.1.length) (chk (¬ (IntKind.i64.wrap (8 * (IntKind.i64.wrap ((((subl l0 0 (min ((l0.length : Int)) 500)).length : Int)) + 6)))) = 0) (chk (0 ≤ s11.2.2.2 ∧ s11.2.2.2 < 3) (chk ((0 + (s11.2.2.2 : Int).toNat * 1) < s11.2.2.1.length) (law4_PageFlips.k9 s11 r3 ((s11.2.2.1).set ((0 + (s11.2.2.2 : Int).toNat * 1)) (Int.tmod (((s11.2.2.1).getD ((0 + (s11.2.2.2 : Int).toNat * 1)) default)) (IntKind.i64.wrap (8 * (IntKind.i64.wrap ((((subl l0 0 (min ((l0.length : Int)) 500)).length : Int)) + 6))))))))))) else law4_PageFlips.k9 s11 r3 s11.2.2.1) else some (.inr (s11.1, s11.2.1, s11.2.2.1)))
noncomputable def law4_PageFlips.k2 (r2p0 : (Int × Int × Int × Int) × (List (Int × Int))) (r1p0 : (Int × Bool × Int × Int × Int × Int × Int) × (List (Int × (List UInt8))) × (List (Int × (List UInt8)))) (l0 : List UInt8) (a1 : Int) (a2 : Int) (a3 : Int) (a4 : Int) (s2 : Bool) : Option Bool :=
  (if s2 = true then some false else (page_Store_Put.impl ((r2p0.1.1, r2p0.1.2.1, r2p0.1.2.2.1, r2p0.1.2.2.2)) r2p0.2 ((r1p0.1.1, r1p0.1.2.1, r1p0.1.2.2.1, r1p0.1.2.2.2.1, r1p0.1.2.2.2.2.1, r1p0.1.2.2.2.2.2.1, r1p0.1.2.2.2.2.2.2)) r1p0.2.1 r1p0.2.2 (subl l0 0 (min ((l0.length : Int)) 500))).bind fun r3 => (if ((!(decide (r3.2.1 = 0)))) = true then some false else chk (([bitsOf .and .i64 a1 65535, bitsOf .and .i64 a2 65535, bitsOf .and .i64 a3 65535]).length = 3 ∧ (List.replicate 3 (0 : Int)).length = 3) ((loop (law4_PageFlips.st3 a1 l0 r3) (r3.2.2.2.2.1, r3.2.2.2.2.2, ([bitsOf .and .i64 a1 65535, bitsOf .and .i64 a2 65535, bitsOf .and .i64 a3 65535] : List Int), 0)).bind (fun e3 => law4_PageFlips.k3 r2p0 r3 l0 a4 a1 e3))))
noncomputable def law4_PageFlips.impl (l0 : List UInt8) (a1 : Int) (a2 : Int) (a3 : Int) (a4 : Int) : Option Bool :=
  chk (0 ≤ (min ((l0.length : Int)) 500) ∧ (min ((l0.length : Int)) 500) ≤ (l0.length : Int)) ((disk_New.impl 4).bind fun r1 => (match r1 with | (none, r1p1) => (some false) | (some r1p0, r1p1) => ((page_Open.impl ((r1p0.1.1, r1p0.1.2.1, r1p0.1.2.2.1, r1p0.1.2.2.2.1, r1p0.1.2.2.2.2.1, r1p0.1.2.2.2.2.2.1, r1p0.1.2.2.2.2.2.2)) r1p0.2.1 r1p0.2.2).bind fun r2 => (match r2 with | (none, r2p1) => ((if ((decide (r2p1 = 0))) = true then law4_PageFlips.k1 () else law4_PageFlips.k1 ())) | (some r2p0, r2p1) => ((if ((decide (r2p1 = 0))) = true then law4_PageFlips.k2 r2p0 r1p0 l0 a1 a2 a3 a4 false else law4_PageFlips.k2 r2p0 r1p0 l0 a1 a2 a3 a4 true))))))
set_option maxRecDepth 100000 in
set_option maxHeartbeats 4000000 in
theorem law4_PageFlips.c {B : World} {hs : List MP} {w : World} {i0 c0 : Nat} {A0 : Option Addr} {l0 : List UInt8} {a1 : Int} {a2 : Int} {a3 : Int} {a4 : Int} (hS : St B (hs) w) (h0 : (hs)[i0]? = some (Ro E8 A0 c0 l0)) {r : Bool} (hr : law4_PageFlips.impl l0 a1 a2 a3 a4 = some r) :
    Calls Try.prog 4 #[.slice A0 l0.length c0, .int .i64 a1, .int .i64 a2, .int .i64 a3, .int .u32 a4] w fun e w' => ∃ x : Unit, e = .returned (.bool r) ∧ St B (hs) w' := by
 unfold law4_PageFlips.impl at hr
 refine calls_T Try.func4 rfl rfl rfl hS ?_
 refine T.front i0 h0 ?_
 refine T.seq ?_
 refine T.region ?_
 refine T.assign .list rfl (wants0 rfl) rfl rfl ?_
 refine T.nil ?_
 refine T.then_normal ?_
 refine T.seq ?_
 refine T.region ?_
 refine T.move .list rfl (wants0 rfl) rfl rfl ?_
 refine T.move .list rfl (wants0 rfl) rfl rfl ?_
 refine T.lenSlice .list rfl (wants0 rfl) rfl rfl ?_
 refine T.min2 .list rfl (wants0 rfl) rfl rfl rfl ?_
 obtain ⟨hc1, hr⟩ := inv_chk hr
 refine T.cut0 .list 0 rfl rfl rfl (wants0 rfl) rfl rfl (.inl rfl) (.inr ⟨_, _, rfl, rfl⟩) hc1.1 hc1.2 ?_
 refine T.assign .list rfl (wants0 rfl) rfl rfl ?_
 refine T.nil ?_
 refine T.then_normal ?_
 refine T.seq ?_
 refine T.region ?_
 obtain ⟨r1, hg1, hr⟩ := inv_bind hr
 rcases r1 with ⟨_ | r1p0, r1p1⟩
 ·dsimp only at hr
  refine T.call (v := fun (x1 : (Nat) × (Nat) × (Option Addr × Nat) × (Ads)) => .tuple #[.pointer none, .int .i64 r1p1]) (hs' := fun x1 => Ro E8 A0 c0 (subl l0 0 (min ((l0.length : Int)) 500)) :: Ro E8 A0 c0 l0 :: hs) .list (wants0 rfl) rfl (run_callF (vs := [_]) rfl Try.func7 rfl (by decide) rfl) (fun w hS => disk_New.c hS  hg1) (fun x1 => ?_)
  refine T.move .list rfl (wants0 rfl) rfl rfl ?_
  refine T.extract .list rfl (wants0 rfl) rfl rfl rfl ?_
  refine T.extract .list rfl (wants0 rfl) rfl rfl rfl ?_
  refine T.assign .list rfl (wants0 rfl) rfl rfl ?_
  refine T.assign .list rfl (wants0 rfl) rfl rfl ?_
  refine T.nil ?_
  refine T.then_normal ?_
  refine T.seq ?_
  refine T.seq ?_
  refine T.region ?_
  refine T.move .list rfl (wants0 rfl) rfl rfl ?_
  refine T.ptrEq (pt := 68) .list rfl (wants0 rfl) rfl rfl rfl (by kernel_rfl) (.inr rfl) rfl ?_
  refine T.nil ?_
  refine T.then_normal ?_
  refine T.condT rfl rfl ?_
  refine T.seq ?_
  refine T.region ?_
  refine T.assign .list rfl (wants0 rfl) rfl rfl ?_
  refine T.nil ?_
  refine T.then_normal ?_
  refine T.ret ?_
  refine T.then_ret ?_
  obtain rfl := inv_some hr
  refine T.pick [] 2 rfl rfl (Nat.le_add_left _ _) rfl ?_
  refine T.ret1 rfl rfl (fun w hS => ⟨(), rfl, hS⟩)
 ·dsimp only at hr
  refine T.call (v := fun (x2 : (Nat) × (Nat) × (Option Addr × Nat) × (Ads)) => .tuple #[.pointer (some ⟨x2.1, 0, none⟩), .int .i64 r1p1]) (hs' := fun x2 => Cl x2.1 68 [.int .i64 r1p0.1.1, .map (some x2.2.1), .slice x2.2.2.1.1 r1p0.2.2.length x2.2.2.1.2, .bool r1p0.1.2.1, .int .i64 r1p0.1.2.2.1, .int .i64 r1p0.1.2.2.2.1, .int .u64 r1p0.1.2.2.2.2.1, .int .i64 r1p0.1.2.2.2.2.2.1, .int .i64 r1p0.1.2.2.2.2.2.2] :: Mp (Elt.slice E8) x2.2.1 r1p0.2.1 :: Hb 82 x2.2.2.1.1 x2.2.2.1.2 x2.2.2.2 r1p0.2.2 :: Bb 5 x2.2.2.2 r1p0.2.2 :: Ro E8 A0 c0 (subl l0 0 (min ((l0.length : Int)) 500)) :: Ro E8 A0 c0 l0 :: hs) .list (wants0 rfl) rfl (run_callF (vs := [_]) rfl Try.func7 rfl (by decide) rfl) (fun w hS => disk_New.c hS  hg1) (fun x2 => ?_)
  refine T.move .list rfl (wants0 rfl) rfl rfl ?_
  refine T.extract .list rfl (wants0 rfl) rfl rfl rfl ?_
  refine T.extract .list rfl (wants0 rfl) rfl rfl rfl ?_
  refine T.assign .list rfl (wants0 rfl) rfl rfl ?_
  refine T.assign .list rfl (wants0 rfl) rfl rfl ?_
  refine T.nil ?_
  refine T.then_normal ?_
  refine T.seq ?_
  refine T.seq ?_
  refine T.region ?_
  refine T.move .list rfl (wants0 rfl) rfl rfl ?_
  refine T.ptrEq (pt := 68) .list rfl (wants0 rfl) rfl rfl rfl (by kernel_rfl) (.inr rfl) rfl ?_
  refine T.nil ?_
  refine T.then_normal ?_
  refine T.condF rfl rfl ?_
  refine T.skip ?_
  refine T.then_normal ?_
  refine T.seq ?_
  refine T.region ?_
  refine T.move .list rfl (wants0 rfl) rfl rfl ?_
  obtain ⟨r2, hg2, hr⟩ := inv_bind hr
  rcases r2 with ⟨_ | r2p0, r2p1⟩
  ·dsimp only at hr
   refine T.pick [0, 1, 2, 3, 4, 5] 6 rfl rfl (Nat.le_add_left _ _) (hs' := Cl x2.1 68 [.int .i64 r1p0.1.1, .map (some x2.2.1), .slice x2.2.2.1.1 r1p0.2.2.length x2.2.2.1.2, .bool r1p0.1.2.1, .int .i64 r1p0.1.2.2.1, .int .i64 r1p0.1.2.2.2.1, .int .u64 r1p0.1.2.2.2.2.1, .int .i64 r1p0.1.2.2.2.2.2.1, .int .i64 r1p0.1.2.2.2.2.2.2] :: Mp (Elt.slice E8) x2.2.1 r1p0.2.1 :: Hb 82 x2.2.2.1.1 x2.2.2.1.2 x2.2.2.2 r1p0.2.2 :: Bb 5 x2.2.2.2 r1p0.2.2 :: Ro E8 A0 c0 (subl l0 0 (min ((l0.length : Int)) 500)) :: Ro E8 A0 c0 l0 :: hs) rfl ?_
   refine T.call (v := fun (x3 : (Nat) × (Nat)) => .tuple #[.pointer none, .int .i64 r2p1]) (hs' := fun x3 => Cl x2.1 68 [.int .i64 r1p0.1.1, .map (some x2.2.1), .slice x2.2.2.1.1 r1p0.2.2.length x2.2.2.1.2, .bool r1p0.1.2.1, .int .i64 r1p0.1.2.2.1, .int .i64 r1p0.1.2.2.2.1, .int .u64 r1p0.1.2.2.2.2.1, .int .i64 r1p0.1.2.2.2.2.2.1, .int .i64 r1p0.1.2.2.2.2.2.2] :: Mp (Elt.slice E8) x2.2.1 r1p0.2.1 :: Hb 82 x2.2.2.1.1 x2.2.2.1.2 x2.2.2.2 r1p0.2.2 :: Bb 5 x2.2.2.2 r1p0.2.2 :: Ro E8 A0 c0 (subl l0 0 (min ((l0.length : Int)) 500)) :: Ro E8 A0 c0 l0 :: hs) .list (wants0 rfl) rfl (run_callF (vs := [_]) rfl Try.func8 rfl (by decide) rfl) (fun w hS => page_Open.c hS (o0 := (r1p0.1.1, r1p0.1.2.1, r1p0.1.2.2.1, r1p0.1.2.2.2.1, r1p0.1.2.2.2.2.1, r1p0.1.2.2.2.2.2.1, r1p0.1.2.2.2.2.2.2)) (q0b := r1p0.2.1) (q0c := r1p0.2.2)  hg2) (fun x3 => ?_)
   refine T.move .list rfl (wants0 rfl) rfl rfl ?_
   refine T.extract .list rfl (wants0 rfl) rfl rfl rfl ?_
   refine T.extract .list rfl (wants0 rfl) rfl rfl rfl ?_
   refine T.assign .list rfl (wants0 rfl) rfl rfl ?_
   refine T.assign .list rfl (wants0 rfl) rfl rfl ?_
   refine T.nil ?_
   refine T.then_normal ?_
   refine T.seq ?_
   refine T.seqJ (fun (s1 : Unit) (x4 : Unit) => [(0, .slice A0 ((subl l0 0 (min ((l0.length : Int)) 500)).length) c0), (1, .int .i64 a1), (2, .int .i64 a2), (3, .int .i64 a3), (4, .int .u32 a4), (11, .pointer (some ⟨x2.1, 0, none⟩)), (13, .pointer none), (49, .bool true)]) (fun s1 x4 => Ro E8 A0 c0 (subl l0 0 (min ((l0.length : Int)) 500)) :: Cl x2.1 68 [.int .i64 r1p0.1.1, .map (some x2.2.1), .slice x2.2.2.1.1 r1p0.2.2.length x2.2.2.1.2, .bool r1p0.1.2.1, .int .i64 r1p0.1.2.2.1, .int .i64 r1p0.1.2.2.2.1, .int .u64 r1p0.1.2.2.2.2.1, .int .i64 r1p0.1.2.2.2.2.2.1, .int .i64 r1p0.1.2.2.2.2.2.2] :: Mp (Elt.slice E8) x2.2.1 r1p0.2.1 :: Hb 82 x2.2.2.1.1 x2.2.2.1.2 x2.2.2.2 r1p0.2.2 :: Bb 5 x2.2.2.2 r1p0.2.2 :: hs) (fun s1 => law4_PageFlips.k1 s1 = some r) (fun s1 x4 hk1 => ?_) (fun J1 => ?_)
   ·unfold law4_PageFlips.k1 at hk1
    refine T.condT rfl rfl ?_
    refine T.seq ?_
    refine T.region ?_
    refine T.assign .list rfl (wants0 rfl) rfl rfl ?_
    refine T.nil ?_
    refine T.then_normal ?_
    refine T.ret ?_
    refine T.then_ret ?_
    obtain rfl := inv_some hk1
    refine T.pick [] 5 rfl rfl (Nat.le_add_left _ _) rfl ?_
    refine T.ret1 rfl rfl (fun w hS => ⟨(), rfl, hS⟩)
   ·refine T.region ?_
    refine T.move .list rfl (wants0 rfl) rfl rfl ?_
    refine T.bin .list rfl (wants0 rfl) rfl rfl rfl rfl ?_
    refine T.move .list rfl (wants0 rfl) rfl rfl ?_
    refine T.bool (b := (decide (r2p1 = 0))) (fun hb1 => ?_) (fun hb1 => ?_)
    ·replace hr := inv_posB hb1 hr
     refine T.move .list rfl (wants1 rfl rfl rfl (not_t hb1)) rfl rfl ?_
     refine T.ptrEq (pt := 45) .list rfl (wants1 rfl rfl rfl (not_t hb1)) rfl rfl rfl (by kernel_rfl) (.inr rfl) rfl ?_
     refine T.pickF .list rfl (wants0 rfl) rfl rfl (not_t hb1) rfl ?_
     refine T.nil ?_
     refine T.then_normal ?_
     exact T.le (EnvLe.cons rfl (EnvLe.cons rfl (EnvLe.cons rfl (EnvLe.cons rfl (EnvLe.cons rfl (EnvLe.cons rfl (EnvLe.cons rfl (EnvLe.cons rfl EnvLe.nil)))))))) (T.pick [4, 0, 1, 2, 3] 6 rfl rfl (Nat.le_add_left _ _) rfl (J1 () () hr))
    ·replace hr := inv_negB hb1 hr
     refine T.leave .list (wantsNot rfl rfl rfl (not_f hb1)) rfl ?_
     refine T.leave .list (wantsNot rfl rfl rfl (not_f hb1)) rfl ?_
     refine T.pickT .list rfl (wants0 rfl) rfl rfl (not_f hb1) rfl ?_
     refine T.nil ?_
     refine T.then_normal ?_
     exact T.le (EnvLe.cons rfl (EnvLe.cons rfl (EnvLe.cons rfl (EnvLe.cons rfl (EnvLe.cons rfl (EnvLe.cons rfl (EnvLe.cons rfl (EnvLe.cons rfl EnvLe.nil)))))))) (T.pick [4, 0, 1, 2, 3] 6 rfl rfl (Nat.le_add_left _ _) rfl (J1 () () hr))
  ·dsimp only at hr
   refine T.pick [0, 1, 2, 3, 4, 5] 6 rfl rfl (Nat.le_add_left _ _) (hs' := Cl x2.1 68 [.int .i64 r1p0.1.1, .map (some x2.2.1), .slice x2.2.2.1.1 r1p0.2.2.length x2.2.2.1.2, .bool r1p0.1.2.1, .int .i64 r1p0.1.2.2.1, .int .i64 r1p0.1.2.2.2.1, .int .u64 r1p0.1.2.2.2.2.1, .int .i64 r1p0.1.2.2.2.2.2.1, .int .i64 r1p0.1.2.2.2.2.2.2] :: Mp (Elt.slice E8) x2.2.1 r1p0.2.1 :: Hb 82 x2.2.2.1.1 x2.2.2.1.2 x2.2.2.2 r1p0.2.2 :: Bb 5 x2.2.2.2 r1p0.2.2 :: Ro E8 A0 c0 (subl l0 0 (min ((l0.length : Int)) 500)) :: Ro E8 A0 c0 l0 :: hs) rfl ?_
   refine T.call (v := fun (x5 : (Nat) × (Nat)) => .tuple #[.pointer (some ⟨x5.1, 0, none⟩), .int .i64 r2p1]) (hs' := fun x5 => Cl x2.1 68 [.int .i64 r1p0.1.1, .map (some x2.2.1), .slice x2.2.2.1.1 r1p0.2.2.length x2.2.2.1.2, .bool r1p0.1.2.1, .int .i64 r1p0.1.2.2.1, .int .i64 r1p0.1.2.2.2.1, .int .u64 r1p0.1.2.2.2.2.1, .int .i64 r1p0.1.2.2.2.2.2.1, .int .i64 r1p0.1.2.2.2.2.2.2] :: Mp (Elt.slice E8) x2.2.1 r1p0.2.1 :: Hb 82 x2.2.2.1.1 x2.2.2.1.2 x2.2.2.2 r1p0.2.2 :: Bb 5 x2.2.2.2 r1p0.2.2 :: Cl x5.1 45 [.int .i64 r2p0.1.1, .map (some x5.2), .pointer (some ⟨x2.1, 0, none⟩), .int .i64 r2p0.1.2.1, .int .u64 r2p0.1.2.2.1, .int .i64 r2p0.1.2.2.2] :: Mp E64 x5.2 r2p0.2 :: Ro E8 A0 c0 (subl l0 0 (min ((l0.length : Int)) 500)) :: Ro E8 A0 c0 l0 :: hs) .list (wants0 rfl) rfl (run_callF (vs := [_]) rfl Try.func8 rfl (by decide) rfl) (fun w hS => page_Open.c hS (o0 := (r1p0.1.1, r1p0.1.2.1, r1p0.1.2.2.1, r1p0.1.2.2.2.1, r1p0.1.2.2.2.2.1, r1p0.1.2.2.2.2.2.1, r1p0.1.2.2.2.2.2.2)) (q0b := r1p0.2.1) (q0c := r1p0.2.2)  hg2) (fun x5 => ?_)
   refine T.move .list rfl (wants0 rfl) rfl rfl ?_
   refine T.extract .list rfl (wants0 rfl) rfl rfl rfl ?_
   refine T.extract .list rfl (wants0 rfl) rfl rfl rfl ?_
   refine T.assign .list rfl (wants0 rfl) rfl rfl ?_
   refine T.assign .list rfl (wants0 rfl) rfl rfl ?_
   refine T.nil ?_
   refine T.then_normal ?_
   refine T.seq ?_
   refine T.seqJ (fun (s2 : Bool) (x6 : Unit) => [(0, .slice A0 ((subl l0 0 (min ((l0.length : Int)) 500)).length) c0), (1, .int .i64 a1), (2, .int .i64 a2), (3, .int .i64 a3), (4, .int .u32 a4), (11, .pointer (some ⟨x2.1, 0, none⟩)), (13, .pointer (some ⟨x5.1, 0, none⟩)), (49, .bool s2)]) (fun s2 x6 => Ro E8 A0 c0 (subl l0 0 (min ((l0.length : Int)) 500)) :: Cl x2.1 68 [.int .i64 r1p0.1.1, .map (some x2.2.1), .slice x2.2.2.1.1 r1p0.2.2.length x2.2.2.1.2, .bool r1p0.1.2.1, .int .i64 r1p0.1.2.2.1, .int .i64 r1p0.1.2.2.2.1, .int .u64 r1p0.1.2.2.2.2.1, .int .i64 r1p0.1.2.2.2.2.2.1, .int .i64 r1p0.1.2.2.2.2.2.2] :: Mp (Elt.slice E8) x2.2.1 r1p0.2.1 :: Hb 82 x2.2.2.1.1 x2.2.2.1.2 x2.2.2.2 r1p0.2.2 :: Bb 5 x2.2.2.2 r1p0.2.2 :: Cl x5.1 45 [.int .i64 r2p0.1.1, .map (some x5.2), .pointer (some ⟨x2.1, 0, none⟩), .int .i64 r2p0.1.2.1, .int .u64 r2p0.1.2.2.1, .int .i64 r2p0.1.2.2.2] :: Mp E64 x5.2 r2p0.2 :: hs) (fun s2 => law4_PageFlips.k2 r2p0 r1p0 l0 a1 a2 a3 a4 s2 = some r) (fun s2 x6 hk2 => ?_) (fun J2 => ?_)
   ·unfold law4_PageFlips.k2 at hk2
    refine T.cond rfl (fun hb2 => ?_) (fun hb2 => ?_)
    ·replace hk2 := inv_posB hb2 hk2
     refine T.seq ?_
     refine T.region ?_
     refine T.assign .list rfl (wants0 rfl) rfl rfl ?_
     refine T.nil ?_
     refine T.then_normal ?_
     refine T.ret ?_
     refine T.then_ret ?_
     obtain rfl := inv_some hk2
     refine T.pick [] 7 rfl rfl (Nat.le_add_left _ _) rfl ?_
     refine T.ret1 rfl rfl (fun w hS => ⟨(), rfl, hS⟩)
    ·replace hk2 := inv_negB hb2 hk2
     refine T.skip ?_
     refine T.then_normal ?_
     refine T.seq ?_
     refine T.region ?_
     refine T.move .list rfl (wants0 rfl) rfl rfl ?_
     refine T.move .list rfl (wants0 rfl) rfl rfl ?_
     refine T.pick [5, 6, 1, 2, 3, 4, 0] 7 rfl rfl (Nat.le_add_left _ _) (hs' := Cl x5.1 45 [.int .i64 r2p0.1.1, .map (some x5.2), .pointer (some ⟨x2.1, 0, none⟩), .int .i64 r2p0.1.2.1, .int .u64 r2p0.1.2.2.1, .int .i64 r2p0.1.2.2.2] :: Mp E64 x5.2 r2p0.2 :: Cl x2.1 68 [.int .i64 r1p0.1.1, .map (some x2.2.1), .slice x2.2.2.1.1 r1p0.2.2.length x2.2.2.1.2, .bool r1p0.1.2.1, .int .i64 r1p0.1.2.2.1, .int .i64 r1p0.1.2.2.2.1, .int .u64 r1p0.1.2.2.2.2.1, .int .i64 r1p0.1.2.2.2.2.2.1, .int .i64 r1p0.1.2.2.2.2.2.2] :: Mp (Elt.slice E8) x2.2.1 r1p0.2.1 :: Hb 82 x2.2.2.1.1 x2.2.2.1.2 x2.2.2.2 r1p0.2.2 :: Bb 5 x2.2.2.2 r1p0.2.2 :: Ro E8 A0 c0 (subl l0 0 (min ((l0.length : Int)) 500)) :: hs) rfl ?_
     obtain ⟨r3, hg3, hk2⟩ := inv_bind hk2
     refine T.call .list (wants0 rfl) rfl (run_callF (vs := [_, _]) rfl Try.func9 rfl (by decide) rfl) (fun w hS => page_Store_Put.c hS (i1 := 6) (o0 := (r2p0.1.1, r2p0.1.2.1, r2p0.1.2.2.1, r2p0.1.2.2.2)) (q0b := r2p0.2) (o0c := (r1p0.1.1, r1p0.1.2.1, r1p0.1.2.2.1, r1p0.1.2.2.2.1, r1p0.1.2.2.2.2.1, r1p0.1.2.2.2.2.2.1, r1p0.1.2.2.2.2.2.2)) (q0cb := r1p0.2.1) (q0cc := r1p0.2.2) rfl hg3) (fun x7 => ?_)
     refine T.move .list rfl (wants0 rfl) rfl rfl ?_
     refine T.extract .list rfl (wants0 rfl) rfl rfl rfl ?_
     refine T.extract .list rfl (wants0 rfl) rfl rfl rfl ?_
     refine T.assign .list rfl (wants0 rfl) rfl rfl ?_
     refine T.assign .list rfl (wants0 rfl) rfl rfl ?_
     refine T.nil ?_
     refine T.then_normal ?_
     refine T.seq ?_
     refine T.seq ?_
     refine T.region ?_
     refine T.move .list rfl (wants0 rfl) rfl rfl ?_
     refine T.bin .list rfl (wants0 rfl) rfl rfl rfl rfl ?_
     refine T.nil ?_
     refine T.then_normal ?_
     refine T.cond rfl (fun hb3 => ?_) (fun hb3 => ?_)
     ·replace hk2 := inv_posB hb3 hk2
      refine T.seq ?_
      refine T.region ?_
      refine T.assign .list rfl (wants0 rfl) rfl rfl ?_
      refine T.nil ?_
      refine T.then_normal ?_
      refine T.ret ?_
      refine T.then_ret ?_
      obtain rfl := inv_some hk2
      refine T.pick [] 7 rfl rfl (Nat.le_add_left _ _) rfl ?_
      refine T.ret1 rfl rfl (fun w hS => ⟨(), rfl, hS⟩)
     ·replace hk2 := inv_negB hb3 hk2
      refine T.skip ?_
      refine T.then_normal ?_
      refine T.seq ?_
      refine T.region ?_
      refine T.move .list rfl (wants0 rfl) rfl rfl ?_
      refine T.bin .list rfl (wants0 rfl) rfl rfl rfl rfl ?_
      refine T.move .list rfl (wants0 rfl) rfl rfl ?_
      refine T.bin .list rfl (wants0 rfl) rfl rfl rfl rfl ?_
      refine T.move .list rfl (wants0 rfl) rfl rfl ?_
      refine T.bin .list rfl (wants0 rfl) rfl rfl rfl rfl ?_
      refine T.build .list (vals := [(0, .int .i64 (bitsOf .and .i64 a1 65535)), (1, .int .i64 (bitsOf .and .i64 a2 65535)), (2, .int .i64 (bitsOf .and .i64 a3 65535))]) (cells := #[.int .i64 (bitsOf .and .i64 a1 65535), .int .i64 (bitsOf .and .i64 a2 65535), .int .i64 (bitsOf .and .i64 a3 65535)]) rfl (wants0 rfl) rfl rfl (run_buildArr rfl) ?_
      refine T.allocArr 3 (Value.int .i64) (0 : Int) .list rfl (wants0 rfl) rfl (fun b1 => ?_)
      obtain ⟨hc2, hk2⟩ := inv_chk hk2
      refine T.stArrN .list 0 (M := ([bitsOf .and .i64 a1 65535, bitsOf .and .i64 a2 65535, bitsOf .and .i64 a3 65535])) rfl rfl (wants0 rfl) rfl rfl rfl rfl (fun _ => rfl) hc2.1 hc2.2 rfl ?_
      refine T.nil ?_
      refine T.then_normal ?_
      refine T.seq ?_
      refine T.region ?_
      refine T.move .list rfl (wants0 rfl) rfl rfl ?_
      refine T.lenSlice .list rfl (wants0 rfl) rfl rfl ?_
      refine T.bin .list rfl (wants0 rfl) rfl rfl rfl rfl ?_
      refine T.bin .list rfl (wants0 rfl) rfl rfl rfl rfl ?_
      refine T.assign .list rfl (wants0 rfl) rfl rfl ?_
      refine T.nil ?_
      refine T.then_normal ?_
      refine T.seqJ (fun (s3 : (List (Int × (List UInt8))) × (List (Int × List UInt8)) × List Int) (x8 : (Option Addr × Nat) × (Ads)) => [(0, .slice A0 ((subl l0 0 (min ((l0.length : Int)) 500)).length) c0), (1, .int .i64 a1), (4, .int .u32 a4), (11, .pointer (some ⟨x2.1, 0, none⟩)), (13, .pointer (some ⟨x5.1, 0, none⟩)), (15, .int .i64 r3.1), (17, .pointer (some ⟨b1, 0, none⟩)), (18, .int .i64 (IntKind.i64.wrap (8 * (IntKind.i64.wrap ((((subl l0 0 (min ((l0.length : Int)) 500)).length : Int)) + 6)))))]) (fun s3 x8 => Ro E8 A0 c0 (subl l0 0 (min ((l0.length : Int)) 500)) :: Cl x2.1 68 [.int .i64 r3.2.2.2.1.1, .map (some x2.2.1), .slice x8.1.1 s3.2.1.length x8.1.2, .bool r3.2.2.2.1.2.1, .int .i64 r3.2.2.2.1.2.2.1, .int .i64 r3.2.2.2.1.2.2.2.1, .int .u64 r3.2.2.2.1.2.2.2.2.1, .int .i64 r3.2.2.2.1.2.2.2.2.2.1, .int .i64 r3.2.2.2.1.2.2.2.2.2.2] :: Mp (Elt.slice E8) x2.2.1 s3.1 :: Hb 82 x8.1.1 x8.1.2 x8.2 s3.2.1 :: Bb 5 x8.2 s3.2.1 :: Cl x5.1 45 [.int .i64 r2p0.1.1, .map (some x5.2), .pointer (some ⟨x2.1, 0, none⟩), .int .i64 r2p0.1.2.1, .int .u64 r2p0.1.2.2.1, .int .i64 r2p0.1.2.2.2] :: Mp E64 x5.2 r3.2.2.1 :: Cl b1 51 (s3.2.2.map (Value.int .i64)) :: hs) (fun s3 => law4_PageFlips.k3 r2p0 r3 l0 a4 a1 s3 = some r) (fun s3 x8 hk3 => ?_) (fun J3 => ?_)
      ·unfold law4_PageFlips.k3 at hk3
       refine T.seq ?_
       refine T.region ?_
       refine T.move .list rfl (wants0 rfl) rfl rfl ?_
       refine T.move .list rfl (wants0 rfl) rfl rfl ?_
       refine T.pick [5, 6, 1, 2, 3, 4, 0, 7] 8 rfl rfl (Nat.le_add_left _ _) (hs' := Cl x5.1 45 [.int .i64 r2p0.1.1, .map (some x5.2), .pointer (some ⟨x2.1, 0, none⟩), .int .i64 r2p0.1.2.1, .int .u64 r2p0.1.2.2.1, .int .i64 r2p0.1.2.2.2] :: Mp E64 x5.2 r3.2.2.1 :: Cl x2.1 68 [.int .i64 r3.2.2.2.1.1, .map (some x2.2.1), .slice x8.1.1 s3.2.1.length x8.1.2, .bool r3.2.2.2.1.2.1, .int .i64 r3.2.2.2.1.2.2.1, .int .i64 r3.2.2.2.1.2.2.2.1, .int .u64 r3.2.2.2.1.2.2.2.2.1, .int .i64 r3.2.2.2.1.2.2.2.2.2.1, .int .i64 r3.2.2.2.1.2.2.2.2.2.2] :: Mp (Elt.slice E8) x2.2.1 s3.1 :: Hb 82 x8.1.1 x8.1.2 x8.2 s3.2.1 :: Bb 5 x8.2 s3.2.1 :: Ro E8 A0 c0 (subl l0 0 (min ((l0.length : Int)) 500)) :: Cl b1 51 (s3.2.2.map (Value.int .i64)) :: hs) rfl ?_
       obtain ⟨r4, hg4, hk3⟩ := inv_bind hk3
       refine T.call .list (wants0 rfl) rfl (run_callF (vs := [_, _]) rfl Try.func13 rfl (by decide) rfl) (fun w hS => page_Store_Get.c hS (o0 := (r2p0.1.1, r2p0.1.2.1, r2p0.1.2.2.1, r2p0.1.2.2.2)) (q0b := r3.2.2.1) (o0c := (r3.2.2.2.1.1, r3.2.2.2.1.2.1, r3.2.2.2.1.2.2.1, r3.2.2.2.1.2.2.2.1, r3.2.2.2.1.2.2.2.2.1, r3.2.2.2.1.2.2.2.2.2.1, r3.2.2.2.1.2.2.2.2.2.2)) (q0cb := s3.1) (q0cc := s3.2.1)  hg4) (fun x9 => ?_)
       refine T.move .list rfl (wants0 rfl) rfl rfl ?_
       refine T.extract .list rfl (wants0 rfl) rfl rfl rfl ?_
       refine T.extract .list rfl (wants0 rfl) rfl rfl rfl ?_
       refine T.assign .list rfl (wants0 rfl) rfl rfl ?_
       refine T.assign .list rfl (wants0 rfl) rfl rfl ?_
       refine T.nil ?_
       refine T.then_normal ?_
       refine T.seq ?_
       refine T.seq ?_
       refine T.region ?_
       refine T.move .list rfl (wants0 rfl) rfl rfl ?_
       refine T.bin .list rfl (wants0 rfl) rfl rfl rfl rfl ?_
       refine T.nil ?_
       refine T.then_normal ?_
       refine T.cond rfl (fun hb4 => ?_) (fun hb4 => ?_)
       ·replace hk3 := inv_posB hb4 hk3
        refine T.seq ?_
        refine T.region ?_
        refine T.assign .list rfl (wants0 rfl) rfl rfl ?_
        refine T.nil ?_
        refine T.then_normal ?_
        refine T.ret ?_
        refine T.then_ret ?_
        obtain rfl := inv_some hk3
        refine T.pick [] 9 rfl rfl (Nat.le_add_left _ _) rfl ?_
        refine T.ret1 rfl rfl (fun w hS => ⟨(), rfl, hS⟩)
       ·replace hk3 := inv_negB hb4 hk3
        refine T.skip ?_
        refine T.then_normal ?_
        refine T.seqJ (fun (s4 : (List (Int × (List UInt8))) × (List (Int × List UInt8))) (x10 : (Option Addr × Nat) × (Ads)) => [(0, .slice A0 ((subl l0 0 (min ((l0.length : Int)) 500)).length) c0), (1, .int .i64 a1), (4, .int .u32 a4), (11, .pointer (some ⟨x2.1, 0, none⟩)), (13, .pointer (some ⟨x5.1, 0, none⟩)), (15, .int .i64 r3.1), (18, .int .i64 (IntKind.i64.wrap (8 * (IntKind.i64.wrap ((((subl l0 0 (min ((l0.length : Int)) 500)).length : Int)) + 6)))))]) (fun s4 x10 => Ro E8 A0 c0 (subl l0 0 (min ((l0.length : Int)) 500)) :: Cl x2.1 68 [.int .i64 r3.2.2.2.1.1, .map (some x2.2.1), .slice x10.1.1 s4.2.length x10.1.2, .bool r3.2.2.2.1.2.1, .int .i64 r3.2.2.2.1.2.2.1, .int .i64 r3.2.2.2.1.2.2.2.1, .int .u64 r3.2.2.2.1.2.2.2.2.1, .int .i64 r3.2.2.2.1.2.2.2.2.2.1, .int .i64 r3.2.2.2.1.2.2.2.2.2.2] :: Mp (Elt.slice E8) x2.2.1 s4.1 :: Hb 82 x10.1.1 x10.1.2 x10.2 s4.2 :: Bb 5 x10.2 s4.2 :: Cl x5.1 45 [.int .i64 r2p0.1.1, .map (some x5.2), .pointer (some ⟨x2.1, 0, none⟩), .int .i64 r2p0.1.2.1, .int .u64 r2p0.1.2.2.1, .int .i64 r2p0.1.2.2.2] :: Mp E64 x5.2 r3.2.2.1 :: hs) (fun s4 => law4_PageFlips.k4 r2p0 r3 l0 a4 a1 s4 = some r) (fun s4 x10 hk4 => ?_) (fun J4 => ?_)
        ·unfold law4_PageFlips.k4 at hk4
         refine T.seq ?_
         refine T.region ?_
         refine T.move .list rfl (wants0 rfl) rfl rfl ?_
         refine T.move .list rfl (wants0 rfl) rfl rfl ?_
         refine T.pick [5, 6, 1, 2, 3, 4, 0] 7 rfl rfl (Nat.le_add_left _ _) (hs' := Cl x5.1 45 [.int .i64 r2p0.1.1, .map (some x5.2), .pointer (some ⟨x2.1, 0, none⟩), .int .i64 r2p0.1.2.1, .int .u64 r2p0.1.2.2.1, .int .i64 r2p0.1.2.2.2] :: Mp E64 x5.2 r3.2.2.1 :: Cl x2.1 68 [.int .i64 r3.2.2.2.1.1, .map (some x2.2.1), .slice x10.1.1 s4.2.length x10.1.2, .bool r3.2.2.2.1.2.1, .int .i64 r3.2.2.2.1.2.2.1, .int .i64 r3.2.2.2.1.2.2.2.1, .int .u64 r3.2.2.2.1.2.2.2.2.1, .int .i64 r3.2.2.2.1.2.2.2.2.2.1, .int .i64 r3.2.2.2.1.2.2.2.2.2.2] :: Mp (Elt.slice E8) x2.2.1 s4.1 :: Hb 82 x10.1.1 x10.1.2 x10.2 s4.2 :: Bb 5 x10.2 s4.2 :: Ro E8 A0 c0 (subl l0 0 (min ((l0.length : Int)) 500)) :: hs) rfl ?_
         obtain ⟨r5, hg5, hk4⟩ := inv_bind hk4
         refine T.call .list (wants0 rfl) rfl (run_callF (vs := [_, _]) rfl Try.func13 rfl (by decide) rfl) (fun w hS => page_Store_Get.c hS (o0 := (r2p0.1.1, r2p0.1.2.1, r2p0.1.2.2.1, r2p0.1.2.2.2)) (q0b := r3.2.2.1) (o0c := (r3.2.2.2.1.1, r3.2.2.2.1.2.1, r3.2.2.2.1.2.2.1, r3.2.2.2.1.2.2.2.1, r3.2.2.2.1.2.2.2.2.1, r3.2.2.2.1.2.2.2.2.2.1, r3.2.2.2.1.2.2.2.2.2.2)) (q0cb := s4.1) (q0cc := s4.2)  hg5) (fun x11 => ?_)
         refine T.move .list rfl (wants0 rfl) rfl rfl ?_
         refine T.extract .list rfl (wants0 rfl) rfl rfl rfl ?_
         refine T.extract .list rfl (wants0 rfl) rfl rfl rfl ?_
         refine T.assign .list rfl (wants0 rfl) rfl rfl ?_
         refine T.assign .list rfl (wants0 rfl) rfl rfl ?_
         refine T.nil ?_
         refine T.then_normal ?_
         refine T.seq ?_
         refine T.seqJ (fun (s5 : Bool) (x12 : Unit) => [(0, .slice A0 ((subl l0 0 (min ((l0.length : Int)) 500)).length) c0), (1, .int .i64 a1), (4, .int .u32 a4), (11, .pointer (some ⟨x2.1, 0, none⟩)), (13, .pointer (some ⟨x5.1, 0, none⟩)), (15, .int .i64 r3.1), (18, .int .i64 (IntKind.i64.wrap (8 * (IntKind.i64.wrap ((((subl l0 0 (min ((l0.length : Int)) 500)).length : Int)) + 6))))), (121, .bool s5)]) (fun s5 x12 => Ro E8 A0 c0 (subl l0 0 (min ((l0.length : Int)) 500)) :: Cl x2.1 68 [.int .i64 r3.2.2.2.1.1, .map (some x2.2.1), .slice x10.1.1 s4.2.length x10.1.2, .bool r3.2.2.2.1.2.1, .int .i64 r3.2.2.2.1.2.2.1, .int .i64 r3.2.2.2.1.2.2.2.1, .int .u64 r3.2.2.2.1.2.2.2.2.1, .int .i64 r3.2.2.2.1.2.2.2.2.2.1, .int .i64 r3.2.2.2.1.2.2.2.2.2.2] :: Mp (Elt.slice E8) x2.2.1 s4.1 :: Hb 82 x10.1.1 x10.1.2 x10.2 s4.2 :: Bb 5 x10.2 s4.2 :: Cl x5.1 45 [.int .i64 r2p0.1.1, .map (some x5.2), .pointer (some ⟨x2.1, 0, none⟩), .int .i64 r2p0.1.2.1, .int .u64 r2p0.1.2.2.1, .int .i64 r2p0.1.2.2.2] :: Mp E64 x5.2 r3.2.2.1 :: hs) (fun s5 => law4_PageFlips.k5 l0 a4 r3 a1 s4 r2p0 s5 = some r) (fun s5 x12 hk5 => ?_) (fun J5 => ?_)
         ·unfold law4_PageFlips.k5 at hk5
          refine T.cond rfl (fun hb5 => ?_) (fun hb5 => ?_)
          ·replace hk5 := inv_posB hb5 hk5
           refine T.seq ?_
           refine T.region ?_
           refine T.assign .list rfl (wants0 rfl) rfl rfl ?_
           refine T.nil ?_
           refine T.then_normal ?_
           refine T.ret ?_
           refine T.then_ret ?_
           obtain rfl := inv_some hk5
           refine T.pick [] 7 rfl rfl (Nat.le_add_left _ _) rfl ?_
           refine T.ret1 rfl rfl (fun w hS => ⟨(), rfl, hS⟩)
          ·replace hk5 := inv_negB hb5 hk5
           refine T.skip ?_
           refine T.then_normal ?_
           refine T.seq ?_
           refine T.region ?_
           refine T.move .list rfl (wants0 rfl) rfl rfl ?_
           refine T.bin .list rfl (wants0 rfl) rfl rfl rfl rfl ?_
           refine T.move .list rfl (wants0 rfl) rfl rfl ?_
           refine T.bin .list rfl (wants0 rfl) rfl rfl rfl rfl ?_
           obtain ⟨hc3, hk5⟩ := inv_chk hk5
           refine T.rem .list rfl (wants0 rfl) rfl rfl rfl hc3 ?_
           refine T.bin .list rfl (wants0 rfl) rfl rfl rfl rfl ?_
           refine T.assign .list rfl (wants0 rfl) rfl rfl ?_
           refine T.nil ?_
           refine T.then_normal ?_
           refine T.seq ?_
           refine T.region ?_
           refine T.assign .list rfl (wants0 rfl) rfl rfl ?_
           refine T.nil ?_
           refine T.then_normal ?_
           refine T.seqJ (fun (s6 : (List (Int × (List UInt8))) × (List (Int × List UInt8)) × Int) (x13 : (Option Addr × Nat) × (Ads)) => [(0, .slice A0 ((subl l0 0 (min ((l0.length : Int)) 500)).length) c0), (13, .pointer (some ⟨x5.1, 0, none⟩)), (15, .int .i64 r3.1), (26, .int .i64 s6.2.2)]) (fun s6 x13 => Ro E8 A0 c0 (subl l0 0 (min ((l0.length : Int)) 500)) :: Cl x5.1 45 [.int .i64 r2p0.1.1, .map (some x5.2), .pointer (some ⟨x2.1, 0, none⟩), .int .i64 r2p0.1.2.1, .int .u64 r2p0.1.2.2.1, .int .i64 r2p0.1.2.2.2] :: Mp E64 x5.2 r3.2.2.1 :: Cl x2.1 68 [.int .i64 r3.2.2.2.1.1, .map (some x2.2.1), .slice x13.1.1 s6.2.1.length x13.1.2, .bool r3.2.2.2.1.2.1, .int .i64 r3.2.2.2.1.2.2.1, .int .i64 r3.2.2.2.1.2.2.2.1, .int .u64 r3.2.2.2.1.2.2.2.2.1, .int .i64 r3.2.2.2.1.2.2.2.2.2.1, .int .i64 r3.2.2.2.1.2.2.2.2.2.2] :: Mp (Elt.slice E8) x2.2.1 s6.1 :: Hb 82 x13.1.1 x13.1.2 x13.2 s6.2.1 :: Bb 5 x13.2 s6.2.1 :: hs) (fun s6 => law4_PageFlips.k6 r2p0 r3 l0 s6 = some r) (fun s6 x13 hk6 => ?_) (fun J6 => ?_)
           ·unfold law4_PageFlips.k6 at hk6
            refine T.seq ?_
            refine T.region ?_
            refine T.move .list rfl (wants0 rfl) rfl rfl ?_
            refine T.move .list rfl (wants0 rfl) rfl rfl ?_
            refine T.pick [1, 2, 3, 4, 5, 6, 0] 7 rfl rfl (Nat.le_add_left _ _) (hs' := Cl x5.1 45 [.int .i64 r2p0.1.1, .map (some x5.2), .pointer (some ⟨x2.1, 0, none⟩), .int .i64 r2p0.1.2.1, .int .u64 r2p0.1.2.2.1, .int .i64 r2p0.1.2.2.2] :: Mp E64 x5.2 r3.2.2.1 :: Cl x2.1 68 [.int .i64 r3.2.2.2.1.1, .map (some x2.2.1), .slice x13.1.1 s6.2.1.length x13.1.2, .bool r3.2.2.2.1.2.1, .int .i64 r3.2.2.2.1.2.2.1, .int .i64 r3.2.2.2.1.2.2.2.1, .int .u64 r3.2.2.2.1.2.2.2.2.1, .int .i64 r3.2.2.2.1.2.2.2.2.2.1, .int .i64 r3.2.2.2.1.2.2.2.2.2.2] :: Mp (Elt.slice E8) x2.2.1 s6.1 :: Hb 82 x13.1.1 x13.1.2 x13.2 s6.2.1 :: Bb 5 x13.2 s6.2.1 :: Ro E8 A0 c0 (subl l0 0 (min ((l0.length : Int)) 500)) :: hs) rfl ?_
            obtain ⟨r6, hg6, hk6⟩ := inv_bind hk6
            refine T.call .list (wants0 rfl) rfl (run_callF (vs := [_, _]) rfl Try.func13 rfl (by decide) rfl) (fun w hS => page_Store_Get.c hS (o0 := (r2p0.1.1, r2p0.1.2.1, r2p0.1.2.2.1, r2p0.1.2.2.2)) (q0b := r3.2.2.1) (o0c := (r3.2.2.2.1.1, r3.2.2.2.1.2.1, r3.2.2.2.1.2.2.1, r3.2.2.2.1.2.2.2.1, r3.2.2.2.1.2.2.2.2.1, r3.2.2.2.1.2.2.2.2.2.1, r3.2.2.2.1.2.2.2.2.2.2)) (q0cb := s6.1) (q0cc := s6.2.1)  hg6) (fun x14 => ?_)
            refine T.move .list rfl (wants0 rfl) rfl rfl ?_
            refine T.extract .list rfl (wants0 rfl) rfl rfl rfl ?_
            refine T.extract .list rfl (wants0 rfl) rfl rfl rfl ?_
            refine T.assign .list rfl (wants0 rfl) rfl rfl ?_
            refine T.assign .list rfl (wants0 rfl) rfl rfl ?_
            refine T.nil ?_
            refine T.then_normal ?_
            refine T.seq ?_
            refine T.region ?_
            obtain ⟨r7, hg7, hk6⟩ := inv_bind hk6
            refine T.call .list (wants0 rfl) rfl (run_callF (vs := []) rfl Try.func14 rfl (by decide) rfl) (fun w hS => law4_told.c hS  hg7) (fun x15 => ?_)
            refine T.move .list rfl (wants0 rfl) rfl rfl ?_
            refine T.bool (b := r7) (fun hb6 => ?_) (fun hb6 => ?_)
            ·replace hk6 := inv_posB hb6 hk6
             refine T.move .list rfl (wants1 rfl rfl rfl hb6) rfl rfl ?_
             refine T.bin .list rfl (wants1 rfl rfl rfl hb6) rfl rfl rfl rfl ?_
             refine T.move .list rfl (wants1 rfl rfl rfl hb6) rfl rfl ?_
             refine T.bool (b := (decide (s6.2.2 = 0))) (fun hb7 => ?_) (fun hb7 => ?_)
             ·replace hk6 := inv_posB hb7 hk6
              refine T.move .list rfl (wants1 rfl rfl rfl hb7) rfl rfl ?_
              refine T.bin .list rfl (wants1 rfl rfl rfl hb7) rfl rfl rfl rfl ?_
              refine T.pickT .list rfl (wants1 rfl rfl rfl hb6) rfl rfl hb7 rfl ?_
              refine T.move .list rfl (wants1 rfl rfl rfl hb6) rfl rfl ?_
              refine T.bool (b := (decide (r6.2 = 0))) (fun hb8 => ?_) (fun hb8 => ?_)
              ·replace hk6 := inv_posB hb8 hk6
               refine T.move .list rfl (wants1 rfl rfl rfl hb8) rfl rfl ?_
               refine T.strRo .list 0 rfl rfl (wants1 rfl rfl rfl hb8) rfl rfl rfl ?_
               refine T.move .list rfl (wants1 rfl rfl rfl hb8) rfl rfl ?_
               refine T.strRo .list 7 rfl rfl (wants1 rfl rfl rfl hb8) rfl rfl rfl ?_
               refine T.strEq .list rfl (wants1 rfl rfl rfl hb8) rfl (l := r6.1) (l' := (subl l0 0 (min ((l0.length : Int)) 500))) rfl rfl ?_
               refine T.pickT .list rfl (wants1 rfl rfl rfl hb6) rfl rfl hb8 rfl ?_
               refine T.move .list rfl (wants1 rfl rfl rfl hb6) rfl rfl ?_
               refine T.bool (b := (decide (r6.1 = (subl l0 0 (min ((l0.length : Int)) 500))))) (fun hb9 => ?_) (fun hb9 => ?_)
               ·replace hk6 := inv_posB hb9 hk6
                refine T.leave .list (wantsNot rfl rfl rfl hb9) rfl ?_
                refine T.leave .list (wantsNot rfl rfl rfl hb9) rfl ?_
                refine T.leave .list (wantsNot rfl rfl rfl hb9) rfl ?_
                refine T.leave .list (wantsUndef rfl rfl rfl) rfl ?_
                refine T.leave .list (wantsUndef rfl rfl rfl) rfl ?_
                refine T.leave .list (wantsNot rfl rfl rfl hb9) rfl ?_
                refine T.pickT .list rfl (wants1 rfl rfl rfl hb6) rfl rfl hb9 rfl ?_
                refine T.pickT .list rfl (wants0 rfl) rfl rfl hb6 rfl ?_
                refine T.assign .list rfl (wants0 rfl) rfl rfl ?_
                refine T.nil ?_
                refine T.then_normal ?_
                refine T.ret ?_
                obtain rfl := inv_some hk6
                refine T.pick [] 8 rfl rfl (Nat.le_add_left _ _) rfl ?_
                refine T.ret1 rfl rfl (fun w hS => ⟨(), rfl, hS⟩)
               ·replace hk6 := inv_negB hb9 hk6
                refine T.move .list rfl (wants1 rfl rfl rfl hb9) rfl rfl ?_
                refine T.bin .list rfl (wants1 rfl rfl rfl hb9) rfl rfl rfl rfl ?_
                refine T.move .list rfl (wants1 rfl rfl rfl hb9) rfl rfl ?_
                refine T.bool (b := (decide ((0 : Int) < s6.2.2))) (fun hb10 => ?_) (fun hb10 => ?_)
                ·replace hk6 := inv_posB hb10 hk6
                 refine T.move .list rfl (wants1 rfl rfl rfl hb10) rfl rfl ?_
                 refine T.bin .list rfl (wants1 rfl rfl rfl hb10) rfl rfl rfl rfl ?_
                 refine T.pickT .list rfl (wants1 rfl rfl rfl hb9) rfl rfl hb10 rfl ?_
                 refine T.pickF .list rfl (wants1 rfl rfl rfl hb6) rfl rfl hb9 rfl ?_
                 refine T.pickT .list rfl (wants0 rfl) rfl rfl hb6 rfl ?_
                 refine T.assign .list rfl (wants0 rfl) rfl rfl ?_
                 refine T.nil ?_
                 refine T.then_normal ?_
                 refine T.ret ?_
                 obtain rfl := inv_some hk6
                 refine T.pick [] 8 rfl rfl (Nat.le_add_left _ _) rfl ?_
                 refine T.ret1 rfl rfl (fun w hS => ⟨(), rfl, hS⟩)
                ·replace hk6 := inv_negB hb10 hk6
                 refine T.leave .list (wantsNot rfl rfl rfl hb10) rfl ?_
                 refine T.leave .list (wantsNot rfl rfl rfl hb10) rfl ?_
                 refine T.pickF .list rfl (wants1 rfl rfl rfl hb9) rfl rfl hb10 rfl ?_
                 refine T.pickF .list rfl (wants1 rfl rfl rfl hb6) rfl rfl hb9 rfl ?_
                 refine T.pickT .list rfl (wants0 rfl) rfl rfl hb6 rfl ?_
                 refine T.assign .list rfl (wants0 rfl) rfl rfl ?_
                 refine T.nil ?_
                 refine T.then_normal ?_
                 refine T.ret ?_
                 obtain rfl := inv_some hk6
                 refine T.pick [] 8 rfl rfl (Nat.le_add_left _ _) rfl ?_
                 refine T.ret1 rfl rfl (fun w hS => ⟨(), rfl, hS⟩)
              ·replace hk6 := inv_negB hb8 hk6
               refine T.leave .list (wantsNot rfl rfl rfl hb8) rfl ?_
               refine T.leave .list (wantsNot rfl rfl rfl hb8) rfl ?_
               refine T.leave .list (wantsNot rfl rfl rfl hb8) rfl ?_
               refine T.leave .list (wantsNot rfl rfl rfl hb8) rfl ?_
               refine T.leave .list (wantsNot rfl rfl rfl hb8) rfl ?_
               refine T.pickF .list rfl (wants1 rfl rfl rfl hb6) rfl rfl hb8 rfl ?_
               refine T.move .list rfl (wants1 rfl rfl rfl hb6) rfl rfl ?_
               refine T.move .list rfl (wants1 rfl rfl rfl rfl) rfl rfl ?_
               refine T.bin .list rfl (wants1 rfl rfl rfl rfl) rfl rfl rfl rfl ?_
               refine T.move .list rfl (wants1 rfl rfl rfl rfl) rfl rfl ?_
               refine T.bool (b := (decide ((0 : Int) < s6.2.2))) (fun hb11 => ?_) (fun hb11 => ?_)
               ·replace hk6 := inv_posB hb11 hk6
                refine T.move .list rfl (wants1 rfl rfl rfl hb11) rfl rfl ?_
                refine T.bin .list rfl (wants1 rfl rfl rfl hb11) rfl rfl rfl rfl ?_
                refine T.pickT .list rfl (wants1 rfl rfl rfl rfl) rfl rfl hb11 rfl ?_
                refine T.pickF .list rfl (wants1 rfl rfl rfl hb6) rfl rfl rfl rfl ?_
                refine T.pickT .list rfl (wants0 rfl) rfl rfl hb6 rfl ?_
                refine T.assign .list rfl (wants0 rfl) rfl rfl ?_
                refine T.nil ?_
                refine T.then_normal ?_
                refine T.ret ?_
                obtain rfl := inv_some hk6
                refine T.pick [] 8 rfl rfl (Nat.le_add_left _ _) rfl ?_
                refine T.ret1 rfl rfl (fun w hS => ⟨(), rfl, hS⟩)
               ·replace hk6 := inv_negB hb11 hk6
                refine T.leave .list (wantsNot rfl rfl rfl hb11) rfl ?_
                refine T.leave .list (wantsNot rfl rfl rfl hb11) rfl ?_
                refine T.pickF .list rfl (wants1 rfl rfl rfl rfl) rfl rfl hb11 rfl ?_
                refine T.pickF .list rfl (wants1 rfl rfl rfl hb6) rfl rfl rfl rfl ?_
                refine T.pickT .list rfl (wants0 rfl) rfl rfl hb6 rfl ?_
                refine T.assign .list rfl (wants0 rfl) rfl rfl ?_
                refine T.nil ?_
                refine T.then_normal ?_
                refine T.ret ?_
                obtain rfl := inv_some hk6
                refine T.pick [] 8 rfl rfl (Nat.le_add_left _ _) rfl ?_
                refine T.ret1 rfl rfl (fun w hS => ⟨(), rfl, hS⟩)
             ·replace hk6 := inv_negB hb7 hk6
              refine T.leave .list (wantsNot rfl rfl rfl hb7) rfl ?_
              refine T.leave .list (wantsNot rfl rfl rfl hb7) rfl ?_
              refine T.pickF .list rfl (wants1 rfl rfl rfl hb6) rfl rfl hb7 rfl ?_
              refine T.move .list rfl (wants1 rfl rfl rfl hb6) rfl rfl ?_
              refine T.leave .list (wantsNot rfl rfl rfl rfl) rfl ?_
              refine T.leave .list (wantsNot rfl rfl rfl rfl) rfl ?_
              refine T.leave .list (wantsNot rfl rfl rfl rfl) rfl ?_
              refine T.leave .list (wantsNot rfl rfl rfl rfl) rfl ?_
              refine T.leave .list (wantsNot rfl rfl rfl rfl) rfl ?_
              refine T.pickF .list rfl (wants1 rfl rfl rfl hb6) rfl rfl rfl rfl ?_
              refine T.move .list rfl (wants1 rfl rfl rfl hb6) rfl rfl ?_
              refine T.move .list rfl (wants1 rfl rfl rfl rfl) rfl rfl ?_
              refine T.bin .list rfl (wants1 rfl rfl rfl rfl) rfl rfl rfl rfl ?_
              refine T.move .list rfl (wants1 rfl rfl rfl rfl) rfl rfl ?_
              refine T.bool (b := (decide ((0 : Int) < s6.2.2))) (fun hb12 => ?_) (fun hb12 => ?_)
              ·replace hk6 := inv_posB hb12 hk6
               refine T.move .list rfl (wants1 rfl rfl rfl hb12) rfl rfl ?_
               refine T.bin .list rfl (wants1 rfl rfl rfl hb12) rfl rfl rfl rfl ?_
               refine T.pickT .list rfl (wants1 rfl rfl rfl rfl) rfl rfl hb12 rfl ?_
               refine T.pickF .list rfl (wants1 rfl rfl rfl hb6) rfl rfl rfl rfl ?_
               refine T.pickT .list rfl (wants0 rfl) rfl rfl hb6 rfl ?_
               refine T.assign .list rfl (wants0 rfl) rfl rfl ?_
               refine T.nil ?_
               refine T.then_normal ?_
               refine T.ret ?_
               obtain rfl := inv_some hk6
               refine T.pick [] 8 rfl rfl (Nat.le_add_left _ _) rfl ?_
               refine T.ret1 rfl rfl (fun w hS => ⟨(), rfl, hS⟩)
              ·replace hk6 := inv_negB hb12 hk6
               refine T.leave .list (wantsNot rfl rfl rfl hb12) rfl ?_
               refine T.leave .list (wantsNot rfl rfl rfl hb12) rfl ?_
               refine T.pickF .list rfl (wants1 rfl rfl rfl rfl) rfl rfl hb12 rfl ?_
               refine T.pickF .list rfl (wants1 rfl rfl rfl hb6) rfl rfl rfl rfl ?_
               refine T.pickT .list rfl (wants0 rfl) rfl rfl hb6 rfl ?_
               refine T.assign .list rfl (wants0 rfl) rfl rfl ?_
               refine T.nil ?_
               refine T.then_normal ?_
               refine T.ret ?_
               obtain rfl := inv_some hk6
               refine T.pick [] 8 rfl rfl (Nat.le_add_left _ _) rfl ?_
               refine T.ret1 rfl rfl (fun w hS => ⟨(), rfl, hS⟩)
            ·replace hk6 := inv_negB hb6 hk6
             refine T.leave .list (wantsNot rfl rfl rfl hb6) rfl ?_
             refine T.leave .list (wantsNot rfl rfl rfl hb6) rfl ?_
             refine T.leave .list (wantsNot rfl rfl rfl hb6) rfl ?_
             refine T.leave .list (wantsUndef rfl rfl rfl) rfl ?_
             refine T.leave .list (wantsUndef rfl rfl rfl) rfl ?_
             refine T.leave .list (wantsNot rfl rfl rfl hb6) rfl ?_
             refine T.leave .list (wantsNot rfl rfl rfl hb6) rfl ?_
             refine T.leave .list (wantsUndef rfl rfl rfl) rfl ?_
             refine T.leave .list (wantsUndef rfl rfl rfl) rfl ?_
             refine T.leave .list (wantsUndef rfl rfl rfl) rfl ?_
             refine T.leave .list (wantsUndef rfl rfl rfl) rfl ?_
             refine T.leave .list (wantsUndef rfl rfl rfl) rfl ?_
             refine T.leave .list (wantsNot rfl rfl rfl hb6) rfl ?_
             refine T.leave .list (wantsNot rfl rfl rfl hb6) rfl ?_
             refine T.leave .list (wantsUndef rfl rfl rfl) rfl ?_
             refine T.leave .list (wantsUndef rfl rfl rfl) rfl ?_
             refine T.leave .list (wantsUndef rfl rfl rfl) rfl ?_
             refine T.leave .list (wantsUndef rfl rfl rfl) rfl ?_
             refine T.leave .list (wantsUndef rfl rfl rfl) rfl ?_
             refine T.leave .list (wantsUndef rfl rfl rfl) rfl ?_
             refine T.leave .list (wantsNot rfl rfl rfl hb6) rfl ?_
             refine T.pickF .list rfl (wants0 rfl) rfl rfl hb6 rfl ?_
             refine T.assign .list rfl (wants0 rfl) rfl rfl ?_
             refine T.nil ?_
             refine T.then_normal ?_
             refine T.ret ?_
             obtain rfl := inv_some hk6
             refine T.pick [] 8 rfl rfl (Nat.le_add_left _ _) rfl ?_
             refine T.ret1 rfl rfl (fun w hS => ⟨(), rfl, hS⟩)
           ·refine T.seq ?_
            refine T.region ?_
            refine T.assign .list rfl (wants0 rfl) rfl rfl ?_
            refine T.nil ?_
            refine T.then_normal ?_
            refine T.block ?_
            obtain ⟨e1, hl1, hk5⟩ := inv_bind hk5
            refine T.le (EnvLe.cons rfl (EnvLe.cons rfl (EnvLe.cons rfl (EnvLe.cons rfl (EnvLe.cons rfl (EnvLe.cons rfl (EnvLe.cons rfl (EnvLe.cons rfl EnvLe.nil)))))))) (T.pick [0, 1, 2, 3, 4, 5, 6] 7 rfl rfl (Nat.le_add_left _ _) rfl (T.loop (s0 := (s4.1, s4.2, 0, 0)) (env := fun s7 x16 => [(0, .slice A0 ((subl l0 0 (min ((l0.length : Int)) 500)).length) c0), (4, .int .u32 a4), (11, .pointer (some ⟨x2.1, 0, none⟩)), (13, .pointer (some ⟨x5.1, 0, none⟩)), (15, .int .i64 r3.1), (25, .int .i64 (IntKind.i64.wrap (32 + (Int.tmod (bitsOf .and .i64 a1 1099511627775) (IntKind.i64.wrap ((IntKind.i64.wrap (8 * (IntKind.i64.wrap ((((subl l0 0 (min ((l0.length : Int)) 500)).length : Int)) + 6)))) - 32)))))), (26, .int .i64 s7.2.2.1), (27, .int .i64 s7.2.2.2)]) (hs := fun (s7 : (List (Int × (List UInt8))) × (List (Int × List UInt8)) × Int × Int) (x16 : (Option Addr × Nat) × (Ads)) => Ro E8 A0 c0 (subl l0 0 (min ((l0.length : Int)) 500)) :: Cl x2.1 68 [.int .i64 r3.2.2.2.1.1, .map (some x2.2.1), .slice x16.1.1 s7.2.1.length x16.1.2, .bool r3.2.2.2.1.2.1, .int .i64 r3.2.2.2.1.2.2.1, .int .i64 r3.2.2.2.1.2.2.2.1, .int .u64 r3.2.2.2.1.2.2.2.2.1, .int .i64 r3.2.2.2.1.2.2.2.2.2.1, .int .i64 r3.2.2.2.1.2.2.2.2.2.2] :: Mp (Elt.slice E8) x2.2.1 s7.1 :: Hb 82 x16.1.1 x16.1.2 x16.2 s7.2.1 :: Bb 5 x16.2 s7.2.1 :: Cl x5.1 45 [.int .i64 r2p0.1.1, .map (some x5.2), .pointer (some ⟨x2.1, 0, none⟩), .int .i64 r2p0.1.2.1, .int .u64 r2p0.1.2.2.1, .int .i64 r2p0.1.2.2.2] :: Mp E64 x5.2 r3.2.2.1 :: hs) hl1 ((x10.1.1, x10.1.2), x10.2) (fun K1 s7 x16 o1 he1 hm1 hx1 => ?_)))
            unfold law4_PageFlips.st1 at he1
            refine T.seq ?_
            refine T.seqJ (fun (s8 : Bool) (x17 : Unit) => [(0, .slice A0 ((subl l0 0 (min ((l0.length : Int)) 500)).length) c0), (4, .int .u32 a4), (11, .pointer (some ⟨x2.1, 0, none⟩)), (13, .pointer (some ⟨x5.1, 0, none⟩)), (15, .int .i64 r3.1), (25, .int .i64 (IntKind.i64.wrap (32 + (Int.tmod (bitsOf .and .i64 a1 1099511627775) (IntKind.i64.wrap ((IntKind.i64.wrap (8 * (IntKind.i64.wrap ((((subl l0 0 (min ((l0.length : Int)) 500)).length : Int)) + 6)))) - 32)))))), (26, .int .i64 s7.2.2.1), (27, .int .i64 s7.2.2.2), (135, .bool s8)]) (fun s8 x17 => Ro E8 A0 c0 (subl l0 0 (min ((l0.length : Int)) 500)) :: Cl x2.1 68 [.int .i64 r3.2.2.2.1.1, .map (some x2.2.1), .slice x16.1.1 s7.2.1.length x16.1.2, .bool r3.2.2.2.1.2.1, .int .i64 r3.2.2.2.1.2.2.1, .int .i64 r3.2.2.2.1.2.2.2.1, .int .u64 r3.2.2.2.1.2.2.2.2.1, .int .i64 r3.2.2.2.1.2.2.2.2.2.1, .int .i64 r3.2.2.2.1.2.2.2.2.2.2] :: Mp (Elt.slice E8) x2.2.1 s7.1 :: Hb 82 x16.1.1 x16.1.2 x16.2 s7.2.1 :: Bb 5 x16.2 s7.2.1 :: Cl x5.1 45 [.int .i64 r2p0.1.1, .map (some x5.2), .pointer (some ⟨x2.1, 0, none⟩), .int .i64 r2p0.1.2.1, .int .u64 r2p0.1.2.2.1, .int .i64 r2p0.1.2.2.2] :: Mp E64 x5.2 r3.2.2.1 :: hs) (fun s8 => law4_PageFlips.k7 a4 s7 r3 a1 l0 s8 = some o1) (fun s8 x17 hk7 => ?_) (fun J7 => ?_)
            ·unfold law4_PageFlips.k7 at hk7
             refine T.cond rfl (fun hb13 => ?_) (fun hb13 => ?_)
             ·replace hk7 := inv_posB hb13 hk7
              refine T.skip ?_
              refine T.then_normal ?_
              refine T.seqJ (fun (s9 : (List (Int × (List UInt8))) × (List (Int × List UInt8)) × Int) (x18 : (Option Addr × Nat) × (Ads)) => [(0, .slice A0 ((subl l0 0 (min ((l0.length : Int)) 500)).length) c0), (4, .int .u32 a4), (11, .pointer (some ⟨x2.1, 0, none⟩)), (13, .pointer (some ⟨x5.1, 0, none⟩)), (15, .int .i64 r3.1), (25, .int .i64 (IntKind.i64.wrap (32 + (Int.tmod (bitsOf .and .i64 a1 1099511627775) (IntKind.i64.wrap ((IntKind.i64.wrap (8 * (IntKind.i64.wrap ((((subl l0 0 (min ((l0.length : Int)) 500)).length : Int)) + 6)))) - 32)))))), (26, .int .i64 s9.2.2), (27, .int .i64 s7.2.2.2)]) (fun s9 x18 => Ro E8 A0 c0 (subl l0 0 (min ((l0.length : Int)) 500)) :: Cl x2.1 68 [.int .i64 r3.2.2.2.1.1, .map (some x2.2.1), .slice x18.1.1 s9.2.1.length x18.1.2, .bool r3.2.2.2.1.2.1, .int .i64 r3.2.2.2.1.2.2.1, .int .i64 r3.2.2.2.1.2.2.2.1, .int .u64 r3.2.2.2.1.2.2.2.2.1, .int .i64 r3.2.2.2.1.2.2.2.2.2.1, .int .i64 r3.2.2.2.1.2.2.2.2.2.2] :: Mp (Elt.slice E8) x2.2.1 s9.1 :: Hb 82 x18.1.1 x18.1.2 x18.2 s9.2.1 :: Bb 5 x18.2 s9.2.1 :: Cl x5.1 45 [.int .i64 r2p0.1.1, .map (some x5.2), .pointer (some ⟨x2.1, 0, none⟩), .int .i64 r2p0.1.2.1, .int .u64 r2p0.1.2.2.1, .int .i64 r2p0.1.2.2.2] :: Mp E64 x5.2 r3.2.2.1 :: hs) (fun s9 => law4_PageFlips.k8 s7 s9 = some o1) (fun s9 x18 hk8 => ?_) (fun J8 => ?_)
              ·unfold law4_PageFlips.k8 at hk8
               refine T.region ?_
               refine T.move .list rfl (wants0 rfl) rfl rfl ?_
               refine T.bin .list rfl (wants0 rfl) rfl rfl rfl rfl ?_
               refine T.assign .list rfl (wants0 rfl) rfl rfl ?_
               refine T.nil ?_
               refine T.then_normal ?_
               obtain rfl := inv_some hk8
               exact T.le (EnvLe.cons rfl (EnvLe.cons rfl (EnvLe.cons rfl (EnvLe.cons rfl (EnvLe.cons rfl (EnvLe.cons rfl (EnvLe.cons rfl (EnvLe.cons rfl EnvLe.nil)))))))) (T.pick [0, 1, 2, 3, 4, 5, 6] 7 rfl rfl (Nat.le_add_left _ _) rfl (hm1 (s9.1, s9.2.1, s9.2.2, IntKind.i64.wrap (s7.2.2.2 + 1)) rfl ((x18.1.1, x18.1.2), x18.2)))
              ·refine T.block ?_
               refine T.seq ?_
               refine T.region ?_
               refine T.move .list rfl (wants0 rfl) rfl rfl ?_
               refine T.move .list rfl (wants0 rfl) rfl rfl ?_
               refine T.conv .list rfl (wants0 rfl) rfl rfl rfl ?_
               refine T.shr .list rfl (wants0 rfl) rfl rfl rfl (wrap_nn rfl) ?_
               refine T.bin .list rfl (wants0 rfl) rfl rfl rfl rfl ?_
               refine T.bin .list rfl (wants0 rfl) rfl rfl rfl rfl ?_
               refine T.nil ?_
               refine T.then_normal ?_
               refine T.cond rfl (fun hb14 => ?_) (fun hb14 => ?_)
               ·replace hk7 := inv_posB hb14 hk7
                refine T.seq ?_
                refine T.region ?_
                refine T.move .list rfl (wants0 rfl) rfl rfl ?_
                refine T.move .list rfl (wants0 rfl) rfl rfl ?_
                refine T.move .list rfl (wants0 rfl) rfl rfl ?_
                refine T.move .list rfl (wants0 rfl) rfl rfl ?_
                refine T.bin .list rfl (wants0 rfl) rfl rfl rfl rfl ?_
                refine T.pick [1, 2, 3, 4, 0, 5, 6] 7 rfl rfl (Nat.le_add_left _ _) (hs' := Cl x2.1 68 [.int .i64 r3.2.2.2.1.1, .map (some x2.2.1), .slice x16.1.1 s7.2.1.length x16.1.2, .bool r3.2.2.2.1.2.1, .int .i64 r3.2.2.2.1.2.2.1, .int .i64 r3.2.2.2.1.2.2.2.1, .int .u64 r3.2.2.2.1.2.2.2.2.1, .int .i64 r3.2.2.2.1.2.2.2.2.2.1, .int .i64 r3.2.2.2.1.2.2.2.2.2.2] :: Mp (Elt.slice E8) x2.2.1 s7.1 :: Hb 82 x16.1.1 x16.1.2 x16.2 s7.2.1 :: Bb 5 x16.2 s7.2.1 :: Ro E8 A0 c0 (subl l0 0 (min ((l0.length : Int)) 500)) :: Cl x5.1 45 [.int .i64 r2p0.1.1, .map (some x5.2), .pointer (some ⟨x2.1, 0, none⟩), .int .i64 r2p0.1.2.1, .int .u64 r2p0.1.2.2.1, .int .i64 r2p0.1.2.2.2] :: Mp E64 x5.2 r3.2.2.1 :: hs) rfl ?_
                obtain ⟨r8, hg8, hk7⟩ := inv_bind hk7
                refine T.call .list (wants0 rfl) rfl (run_callF (vs := [_, _, _]) rfl Try.func16 rfl (by decide) rfl) (fun w hS => disk_Disk_Flip.c hS (o0 := (r3.2.2.2.1.1, r3.2.2.2.1.2.1, r3.2.2.2.1.2.2.1, r3.2.2.2.1.2.2.2.1, r3.2.2.2.1.2.2.2.2.1, r3.2.2.2.1.2.2.2.2.2.1, r3.2.2.2.1.2.2.2.2.2.2)) (q0b := s7.1) (q0c := s7.2.1)  hg8) (fun x19 => ?_)
                refine T.nil ?_
                refine T.then_normal ?_
                refine T.region ?_
                refine T.move .list rfl (wants0 rfl) rfl rfl ?_
                refine T.bin .list rfl (wants0 rfl) rfl rfl rfl rfl ?_
                refine T.assign .list rfl (wants0 rfl) rfl rfl ?_
                refine T.nil ?_
                refine T.in_normal ?_
                refine T.then_normal ?_
                exact T.le (EnvLe.cons rfl (EnvLe.cons rfl (EnvLe.cons rfl (EnvLe.cons rfl (EnvLe.cons rfl (EnvLe.cons rfl (EnvLe.cons rfl (EnvLe.cons rfl EnvLe.nil)))))))) (T.pick [4, 0, 1, 2, 3, 5, 6] 7 rfl rfl (Nat.le_add_left _ _) rfl (J8 (r8.2.1, r8.2.2, IntKind.i64.wrap (s7.2.2.1 + 1)) ((x19.1.1, x19.1.2), x19.2) hk7))
               ·replace hk7 := inv_negB hb14 hk7
                refine T.skip ?_
                refine T.in_normal ?_
                refine T.then_normal ?_
                exact T.le (EnvLe.cons rfl (EnvLe.cons rfl (EnvLe.cons rfl (EnvLe.cons rfl (EnvLe.cons rfl (EnvLe.cons rfl (EnvLe.cons rfl (EnvLe.cons rfl EnvLe.nil)))))))) (T.pick [0, 1, 2, 3, 4, 5, 6] 7 rfl rfl (Nat.le_add_left _ _) rfl (J8 (s7.1, s7.2.1, s7.2.2.1) ((x16.1.1, x16.1.2), x16.2) hk7))
             ·replace hk7 := inv_negB hb13 hk7
              refine T.exit ?_
              refine T.then_exit ?_
              refine T.then_exit ?_
              obtain rfl := inv_some hk7
              obtain rfl := hx1 _ rfl
              refine T.in_hit ?_
              refine T.then_normal ?_
              exact T.le (EnvLe.cons rfl (EnvLe.cons rfl (EnvLe.cons rfl (EnvLe.cons rfl EnvLe.nil)))) (T.pick [0, 5, 6, 1, 2, 3, 4] 7 rfl rfl (Nat.le_add_left _ _) rfl (J6 (s7.1, s7.2.1, s7.2.2.1) ((x16.1.1, x16.1.2), x16.2) hk5))
            ·refine T.region ?_
             refine T.move .list rfl (wants0 rfl) rfl rfl ?_
             refine T.bin .list rfl (wants0 rfl) rfl rfl rfl rfl ?_
             refine T.move .list rfl (wants0 rfl) rfl rfl ?_
             refine T.bool (b := (decide (s7.2.2.2 < 32))) (fun hb15 => ?_) (fun hb15 => ?_)
             ·replace he1 := inv_posB hb15 he1
              refine T.move .list rfl (wants1 rfl rfl rfl hb15) rfl rfl ?_
              refine T.move .list rfl (wants1 rfl rfl rfl hb15) rfl rfl ?_
              refine T.bin .list rfl (wants1 rfl rfl rfl hb15) rfl rfl rfl rfl ?_
              refine T.bin .list rfl (wants1 rfl rfl rfl hb15) rfl rfl rfl rfl ?_
              refine T.pickT .list rfl (wants0 rfl) rfl rfl hb15 rfl ?_
              refine T.nil ?_
              refine T.then_normal ?_
              exact T.le (EnvLe.cons rfl (EnvLe.cons rfl (EnvLe.cons rfl (EnvLe.cons rfl (EnvLe.cons rfl (EnvLe.cons rfl (EnvLe.cons rfl (EnvLe.cons rfl (EnvLe.cons rfl EnvLe.nil))))))))) (T.pick [0, 1, 2, 3, 4, 5, 6] 7 rfl rfl (Nat.le_add_left _ _) rfl (J7 (decide (((IntKind.i64.wrap ((IntKind.i64.wrap (32 + (Int.tmod (bitsOf .and .i64 a1 1099511627775) (IntKind.i64.wrap ((IntKind.i64.wrap (8 * (IntKind.i64.wrap ((((subl l0 0 (min ((l0.length : Int)) 500)).length : Int)) + 6)))) - 32))))) + s7.2.2.2))) < 65536)) () he1))
             ·replace he1 := inv_negB hb15 he1
              refine T.leave .list (wantsNot rfl rfl rfl hb15) rfl ?_
              refine T.leave .list (wantsNot rfl rfl rfl hb15) rfl ?_
              refine T.leave .list (wantsNot rfl rfl rfl hb15) rfl ?_
              refine T.leave .list (wantsNot rfl rfl rfl hb15) rfl ?_
              refine T.pickF .list rfl (wants0 rfl) rfl rfl hb15 rfl ?_
              refine T.nil ?_
              refine T.then_normal ?_
              exact T.le (EnvLe.cons rfl (EnvLe.cons rfl (EnvLe.cons rfl (EnvLe.cons rfl (EnvLe.cons rfl (EnvLe.cons rfl (EnvLe.cons rfl (EnvLe.cons rfl (EnvLe.cons rfl EnvLe.nil))))))))) (T.pick [0, 1, 2, 3, 4, 5, 6] 7 rfl rfl (Nat.le_add_left _ _) rfl (J7 false () he1))
         ·refine T.region ?_
          refine T.move .list rfl (wants0 rfl) rfl rfl ?_
          refine T.bin .list rfl (wants0 rfl) rfl rfl rfl rfl ?_
          refine T.move .list rfl (wants0 rfl) rfl rfl ?_
          refine T.bool (b := (decide (r5.2 = 0))) (fun hb16 => ?_) (fun hb16 => ?_)
          ·replace hk4 := inv_posB hb16 hk4
           refine T.move .list rfl (wants1 rfl rfl rfl (not_t hb16)) rfl rfl ?_
           refine T.strRo .list 0 rfl rfl (wants1 rfl rfl rfl (not_t hb16)) rfl rfl rfl ?_
           refine T.move .list rfl (wants1 rfl rfl rfl (not_t hb16)) rfl rfl ?_
           refine T.strRo .list 7 rfl rfl (wants1 rfl rfl rfl (not_t hb16)) rfl rfl rfl ?_
           refine T.strNe .list rfl (wants1 rfl rfl rfl (not_t hb16)) rfl (l := r5.1) (l' := (subl l0 0 (min ((l0.length : Int)) 500))) rfl rfl ?_
           refine T.pickF .list rfl (wants0 rfl) rfl rfl (not_t hb16) rfl ?_
           refine T.nil ?_
           refine T.then_normal ?_
           exact T.le (EnvLe.cons rfl (EnvLe.cons rfl (EnvLe.cons rfl (EnvLe.cons rfl (EnvLe.cons rfl (EnvLe.cons rfl (EnvLe.cons rfl (EnvLe.cons rfl EnvLe.nil)))))))) (T.pick [7, 3, 4, 5, 6, 1, 2] 8 rfl rfl (Nat.le_add_left _ _) rfl (J5 (!(decide (r5.1 = (subl l0 0 (min ((l0.length : Int)) 500))))) () hk4))
          ·replace hk4 := inv_negB hb16 hk4
           refine T.leave .list (wantsNot rfl rfl rfl (not_f hb16)) rfl ?_
           refine T.leave .list (wantsNot rfl rfl rfl (not_f hb16)) rfl ?_
           refine T.leave .list (wantsNot rfl rfl rfl (not_f hb16)) rfl ?_
           refine T.leave .list (wantsNot rfl rfl rfl (not_f hb16)) rfl ?_
           refine T.leave .list (wantsNot rfl rfl rfl (not_f hb16)) rfl ?_
           refine T.pickT .list rfl (wants0 rfl) rfl rfl (not_f hb16) rfl ?_
           refine T.nil ?_
           refine T.then_normal ?_
           exact T.le (EnvLe.cons rfl (EnvLe.cons rfl (EnvLe.cons rfl (EnvLe.cons rfl (EnvLe.cons rfl (EnvLe.cons rfl (EnvLe.cons rfl (EnvLe.cons rfl EnvLe.nil)))))))) (T.pick [7, 3, 4, 5, 6, 1, 2] 8 rfl rfl (Nat.le_add_left _ _) rfl (J5 true () hk4))
        ·refine T.seq ?_
         refine T.region ?_
         refine T.assign .list rfl (wants0 rfl) rfl rfl ?_
         refine T.nil ?_
         refine T.then_normal ?_
         refine T.block ?_
         obtain ⟨e2, hl2, hk3⟩ := inv_bind hk3
         refine T.le (EnvLe.cons rfl (EnvLe.cons rfl (EnvLe.cons rfl (EnvLe.cons rfl (EnvLe.cons rfl (EnvLe.cons rfl (EnvLe.cons rfl (EnvLe.cons rfl (EnvLe.cons rfl EnvLe.nil))))))))) (T.pick [7, 3, 4, 5, 6, 1, 2, 8] 9 rfl rfl (Nat.le_add_left _ _) rfl (T.loop (s0 := (s3.1, s3.2.1, 0)) (env := fun s10 x20 => [(0, .slice A0 ((subl l0 0 (min ((l0.length : Int)) 500)).length) c0), (1, .int .i64 a1), (4, .int .u32 a4), (11, .pointer (some ⟨x2.1, 0, none⟩)), (13, .pointer (some ⟨x5.1, 0, none⟩)), (15, .int .i64 r3.1), (17, .pointer (some ⟨b1, 0, none⟩)), (18, .int .i64 (IntKind.i64.wrap (8 * (IntKind.i64.wrap ((((subl l0 0 (min ((l0.length : Int)) 500)).length : Int)) + 6))))), (22, .int .i64 s10.2.2)]) (hs := fun (s10 : (List (Int × (List UInt8))) × (List (Int × List UInt8)) × Int) (x20 : (Option Addr × Nat) × (Ads)) => Ro E8 A0 c0 (subl l0 0 (min ((l0.length : Int)) 500)) :: Cl x2.1 68 [.int .i64 r3.2.2.2.1.1, .map (some x2.2.1), .slice x20.1.1 s10.2.1.length x20.1.2, .bool r3.2.2.2.1.2.1, .int .i64 r3.2.2.2.1.2.2.1, .int .i64 r3.2.2.2.1.2.2.2.1, .int .u64 r3.2.2.2.1.2.2.2.2.1, .int .i64 r3.2.2.2.1.2.2.2.2.2.1, .int .i64 r3.2.2.2.1.2.2.2.2.2.2] :: Mp (Elt.slice E8) x2.2.1 s10.1 :: Hb 82 x20.1.1 x20.1.2 x20.2 s10.2.1 :: Bb 5 x20.2 s10.2.1 :: Cl x5.1 45 [.int .i64 r2p0.1.1, .map (some x5.2), .pointer (some ⟨x2.1, 0, none⟩), .int .i64 r2p0.1.2.1, .int .u64 r2p0.1.2.2.1, .int .i64 r2p0.1.2.2.2] :: Mp E64 x5.2 r3.2.2.1 :: Cl b1 51 (s3.2.2.map (Value.int .i64)) :: hs) hl2 ((x8.1.1, x8.1.2), x8.2) (fun K2 s10 x20 o2 he2 hm2 hx2 => ?_)))
         unfold law4_PageFlips.st2 at he2
         refine T.seq ?_
         refine T.seq ?_
         refine T.region ?_
         refine T.move .list rfl (wants0 rfl) rfl rfl ?_
         refine T.bin .list rfl (wants0 rfl) rfl rfl rfl rfl ?_
         refine T.nil ?_
         refine T.then_normal ?_
         refine T.cond rfl (fun hb17 => ?_) (fun hb17 => ?_)
         ·replace he2 := inv_posB hb17 he2
          refine T.skip ?_
          refine T.then_normal ?_
          refine T.seq ?_
          refine T.block ?_
          refine T.region ?_
          refine T.move .list rfl (wants0 rfl) rfl rfl ?_
          refine T.move .list rfl (wants0 rfl) rfl rfl ?_
          refine T.move .list rfl (wants0 rfl) rfl rfl ?_
          obtain ⟨hc4, he2⟩ := inv_chk he2
          refine T.idxArr .list rfl (wants0 rfl) rfl rfl rfl hc4.1 hc4.2 ?_
          obtain ⟨hc5, he2⟩ := inv_chk he2
          refine T.ldArr .list 7 rfl rfl (wants0 rfl) rfl rfl hc5 ?_
          refine T.pick [1, 2, 3, 4, 0, 5, 6, 7] 8 rfl rfl (Nat.le_add_left _ _) (hs' := Cl x2.1 68 [.int .i64 r3.2.2.2.1.1, .map (some x2.2.1), .slice x20.1.1 s10.2.1.length x20.1.2, .bool r3.2.2.2.1.2.1, .int .i64 r3.2.2.2.1.2.2.1, .int .i64 r3.2.2.2.1.2.2.2.1, .int .u64 r3.2.2.2.1.2.2.2.2.1, .int .i64 r3.2.2.2.1.2.2.2.2.2.1, .int .i64 r3.2.2.2.1.2.2.2.2.2.2] :: Mp (Elt.slice E8) x2.2.1 s10.1 :: Hb 82 x20.1.1 x20.1.2 x20.2 s10.2.1 :: Bb 5 x20.2 s10.2.1 :: Ro E8 A0 c0 (subl l0 0 (min ((l0.length : Int)) 500)) :: Cl x5.1 45 [.int .i64 r2p0.1.1, .map (some x5.2), .pointer (some ⟨x2.1, 0, none⟩), .int .i64 r2p0.1.2.1, .int .u64 r2p0.1.2.2.1, .int .i64 r2p0.1.2.2.2] :: Mp E64 x5.2 r3.2.2.1 :: Cl b1 51 (s3.2.2.map (Value.int .i64)) :: hs) rfl ?_
          obtain ⟨r9, hg9, he2⟩ := inv_bind he2
          refine T.call .list (wants0 rfl) rfl (run_callF (vs := [_, _, _]) rfl Try.func16 rfl (by decide) rfl) (fun w hS => disk_Disk_Flip.c hS (o0 := (r3.2.2.2.1.1, r3.2.2.2.1.2.1, r3.2.2.2.1.2.2.1, r3.2.2.2.1.2.2.2.1, r3.2.2.2.1.2.2.2.2.1, r3.2.2.2.1.2.2.2.2.2.1, r3.2.2.2.1.2.2.2.2.2.2)) (q0b := s10.1) (q0c := s10.2.1)  hg9) (fun x21 => ?_)
          refine T.nil ?_
          refine T.in_normal ?_
          refine T.then_normal ?_
          refine T.region ?_
          refine T.move .list rfl (wants0 rfl) rfl rfl ?_
          refine T.bin .list rfl (wants0 rfl) rfl rfl rfl rfl ?_
          refine T.assign .list rfl (wants0 rfl) rfl rfl ?_
          refine T.nil ?_
          refine T.then_normal ?_
          obtain rfl := inv_some he2
          exact T.le (EnvLe.cons rfl (EnvLe.cons rfl (EnvLe.cons rfl (EnvLe.cons rfl (EnvLe.cons rfl (EnvLe.cons rfl (EnvLe.cons rfl (EnvLe.cons rfl (EnvLe.cons rfl EnvLe.nil))))))))) (T.pick [4, 0, 1, 2, 3, 5, 6, 7] 8 rfl rfl (Nat.le_add_left _ _) rfl (hm2 (r9.2.1, r9.2.2, IntKind.i64.wrap (s10.2.2 + 1)) rfl ((x21.1.1, x21.1.2), x21.2)))
         ·replace he2 := inv_negB hb17 he2
          refine T.exit ?_
          refine T.then_exit ?_
          refine T.then_exit ?_
          obtain rfl := inv_some he2
          obtain rfl := hx2 _ rfl
          refine T.in_hit ?_
          refine T.then_normal ?_
          exact T.le (EnvLe.cons rfl (EnvLe.cons rfl (EnvLe.cons rfl (EnvLe.cons rfl (EnvLe.cons rfl (EnvLe.cons rfl (EnvLe.cons rfl EnvLe.nil))))))) (T.pick [0, 1, 2, 3, 4, 5, 6] 8 rfl rfl (Nat.le_add_left _ _) rfl (J4 (s10.1, s10.2.1) ((x20.1.1, x20.1.2), x20.2) hk3))
      ·refine T.seq ?_
       refine T.region ?_
       refine T.assign .list rfl (wants0 rfl) rfl rfl ?_
       refine T.nil ?_
       refine T.then_normal ?_
       refine T.block ?_
       obtain ⟨e3, hl3, hk2⟩ := inv_bind hk2
       refine T.le (EnvLe.cons rfl (EnvLe.cons rfl (EnvLe.cons rfl (EnvLe.cons rfl (EnvLe.cons rfl (EnvLe.cons rfl (EnvLe.cons rfl (EnvLe.cons rfl (EnvLe.cons rfl EnvLe.nil))))))))) (T.pick [7, 3, 4, 5, 6, 1, 2, 0] 8 rfl rfl (Nat.le_add_left _ _) rfl (T.loop (s0 := (r3.2.2.2.2.1, r3.2.2.2.2.2, ([bitsOf .and .i64 a1 65535, bitsOf .and .i64 a2 65535, bitsOf .and .i64 a3 65535] : List Int), 0)) (env := fun s11 x22 => [(0, .slice A0 ((subl l0 0 (min ((l0.length : Int)) 500)).length) c0), (1, .int .i64 a1), (4, .int .u32 a4), (11, .pointer (some ⟨x2.1, 0, none⟩)), (13, .pointer (some ⟨x5.1, 0, none⟩)), (15, .int .i64 r3.1), (17, .pointer (some ⟨b1, 0, none⟩)), (18, .int .i64 (IntKind.i64.wrap (8 * (IntKind.i64.wrap ((((subl l0 0 (min ((l0.length : Int)) 500)).length : Int)) + 6))))), (19, .int .i64 s11.2.2.2)]) (hs := fun (s11 : (List (Int × (List UInt8))) × (List (Int × List UInt8)) × List Int × Int) (x22 : (Option Addr × Nat) × (Ads)) => Ro E8 A0 c0 (subl l0 0 (min ((l0.length : Int)) 500)) :: Cl x2.1 68 [.int .i64 r3.2.2.2.1.1, .map (some x2.2.1), .slice x22.1.1 s11.2.1.length x22.1.2, .bool r3.2.2.2.1.2.1, .int .i64 r3.2.2.2.1.2.2.1, .int .i64 r3.2.2.2.1.2.2.2.1, .int .u64 r3.2.2.2.1.2.2.2.2.1, .int .i64 r3.2.2.2.1.2.2.2.2.2.1, .int .i64 r3.2.2.2.1.2.2.2.2.2.2] :: Mp (Elt.slice E8) x2.2.1 s11.1 :: Hb 82 x22.1.1 x22.1.2 x22.2 s11.2.1 :: Bb 5 x22.2 s11.2.1 :: Cl x5.1 45 [.int .i64 r2p0.1.1, .map (some x5.2), .pointer (some ⟨x2.1, 0, none⟩), .int .i64 r2p0.1.2.1, .int .u64 r2p0.1.2.2.1, .int .i64 r2p0.1.2.2.2] :: Mp E64 x5.2 r3.2.2.1 :: Cl b1 51 (s11.2.2.1.map (Value.int .i64)) :: hs) hl3 ((x7.1.1, x7.1.2), x7.2) (fun K3 s11 x22 o3 he3 hm3 hx3 => ?_)))
       unfold law4_PageFlips.st3 at he3
       refine T.seq ?_
       refine T.seq ?_
       refine T.region ?_
       refine T.move .list rfl (wants0 rfl) rfl rfl ?_
       refine T.bin .list rfl (wants0 rfl) rfl rfl rfl rfl ?_
       refine T.nil ?_
       refine T.then_normal ?_
       refine T.cond rfl (fun hb18 => ?_) (fun hb18 => ?_)
       ·replace he3 := inv_posB hb18 he3
        refine T.skip ?_
        refine T.then_normal ?_
        refine T.seq ?_
        refine T.block ?_
        refine T.seqJ (fun (s12 : List Int) (x23 : Unit) => [(0, .slice A0 ((subl l0 0 (min ((l0.length : Int)) 500)).length) c0), (1, .int .i64 a1), (4, .int .u32 a4), (11, .pointer (some ⟨x2.1, 0, none⟩)), (13, .pointer (some ⟨x5.1, 0, none⟩)), (15, .int .i64 r3.1), (17, .pointer (some ⟨b1, 0, none⟩)), (18, .int .i64 (IntKind.i64.wrap (8 * (IntKind.i64.wrap ((((subl l0 0 (min ((l0.length : Int)) 500)).length : Int)) + 6))))), (19, .int .i64 s11.2.2.2)]) (fun s12 x23 => Ro E8 A0 c0 (subl l0 0 (min ((l0.length : Int)) 500)) :: Cl x2.1 68 [.int .i64 r3.2.2.2.1.1, .map (some x2.2.1), .slice x22.1.1 s11.2.1.length x22.1.2, .bool r3.2.2.2.1.2.1, .int .i64 r3.2.2.2.1.2.2.1, .int .i64 r3.2.2.2.1.2.2.2.1, .int .u64 r3.2.2.2.1.2.2.2.2.1, .int .i64 r3.2.2.2.1.2.2.2.2.2.1, .int .i64 r3.2.2.2.1.2.2.2.2.2.2] :: Mp (Elt.slice E8) x2.2.1 s11.1 :: Hb 82 x22.1.1 x22.1.2 x22.2 s11.2.1 :: Bb 5 x22.2 s11.2.1 :: Cl x5.1 45 [.int .i64 r2p0.1.1, .map (some x5.2), .pointer (some ⟨x2.1, 0, none⟩), .int .i64 r2p0.1.2.1, .int .u64 r2p0.1.2.2.1, .int .i64 r2p0.1.2.2.2] :: Mp E64 x5.2 r3.2.2.1 :: Cl b1 51 (s12.map (Value.int .i64)) :: hs) (fun s12 => law4_PageFlips.k9 s11 r3 s12 = some o3) (fun s12 x23 hk9 => ?_) (fun J9 => ?_)
        ·unfold law4_PageFlips.k9 at hk9
         refine T.region ?_
         refine T.move .list rfl (wants0 rfl) rfl rfl ?_
         refine T.move .list rfl (wants0 rfl) rfl rfl ?_
         refine T.move .list rfl (wants0 rfl) rfl rfl ?_
         obtain ⟨hc6, hk9⟩ := inv_chk hk9
         refine T.idxArr .list rfl (wants0 rfl) rfl rfl rfl hc6.1 hc6.2 ?_
         obtain ⟨hc7, hk9⟩ := inv_chk hk9
         refine T.ldArr .list 7 rfl rfl (wants0 rfl) rfl rfl hc7 ?_
         refine T.pick [1, 2, 3, 4, 0, 5, 6, 7] 8 rfl rfl (Nat.le_add_left _ _) (hs' := Cl x2.1 68 [.int .i64 r3.2.2.2.1.1, .map (some x2.2.1), .slice x22.1.1 s11.2.1.length x22.1.2, .bool r3.2.2.2.1.2.1, .int .i64 r3.2.2.2.1.2.2.1, .int .i64 r3.2.2.2.1.2.2.2.1, .int .u64 r3.2.2.2.1.2.2.2.2.1, .int .i64 r3.2.2.2.1.2.2.2.2.2.1, .int .i64 r3.2.2.2.1.2.2.2.2.2.2] :: Mp (Elt.slice E8) x2.2.1 s11.1 :: Hb 82 x22.1.1 x22.1.2 x22.2 s11.2.1 :: Bb 5 x22.2 s11.2.1 :: Ro E8 A0 c0 (subl l0 0 (min ((l0.length : Int)) 500)) :: Cl x5.1 45 [.int .i64 r2p0.1.1, .map (some x5.2), .pointer (some ⟨x2.1, 0, none⟩), .int .i64 r2p0.1.2.1, .int .u64 r2p0.1.2.2.1, .int .i64 r2p0.1.2.2.2] :: Mp E64 x5.2 r3.2.2.1 :: Cl b1 51 (s12.map (Value.int .i64)) :: hs) rfl ?_
         obtain ⟨r10, hg10, hk9⟩ := inv_bind hk9
         refine T.call .list (wants0 rfl) rfl (run_callF (vs := [_, _, _]) rfl Try.func16 rfl (by decide) rfl) (fun w hS => disk_Disk_Flip.c hS (o0 := (r3.2.2.2.1.1, r3.2.2.2.1.2.1, r3.2.2.2.1.2.2.1, r3.2.2.2.1.2.2.2.1, r3.2.2.2.1.2.2.2.2.1, r3.2.2.2.1.2.2.2.2.2.1, r3.2.2.2.1.2.2.2.2.2.2)) (q0b := s11.1) (q0c := s11.2.1)  hg10) (fun x24 => ?_)
         refine T.nil ?_
         refine T.in_normal ?_
         refine T.then_normal ?_
         refine T.region ?_
         refine T.move .list rfl (wants0 rfl) rfl rfl ?_
         refine T.bin .list rfl (wants0 rfl) rfl rfl rfl rfl ?_
         refine T.assign .list rfl (wants0 rfl) rfl rfl ?_
         refine T.nil ?_
         refine T.then_normal ?_
         obtain rfl := inv_some hk9
         exact T.le (EnvLe.cons rfl (EnvLe.cons rfl (EnvLe.cons rfl (EnvLe.cons rfl (EnvLe.cons rfl (EnvLe.cons rfl (EnvLe.cons rfl (EnvLe.cons rfl (EnvLe.cons rfl EnvLe.nil))))))))) (T.pick [4, 0, 1, 2, 3, 5, 6, 7] 8 rfl rfl (Nat.le_add_left _ _) rfl (hm3 (r10.2.1, r10.2.2, s12, IntKind.i64.wrap (s11.2.2.2 + 1)) rfl ((x24.1.1, x24.1.2), x24.2)))
        ·refine T.seq ?_
         refine T.region ?_
         refine T.move .list rfl (wants0 rfl) rfl rfl ?_
         refine T.bin .list rfl (wants0 rfl) rfl rfl rfl rfl ?_
         refine T.bin .list rfl (wants0 rfl) rfl rfl rfl rfl ?_
         refine T.nil ?_
         refine T.then_normal ?_
         refine T.cond rfl (fun hb19 => ?_) (fun hb19 => ?_)
         ·replace he3 := inv_posB hb19 he3
          refine T.region ?_
          refine T.move .list rfl (wants0 rfl) rfl rfl ?_
          refine T.move .list rfl (wants0 rfl) rfl rfl ?_
          obtain ⟨hc8, he3⟩ := inv_chk he3
          refine T.idxArr .list rfl (wants0 rfl) rfl rfl rfl hc8.1 hc8.2 ?_
          obtain ⟨hc9, he3⟩ := inv_chk he3
          refine T.ldArr .list 7 rfl rfl (wants0 rfl) rfl rfl hc9 ?_
          refine T.move .list rfl (wants0 rfl) rfl rfl ?_
          obtain ⟨hc10, he3⟩ := inv_chk he3
          refine T.rem .list rfl (wants0 rfl) rfl rfl rfl hc10 ?_
          obtain ⟨hc11, he3⟩ := inv_chk he3
          refine T.idxArr .list rfl (wants0 rfl) rfl rfl rfl hc11.1 hc11.2 ?_
          obtain ⟨hc12, he3⟩ := inv_chk he3
          refine T.stArr .list 7 rfl rfl (wants0 rfl) rfl rfl rfl rfl rfl hc12 rfl ?_
          refine T.nil ?_
          refine T.then_normal ?_
          exact T.le (EnvLe.cons rfl (EnvLe.cons rfl (EnvLe.cons rfl (EnvLe.cons rfl (EnvLe.cons rfl (EnvLe.cons rfl (EnvLe.cons rfl (EnvLe.cons rfl (EnvLe.cons rfl EnvLe.nil))))))))) (T.pick [0, 1, 2, 3, 4, 5, 6, 7] 8 rfl rfl (Nat.le_add_left _ _) rfl (J9 ((s11.2.2.1).set ((0 + (s11.2.2.2 : Int).toNat * 1)) (Int.tmod (((s11.2.2.1).getD ((0 + (s11.2.2.2 : Int).toNat * 1)) default)) (IntKind.i64.wrap (8 * (IntKind.i64.wrap ((((subl l0 0 (min ((l0.length : Int)) 500)).length : Int)) + 6)))))) () he3))
         ·replace he3 := inv_negB hb19 he3
          refine T.skip ?_
          refine T.then_normal ?_
          exact T.le (EnvLe.cons rfl (EnvLe.cons rfl (EnvLe.cons rfl (EnvLe.cons rfl (EnvLe.cons rfl (EnvLe.cons rfl (EnvLe.cons rfl (EnvLe.cons rfl (EnvLe.cons rfl EnvLe.nil))))))))) (T.pick [0, 1, 2, 3, 4, 5, 6, 7] 8 rfl rfl (Nat.le_add_left _ _) rfl (J9 s11.2.2.1 () he3))
       ·replace he3 := inv_negB hb18 he3
        refine T.exit ?_
        refine T.then_exit ?_
        refine T.then_exit ?_
        obtain rfl := inv_some he3
        obtain rfl := hx3 _ rfl
        refine T.in_hit ?_
        refine T.then_normal ?_
        exact T.le (EnvLe.cons rfl (EnvLe.cons rfl (EnvLe.cons rfl (EnvLe.cons rfl (EnvLe.cons rfl (EnvLe.cons rfl (EnvLe.cons rfl (EnvLe.cons rfl EnvLe.nil)))))))) (T.pick [0, 1, 2, 3, 4, 5, 6, 7] 8 rfl rfl (Nat.le_add_left _ _) rfl (J3 (s11.1, s11.2.1, s11.2.2.1) ((x22.1.1, x22.1.2), x22.2) hk2))
   ·refine T.region ?_
    refine T.move .list rfl (wants0 rfl) rfl rfl ?_
    refine T.bin .list rfl (wants0 rfl) rfl rfl rfl rfl ?_
    refine T.move .list rfl (wants0 rfl) rfl rfl ?_
    refine T.bool (b := (decide (r2p1 = 0))) (fun hb20 => ?_) (fun hb20 => ?_)
    ·replace hr := inv_posB hb20 hr
     refine T.move .list rfl (wants1 rfl rfl rfl (not_t hb20)) rfl rfl ?_
     refine T.ptrEq (pt := 45) .list rfl (wants1 rfl rfl rfl (not_t hb20)) rfl rfl rfl (by kernel_rfl) (.inr rfl) rfl ?_
     refine T.pickF .list rfl (wants0 rfl) rfl rfl (not_t hb20) rfl ?_
     refine T.nil ?_
     refine T.then_normal ?_
     exact T.le (EnvLe.cons rfl (EnvLe.cons rfl (EnvLe.cons rfl (EnvLe.cons rfl (EnvLe.cons rfl (EnvLe.cons rfl (EnvLe.cons rfl (EnvLe.cons rfl EnvLe.nil)))))))) (T.pick [6, 0, 1, 2, 3, 4, 5] 8 rfl rfl (Nat.le_add_left _ _) rfl (J2 false () hr))
    ·replace hr := inv_negB hb20 hr
     refine T.leave .list (wantsNot rfl rfl rfl (not_f hb20)) rfl ?_
     refine T.leave .list (wantsNot rfl rfl rfl (not_f hb20)) rfl ?_
     refine T.pickT .list rfl (wants0 rfl) rfl rfl (not_f hb20) rfl ?_
     refine T.nil ?_
     refine T.then_normal ?_
     exact T.le (EnvLe.cons rfl (EnvLe.cons rfl (EnvLe.cons rfl (EnvLe.cons rfl (EnvLe.cons rfl (EnvLe.cons rfl (EnvLe.cons rfl (EnvLe.cons rfl EnvLe.nil)))))))) (T.pick [6, 0, 1, 2, 3, 4, 5] 8 rfl rfl (Nat.le_add_left _ _) rfl (J2 true () hr))
end Go.Proofs.Ytccifnjlfhdpiaa
