/- DiskU: what the functions compute, and that the program computes it; printed by a program of ours. -/
import Derived.Test.YtfdogeebkbaadaaDiskT
set_option linter.unusedVariables false
set_option linter.unusedSimpArgs false
namespace Go.Proofs.Ytfdogeebkbaadaa
open Go.RowKit
noncomputable def law3_DiskTurned.k5 (s5 : Unit) : Option Bool :=
  (law3_told.impl ).bind fun r5 => some r5
noncomputable def law3_DiskTurned.st1 (s1 : Int × (List (Int × (List UInt8))) × (List (Int × List UInt8)) × Bool × Int × Int × Int × Int × Int) (r4 : Int × (List (Int × (List UInt8))) × (List (Int × List UInt8))) (s2 : List (List UInt8)) (s6 : Int) : Option (Int ⊕ (Bool ⊕ Unit)) :=
  (if ((decide (s6 < 4))) = true then (disk_Disk_Read.impl ((s1.1, s1.2.2.2.1, s1.2.2.2.2.1, s1.2.2.2.2.2.1, s1.2.2.2.2.2.2.1, s1.2.2.2.2.2.2.2.1, s1.2.2.2.2.2.2.2.2)) r4.2.1 r4.2.2 s6).bind fun r6 => chk (0 ≤ s6 ∧ s6 < 4) (chk ((0 + (s6 : Int).toNat * 1) < s2.length) ((if ((!(decide (r6.1 = ((s2.getD ((0 + (s6 : Int).toNat * 1)) default)))))) = true then some (.inr (.inl false)) else some (.inl (IntKind.i64.wrap (s6 + 1)))))) else some (.inr (.inr ())))
noncomputable def law3_DiskTurned.k4 (s1 : Int × (List (Int × (List UInt8))) × (List (Int × List UInt8)) × Bool × Int × Int × Int × Int × Int) (r2 : Int × (List (Int × (List UInt8))) × (List (Int × List UInt8))) (a1 : Int) (a2 : Int) (s2 : List (List UInt8)) (s4 : Unit) : Option Bool :=
  (disk_Disk_Flip.impl ((s1.1, s1.2.2.2.1, s1.2.2.2.2.1, s1.2.2.2.2.2.1, s1.2.2.2.2.2.2.1, s1.2.2.2.2.2.2.2.1, s1.2.2.2.2.2.2.2.2)) r2.2.1 r2.2.2 (bitsOf .and .i64 a1 3) (bitsOf .and .i64 a2 65535)).bind fun r4 => (loop (law3_DiskTurned.st1 s1 r4 s2) 0).bind (fun e1 => match e1 with | .inl v => some v | .inr v => law3_DiskTurned.k5 v)
noncomputable def law3_DiskTurned.k6 (s7 : Int) (s8 : Bool) : Option (Int ⊕ (Bool ⊕ Unit)) :=
  (if s8 = true then some (.inr (.inl false)) else some (.inl (IntKind.i64.wrap (s7 + 1))))
noncomputable def law3_DiskTurned.st2 (r3 : List UInt8 × Int) (a1 : Int) (s2 : List (List UInt8)) (a2 : Int) (s7 : Int) : Option (Int ⊕ (Bool ⊕ Unit)) :=
  (if ((decide (s7 < 8192))) = true then chk (0 ≤ s7 ∧ s7 < (r3.1.length : Int)) (chk (0 ≤ (bitsOf .and .i64 a1 3) ∧ (bitsOf .and .i64 a1 3) < 4) (chk ((0 + (bitsOf .and .i64 a1 3 : Int).toNat * 1) < s2.length) (chk (0 ≤ s7 ∧ s7 < (((s2.getD ((0 + (bitsOf .and .i64 a1 3 : Int).toNat * 1)) default)).length : Int)) ((if ((decide (s7 = (IntKind.i64.wrap (Int.tdiv (bitsOf .and .i64 a2 65535) 8))))) = true then (if ((decide (((bitsOf .xor .u8 ((((r3.1).getD (s7 : Int).toNat default).toNat : Int)) (((((s2.getD ((0 + (bitsOf .and .i64 a1 3 : Int).toNat * 1)) default)).getD (s7 : Int).toNat default).toNat : Int)))) = (shlI .u8 1 (IntKind.u64.wrap (Int.tmod (bitsOf .and .i64 a2 65535) 8)))))) = true then law3_DiskTurned.k6 s7 false else law3_DiskTurned.k6 s7 true) else law3_DiskTurned.k6 s7 (!(decide (((bitsOf .xor .u8 ((((r3.1).getD (s7 : Int).toNat default).toNat : Int)) (((((s2.getD ((0 + (bitsOf .and .i64 a1 3 : Int).toNat * 1)) default)).getD (s7 : Int).toNat default).toNat : Int)))) = 0)))))))) else some (.inr (.inr ())))
noncomputable def law3_DiskTurned.k3 (r3 : List UInt8 × Int) (a1 : Int) (s2 : List (List UInt8)) (a2 : Int) (s1 : Int × (List (Int × (List UInt8))) × (List (Int × List UInt8)) × Bool × Int × Int × Int × Int × Int) (r2 : Int × (List (Int × (List UInt8))) × (List (Int × List UInt8))) (s3 : Bool) : Option Bool :=
  (if s3 = true then some false else (loop (law3_DiskTurned.st2 r3 a1 s2 a2) 0).bind (fun e2 => match e2 with | .inl v => some v | .inr v => law3_DiskTurned.k4 s1 r2 a1 a2 s2 v))
noncomputable def law3_DiskTurned.k2 (s1 : Int × (List (Int × (List UInt8))) × (List (Int × List UInt8)) × Bool × Int × Int × Int × Int × Int) (a1 : Int) (a2 : Int) (s2 : List (List UInt8)) : Option Bool :=
  (disk_Disk_Flip.impl ((s1.1, s1.2.2.2.1, s1.2.2.2.2.1, s1.2.2.2.2.2.1, s1.2.2.2.2.2.2.1, s1.2.2.2.2.2.2.2.1, s1.2.2.2.2.2.2.2.2)) s1.2.1 s1.2.2.1 (bitsOf .and .i64 a1 3) (bitsOf .and .i64 a2 65535)).bind fun r2 => (if ((!(decide (r2.1 = 0)))) = true then some false else (disk_Disk_Read.impl ((s1.1, s1.2.2.2.1, s1.2.2.2.2.1, s1.2.2.2.2.2.1, s1.2.2.2.2.2.2.1, s1.2.2.2.2.2.2.2.1, s1.2.2.2.2.2.2.2.2)) r2.2.1 r2.2.2 (bitsOf .and .i64 a1 3)).bind fun r3 => (if ((decide (r3.2 = 0))) = true then (if ((decide ((((r3.1.length : Int))) = 8192))) = true then chk (0 ≤ (bitsOf .and .i64 a1 3) ∧ (bitsOf .and .i64 a1 3) < 4) (chk ((0 + (bitsOf .and .i64 a1 3 : Int).toNat * 1) < s2.length) (law3_DiskTurned.k3 r3 a1 s2 a2 s1 r2 (!(decide ((((((s2.getD ((0 + (bitsOf .and .i64 a1 3 : Int).toNat * 1)) default)).length : Int))) = 8192))))) else law3_DiskTurned.k3 r3 a1 s2 a2 s1 r2 true) else law3_DiskTurned.k3 r3 a1 s2 a2 s1 r2 true))
noncomputable def law3_DiskTurned.st3 (s1 : Int × (List (Int × (List UInt8))) × (List (Int × List UInt8)) × Bool × Int × Int × Int × Int × Int) (s9 : List (List UInt8) × Int) : Option ((List (List UInt8) × Int) ⊕ (List (List UInt8))) :=
  (if ((decide (s9.2 < 4))) = true then (disk_Disk_Read.impl ((s1.1, s1.2.2.2.1, s1.2.2.2.2.1, s1.2.2.2.2.2.1, s1.2.2.2.2.2.2.1, s1.2.2.2.2.2.2.2.1, s1.2.2.2.2.2.2.2.2)) s1.2.1 s1.2.2.1 s9.2).bind fun r7 => chk (0 ≤ s9.2 ∧ s9.2 < 4) (chk ((0 + (s9.2 : Int).toNat * 1) < s9.1.length) (some (.inl ((s9.1.set ((0 + (s9.2 : Int).toNat * 1)) r7.1), IntKind.i64.wrap (s9.2 + 1))))) else some (.inr s9.1))
noncomputable def law3_DiskTurned.k1 (a1 : Int) (a2 : Int) (s1 : Int × (List (Int × (List UInt8))) × (List (Int × List UInt8)) × Bool × Int × Int × Int × Int × Int) : Option Bool :=
  (loop (law3_DiskTurned.st3 s1) (List.replicate 4 ([] : List UInt8), 0)).bind (fun e3 => law3_DiskTurned.k2 s1 a1 a2 e3)
noncomputable def law3_DiskTurned.k8 (s10 : Int × (List (Int × (List UInt8))) × (List (Int × List UInt8)) × Bool × Int × Int × Int × Int × Int × Int) (s12 : Int × (List (Int × (List UInt8))) × (List (Int × List UInt8)) × Bool × Int × Int × Int × Int × Int) : Option ((Int × (List (Int × (List UInt8))) × (List (Int × List UInt8)) × Bool × Int × Int × Int × Int × Int × Int) ⊕ (Int × (List (Int × (List UInt8))) × (List (Int × List UInt8)) × Bool × Int × Int × Int × Int × Int)) :=
  some (.inl (s12.1, s12.2.1, s12.2.2.1, s12.2.2.2.1, s12.2.2.2.2.1, s12.2.2.2.2.2.1, s12.2.2.2.2.2.2.1, s12.2.2.2.2.2.2.2.1, s12.2.2.2.2.2.2.2.2, IntKind.i64.wrap (s10.2.2.2.2.2.2.2.2.2 + 1)))
noncomputable def law3_DiskTurned.k7 (s10 : Int × (List (Int × (List UInt8))) × (List (Int × List UInt8)) × Bool × Int × Int × Int × Int × Int × Int) (l0 : List (Int × Int × Int × (List UInt8) × (Int × Int × Int × Int))) (s11 : Bool) : Option ((Int × (List (Int × (List UInt8))) × (List (Int × List UInt8)) × Bool × Int × Int × Int × Int × Int × Int) ⊕ (Int × (List (Int × (List UInt8))) × (List (Int × List UInt8)) × Bool × Int × Int × Int × Int × Int)) :=
  (if s11 = true then chk (0 ≤ s10.2.2.2.2.2.2.2.2.2 ∧ s10.2.2.2.2.2.2.2.2.2 < (l0.length : Int)) ((if ((decide (((((((l0).getD (s10.2.2.2.2.2.2.2.2.2 : Int).toNat default)).1))) = 1))) = true then (disk_Disk_Flush.impl ((s10.1, s10.2.2.2.1, s10.2.2.2.2.1, s10.2.2.2.2.2.1, s10.2.2.2.2.2.2.1, s10.2.2.2.2.2.2.2.1, s10.2.2.2.2.2.2.2.2.1)) s10.2.1 s10.2.2.1).bind fun r8 => law3_DiskTurned.k8 s10 (r8.2.1.1, r8.2.2.1, r8.2.2.2, r8.2.1.2.1, r8.2.1.2.2.1, r8.2.1.2.2.2.1, r8.2.1.2.2.2.2.1, r8.2.1.2.2.2.2.2.1, r8.2.1.2.2.2.2.2.2) else chk (0 ≤ s10.2.2.2.2.2.2.2.2.2 ∧ s10.2.2.2.2.2.2.2.2.2 < (l0.length : Int)) (chk (0 ≤ s10.2.2.2.2.2.2.2.2.2 ∧ s10.2.2.2.2.2.2.2.2.2 < (l0.length : Int)) ((law3_bytes.impl (((l0).getD (s10.2.2.2.2.2.2.2.2.2 : Int).toNat default))).bind fun r9 => (disk_Disk_Write.impl ((s10.1, s10.2.2.2.1, s10.2.2.2.2.1, s10.2.2.2.2.2.1, s10.2.2.2.2.2.2.1, s10.2.2.2.2.2.2.2.1, s10.2.2.2.2.2.2.2.2.1)) s10.2.1 s10.2.2.1 (bitsOf .and .i64 (((((l0).getD (s10.2.2.2.2.2.2.2.2.2 : Int).toNat default)).2.1)) 3) r9).bind fun r10 => law3_DiskTurned.k8 s10 (r10.2.1.1, r10.2.2.1, r10.2.2.2, r10.2.1.2.1, r10.2.1.2.2.1, r10.2.1.2.2.2.1, r10.2.1.2.2.2.2.1, r10.2.1.2.2.2.2.2.1, r10.2.1.2.2.2.2.2.2))))) else some (.inr (s10.1, s10.2.1, s10.2.2.1, s10.2.2.2.1, s10.2.2.2.2.1, s10.2.2.2.2.2.1, s10.2.2.2.2.2.2.1, s10.2.2.2.2.2.2.2.1, s10.2.2.2.2.2.2.2.2.1)))
noncomputable def law3_DiskTurned.st4 (l0 : List (Int × Int × Int × (List UInt8) × (Int × Int × Int × Int))) (s10 : Int × (List (Int × (List UInt8))) × (List (Int × List UInt8)) × Bool × Int × Int × Int × Int × Int × Int) : Option ((Int × (List (Int × (List UInt8))) × (List (Int × List UInt8)) × Bool × Int × Int × Int × Int × Int × Int) ⊕ (Int × (List (Int × (List UInt8))) × (List (Int × List UInt8)) × Bool × Int × Int × Int × Int × Int)) :=
  (if ((decide (s10.2.2.2.2.2.2.2.2.2 < ((l0.length : Int))))) = true then law3_DiskTurned.k7 s10 l0 (decide (s10.2.2.2.2.2.2.2.2.2 < 20)) else law3_DiskTurned.k7 s10 l0 false)
noncomputable def law3_DiskTurned.impl (l0 : List (Int × Int × Int × (List UInt8) × (Int × Int × Int × Int))) (a1 : Int) (a2 : Int) : Option Bool :=
  (disk_New.impl 4).bind fun r1 => (match r1 with | (none, r1p1) => (some false) | (some r1p0, r1p1) => ((loop (law3_DiskTurned.st4 l0) (r1p0.1.1, r1p0.2.1, r1p0.2.2, r1p0.1.2.1, r1p0.1.2.2.1, r1p0.1.2.2.2.1, r1p0.1.2.2.2.2.1, r1p0.1.2.2.2.2.2.1, r1p0.1.2.2.2.2.2.2, 0)).bind (fun e4 => law3_DiskTurned.k1 a1 a2 e4)))
set_option maxRecDepth 100000 in
set_option maxHeartbeats 4000000 in
theorem law3_DiskTurned.c {B : World} {hs : List MP} {w : World} {i0 c0 : Nat} {A0 : Option Addr} {l0 : List (Int × Int × Int × (List UInt8) × (Int × Int × Int × Int))} {a1 : Int} {a2 : Int} (hS : St B (hs) w) (h0 : (hs)[i0]? = some (Ro (Elt.pair E64 (Elt.pair E64 (Elt.pair E64 (Elt.pair (Elt.slice E8) (Elt.pair E64 (Elt.pair EU64 (Elt.pair E64 E64))))))) A0 c0 l0)) {r : Bool} (hr : law3_DiskTurned.impl l0 a1 a2 = some r) :
    Calls Try.prog 7 #[.slice A0 l0.length c0, .int .i64 a1, .int .i64 a2] w fun e w' => ∃ x : Unit, e = .returned (.bool r) ∧ St B (hs) w' := by
 unfold law3_DiskTurned.impl at hr
 refine calls_T Try.func7 rfl rfl rfl hS ?_
 refine T.front i0 h0 ?_
 refine T.seq ?_
 refine T.region ?_
 refine T.assign .list rfl (wants0 rfl) rfl rfl ?_
 refine T.nil ?_
 refine T.then_normal ?_
 refine T.seq ?_
 refine T.region ?_
 obtain ⟨r1, hg1, hr⟩ := inv_bind hr
 rcases r1 with ⟨_ | r1p0, r1p1⟩
 ·dsimp only at hr
  refine T.call (v := fun (x1 : (Nat) × (Nat) × (Option Addr × Nat) × (Ads)) => .tuple #[.pointer none, .int .i64 r1p1]) (hs' := fun x1 => Ro (Elt.pair E64 (Elt.pair E64 (Elt.pair E64 (Elt.pair (Elt.slice E8) (Elt.pair E64 (Elt.pair EU64 (Elt.pair E64 E64))))))) A0 c0 l0 :: hs) .list (wants0 rfl) rfl (run_callF (vs := [_]) rfl Try.func9 rfl (by decide) rfl) (fun w hS => disk_New.c hS  hg1) (fun x1 => ?_)
  refine T.move .list rfl (wants0 rfl) rfl rfl ?_
  refine T.extract .list rfl (wants0 rfl) rfl rfl rfl ?_
  refine T.extract .list rfl (wants0 rfl) rfl rfl rfl ?_
  refine T.assign .list rfl (wants0 rfl) rfl rfl ?_
  refine T.assign .list rfl (wants0 rfl) rfl rfl ?_
  refine T.nil ?_
  refine T.then_normal ?_
  refine T.seq ?_
  refine T.seq ?_
  refine T.region ?_
  refine T.move .list rfl (wants0 rfl) rfl rfl ?_
  refine T.ptrEq (pt := 69) .list rfl (wants0 rfl) rfl rfl rfl (by kernel_rfl) (.inr rfl) rfl ?_
  refine T.nil ?_
  refine T.then_normal ?_
  refine T.condT rfl rfl ?_
  refine T.seq ?_
  refine T.region ?_
  refine T.assign .list rfl (wants0 rfl) rfl rfl ?_
  refine T.nil ?_
  refine T.then_normal ?_
  refine T.ret ?_
  refine T.then_ret ?_
  obtain rfl := inv_some hr
  refine T.pick [] 1 rfl rfl (Nat.le_add_left _ _) rfl ?_
  refine T.ret1 rfl rfl (fun w hS => ⟨(), rfl, hS⟩)
 ·dsimp only at hr
  refine T.call (v := fun (x2 : (Nat) × (Nat) × (Option Addr × Nat) × (Ads)) => .tuple #[.pointer (some ⟨x2.1, 0, none⟩), .int .i64 r1p1]) (hs' := fun x2 => Cl x2.1 69 [.int .i64 r1p0.1.1, .map (some x2.2.1), .slice x2.2.2.1.1 r1p0.2.2.length x2.2.2.1.2, .bool r1p0.1.2.1, .int .i64 r1p0.1.2.2.1, .int .i64 r1p0.1.2.2.2.1, .int .u64 r1p0.1.2.2.2.2.1, .int .i64 r1p0.1.2.2.2.2.2.1, .int .i64 r1p0.1.2.2.2.2.2.2] :: Mp (Elt.slice E8) x2.2.1 r1p0.2.1 :: Hb 71 x2.2.2.1.1 x2.2.2.1.2 x2.2.2.2 r1p0.2.2 :: Bb 5 x2.2.2.2 r1p0.2.2 :: Ro (Elt.pair E64 (Elt.pair E64 (Elt.pair E64 (Elt.pair (Elt.slice E8) (Elt.pair E64 (Elt.pair EU64 (Elt.pair E64 E64))))))) A0 c0 l0 :: hs) .list (wants0 rfl) rfl (run_callF (vs := [_]) rfl Try.func9 rfl (by decide) rfl) (fun w hS => disk_New.c hS  hg1) (fun x2 => ?_)
  refine T.move .list rfl (wants0 rfl) rfl rfl ?_
  refine T.extract .list rfl (wants0 rfl) rfl rfl rfl ?_
  refine T.extract .list rfl (wants0 rfl) rfl rfl rfl ?_
  refine T.assign .list rfl (wants0 rfl) rfl rfl ?_
  refine T.assign .list rfl (wants0 rfl) rfl rfl ?_
  refine T.nil ?_
  refine T.then_normal ?_
  refine T.seq ?_
  refine T.seq ?_
  refine T.region ?_
  refine T.move .list rfl (wants0 rfl) rfl rfl ?_
  refine T.ptrEq (pt := 69) .list rfl (wants0 rfl) rfl rfl rfl (by kernel_rfl) (.inr rfl) rfl ?_
  refine T.nil ?_
  refine T.then_normal ?_
  refine T.condF rfl rfl ?_
  refine T.skip ?_
  refine T.then_normal ?_
  refine T.seqJ (fun (s1 : Int × (List (Int × (List UInt8))) × (List (Int × List UInt8)) × Bool × Int × Int × Int × Int × Int) (x3 : (Option Addr × Nat) × (Ads)) => [(1, .int .i64 a1), (2, .int .i64 a2), (7, .pointer (some ⟨x2.1, 0, none⟩))]) (fun s1 x3 => Cl x2.1 69 [.int .i64 s1.1, .map (some x2.2.1), .slice x3.1.1 s1.2.2.1.length x3.1.2, .bool s1.2.2.2.1, .int .i64 s1.2.2.2.2.1, .int .i64 s1.2.2.2.2.2.1, .int .u64 s1.2.2.2.2.2.2.1, .int .i64 s1.2.2.2.2.2.2.2.1, .int .i64 s1.2.2.2.2.2.2.2.2] :: Mp (Elt.slice E8) x2.2.1 s1.2.1 :: Hb 71 x3.1.1 x3.1.2 x3.2 s1.2.2.1 :: Bb 5 x3.2 s1.2.2.1 :: hs) (fun s1 => law3_DiskTurned.k1 a1 a2 s1 = some r) (fun s1 x3 hk1 => ?_) (fun J1 => ?_)
  ·unfold law3_DiskTurned.k1 at hk1
   refine T.seq ?_
   refine T.region ?_
   refine T.move .list rfl (wants0 rfl) rfl rfl ?_
   refine T.bin .list rfl (wants0 rfl) rfl rfl rfl rfl ?_
   refine T.move .list rfl (wants0 rfl) rfl rfl ?_
   refine T.bin .list rfl (wants0 rfl) rfl rfl rfl rfl ?_
   refine T.assign .list rfl (wants0 rfl) rfl rfl ?_
   refine T.assign .list rfl (wants0 rfl) rfl rfl ?_
   refine T.nil ?_
   refine T.then_normal ?_
   refine T.seq ?_
   refine T.region ?_
   refine T.allocOw 4 E8 5 .list rfl (wants0 rfl) rfl (fun b1 => ?_)
   refine T.nil ?_
   refine T.then_normal ?_
   refine T.seqJ (fun (s2 : List (List UInt8)) (x4 : (Ads)) => [(1, .int .i64 (bitsOf .and .i64 a1 3)), (2, .int .i64 (bitsOf .and .i64 a2 65535)), (7, .pointer (some ⟨x2.1, 0, none⟩)), (10, .pointer (some ⟨b1, 0, none⟩))]) (fun s2 x4 => Cl x2.1 69 [.int .i64 s1.1, .map (some x2.2.1), .slice x3.1.1 s1.2.2.1.length x3.1.2, .bool s1.2.2.2.1, .int .i64 s1.2.2.2.2.1, .int .i64 s1.2.2.2.2.2.1, .int .u64 s1.2.2.2.2.2.2.1, .int .i64 s1.2.2.2.2.2.2.2.1, .int .i64 s1.2.2.2.2.2.2.2.2] :: Mp (Elt.slice E8) x2.2.1 s1.2.1 :: Hb 71 x3.1.1 x3.1.2 x3.2 s1.2.2.1 :: Bb 5 x3.2 s1.2.2.1 :: Cl b1 51 (heads x4 s2) :: Bfs E8 5 x4 s2 :: hs) (fun s2 => law3_DiskTurned.k2 s1 a1 a2 s2 = some r) (fun s2 x4 hk2 => ?_) (fun J2 => ?_)
   ·unfold law3_DiskTurned.k2 at hk2
    refine T.seq ?_
    refine T.seq ?_
    refine T.region ?_
    refine T.move .list rfl (wants0 rfl) rfl rfl ?_
    refine T.move .list rfl (wants0 rfl) rfl rfl ?_
    refine T.move .list rfl (wants0 rfl) rfl rfl ?_
    refine T.pick [0, 1, 2, 3, 4, 5] 6 rfl rfl (Nat.le_add_left _ _) (hs' := Cl x2.1 69 [.int .i64 s1.1, .map (some x2.2.1), .slice x3.1.1 s1.2.2.1.length x3.1.2, .bool s1.2.2.2.1, .int .i64 s1.2.2.2.2.1, .int .i64 s1.2.2.2.2.2.1, .int .u64 s1.2.2.2.2.2.2.1, .int .i64 s1.2.2.2.2.2.2.2.1, .int .i64 s1.2.2.2.2.2.2.2.2] :: Mp (Elt.slice E8) x2.2.1 s1.2.1 :: Hb 71 x3.1.1 x3.1.2 x3.2 s1.2.2.1 :: Bb 5 x3.2 s1.2.2.1 :: Cl b1 51 (heads x4 s2) :: Bfs E8 5 x4 s2 :: hs) rfl ?_
    obtain ⟨r2, hg2, hk2⟩ := inv_bind hk2
    refine T.call .list (wants0 rfl) rfl (run_callF (vs := [_, _, _]) rfl Try.func23 rfl (by decide) rfl) (fun w hS => disk_Disk_Flip.c hS (o0 := (s1.1, s1.2.2.2.1, s1.2.2.2.2.1, s1.2.2.2.2.2.1, s1.2.2.2.2.2.2.1, s1.2.2.2.2.2.2.2.1, s1.2.2.2.2.2.2.2.2)) (q0b := s1.2.1) (q0c := s1.2.2.1)  hg2) (fun x5 => ?_)
    refine T.bin .list rfl (wants0 rfl) rfl rfl rfl rfl ?_
    refine T.nil ?_
    refine T.then_normal ?_
    refine T.cond rfl (fun hb1 => ?_) (fun hb1 => ?_)
    ·replace hk2 := inv_posB hb1 hk2
     refine T.seq ?_
     refine T.region ?_
     refine T.assign .list rfl (wants0 rfl) rfl rfl ?_
     refine T.nil ?_
     refine T.then_normal ?_
     refine T.ret ?_
     refine T.then_ret ?_
     obtain rfl := inv_some hk2
     refine T.pick [] 6 rfl rfl (Nat.le_add_left _ _) rfl ?_
     refine T.ret1 rfl rfl (fun w hS => ⟨(), rfl, hS⟩)
    ·replace hk2 := inv_negB hb1 hk2
     refine T.skip ?_
     refine T.then_normal ?_
     refine T.seq ?_
     refine T.region ?_
     refine T.move .list rfl (wants0 rfl) rfl rfl ?_
     refine T.move .list rfl (wants0 rfl) rfl rfl ?_
     refine T.pick [0, 1, 2, 3, 4, 5] 6 rfl rfl (Nat.le_add_left _ _) (hs' := Cl x2.1 69 [.int .i64 s1.1, .map (some x2.2.1), .slice x5.1.1 r2.2.2.length x5.1.2, .bool s1.2.2.2.1, .int .i64 s1.2.2.2.2.1, .int .i64 s1.2.2.2.2.2.1, .int .u64 s1.2.2.2.2.2.2.1, .int .i64 s1.2.2.2.2.2.2.2.1, .int .i64 s1.2.2.2.2.2.2.2.2] :: Mp (Elt.slice E8) x2.2.1 r2.2.1 :: Hb 71 x5.1.1 x5.1.2 x5.2 r2.2.2 :: Bb 5 x5.2 r2.2.2 :: Cl b1 51 (heads x4 s2) :: Bfs E8 5 x4 s2 :: hs) rfl ?_
     obtain ⟨r3, hg3, hk2⟩ := inv_bind hk2
     refine T.call .list (wants0 rfl) rfl (run_callF (vs := [_, _]) rfl Try.func14 rfl (by decide) rfl) (fun w hS => disk_Disk_Read.c hS (o0 := (s1.1, s1.2.2.2.1, s1.2.2.2.2.1, s1.2.2.2.2.2.1, s1.2.2.2.2.2.2.1, s1.2.2.2.2.2.2.2.1, s1.2.2.2.2.2.2.2.2)) (q0b := r2.2.1) (q0c := r2.2.2)  hg3) (fun x6 => ?_)
     refine T.move .list rfl (wants0 rfl) rfl rfl ?_
     refine T.extract .list rfl (wants0 rfl) rfl rfl rfl ?_
     refine T.extract .list rfl (wants0 rfl) rfl rfl rfl ?_
     refine T.assign .list rfl (wants0 rfl) rfl rfl ?_
     refine T.assign .list rfl (wants0 rfl) rfl rfl ?_
     refine T.nil ?_
     refine T.then_normal ?_
     refine T.seq ?_
     refine T.seqJ (fun (s3 : Bool) (x7 : Unit) => [(1, .int .i64 (bitsOf .and .i64 a1 3)), (2, .int .i64 (bitsOf .and .i64 a2 65535)), (7, .pointer (some ⟨x2.1, 0, none⟩)), (10, .pointer (some ⟨b1, 0, none⟩)), (12, .slice x6.1 r3.1.length x6.2), (96, .bool s3)]) (fun s3 x7 => Cl x2.1 69 [.int .i64 s1.1, .map (some x2.2.1), .slice x5.1.1 r2.2.2.length x5.1.2, .bool s1.2.2.2.1, .int .i64 s1.2.2.2.2.1, .int .i64 s1.2.2.2.2.2.1, .int .u64 s1.2.2.2.2.2.2.1, .int .i64 s1.2.2.2.2.2.2.2.1, .int .i64 s1.2.2.2.2.2.2.2.2] :: Mp (Elt.slice E8) x2.2.1 r2.2.1 :: Hb 71 x5.1.1 x5.1.2 x5.2 r2.2.2 :: Bb 5 x5.2 r2.2.2 :: Cl b1 51 (heads x4 s2) :: Bfs E8 5 x4 s2 :: Bf E8 5 x6.1 x6.2 r3.1 :: hs) (fun s3 => law3_DiskTurned.k3 r3 a1 s2 a2 s1 r2 s3 = some r) (fun s3 x7 hk3 => ?_) (fun J3 => ?_)
     ·unfold law3_DiskTurned.k3 at hk3
      refine T.cond rfl (fun hb2 => ?_) (fun hb2 => ?_)
      ·replace hk3 := inv_posB hb2 hk3
       refine T.seq ?_
       refine T.region ?_
       refine T.assign .list rfl (wants0 rfl) rfl rfl ?_
       refine T.nil ?_
       refine T.then_normal ?_
       refine T.ret ?_
       refine T.then_ret ?_
       obtain rfl := inv_some hk3
       refine T.pick [] 7 rfl rfl (Nat.le_add_left _ _) rfl ?_
       refine T.ret1 rfl rfl (fun w hS => ⟨(), rfl, hS⟩)
      ·replace hk3 := inv_negB hb2 hk3
       refine T.skip ?_
       refine T.then_normal ?_
       refine T.seqJ (fun (s4 : Unit) (x8 : Unit) => [(1, .int .i64 (bitsOf .and .i64 a1 3)), (2, .int .i64 (bitsOf .and .i64 a2 65535)), (7, .pointer (some ⟨x2.1, 0, none⟩)), (10, .pointer (some ⟨b1, 0, none⟩))]) (fun s4 x8 => Cl x2.1 69 [.int .i64 s1.1, .map (some x2.2.1), .slice x5.1.1 r2.2.2.length x5.1.2, .bool s1.2.2.2.1, .int .i64 s1.2.2.2.2.1, .int .i64 s1.2.2.2.2.2.1, .int .u64 s1.2.2.2.2.2.2.1, .int .i64 s1.2.2.2.2.2.2.2.1, .int .i64 s1.2.2.2.2.2.2.2.2] :: Mp (Elt.slice E8) x2.2.1 r2.2.1 :: Hb 71 x5.1.1 x5.1.2 x5.2 r2.2.2 :: Bb 5 x5.2 r2.2.2 :: Cl b1 51 (heads x4 s2) :: Bfs E8 5 x4 s2 :: hs) (fun s4 => law3_DiskTurned.k4 s1 r2 a1 a2 s2 s4 = some r) (fun s4 x8 hk4 => ?_) (fun J4 => ?_)
       ·unfold law3_DiskTurned.k4 at hk4
        refine T.seq ?_
        refine T.region ?_
        refine T.move .list rfl (wants0 rfl) rfl rfl ?_
        refine T.move .list rfl (wants0 rfl) rfl rfl ?_
        refine T.move .list rfl (wants0 rfl) rfl rfl ?_
        refine T.pick [0, 1, 2, 3, 4, 5] 6 rfl rfl (Nat.le_add_left _ _) (hs' := Cl x2.1 69 [.int .i64 s1.1, .map (some x2.2.1), .slice x5.1.1 r2.2.2.length x5.1.2, .bool s1.2.2.2.1, .int .i64 s1.2.2.2.2.1, .int .i64 s1.2.2.2.2.2.1, .int .u64 s1.2.2.2.2.2.2.1, .int .i64 s1.2.2.2.2.2.2.2.1, .int .i64 s1.2.2.2.2.2.2.2.2] :: Mp (Elt.slice E8) x2.2.1 r2.2.1 :: Hb 71 x5.1.1 x5.1.2 x5.2 r2.2.2 :: Bb 5 x5.2 r2.2.2 :: Cl b1 51 (heads x4 s2) :: Bfs E8 5 x4 s2 :: hs) rfl ?_
        obtain ⟨r4, hg4, hk4⟩ := inv_bind hk4
        refine T.call .list (wants0 rfl) rfl (run_callF (vs := [_, _, _]) rfl Try.func23 rfl (by decide) rfl) (fun w hS => disk_Disk_Flip.c hS (o0 := (s1.1, s1.2.2.2.1, s1.2.2.2.2.1, s1.2.2.2.2.2.1, s1.2.2.2.2.2.2.1, s1.2.2.2.2.2.2.2.1, s1.2.2.2.2.2.2.2.2)) (q0b := r2.2.1) (q0c := r2.2.2)  hg4) (fun x9 => ?_)
        refine T.nil ?_
        refine T.then_normal ?_
        refine T.seqJ (fun (s5 : Unit) (x10 : Unit) => []) (fun s5 x10 => hs) (fun s5 => law3_DiskTurned.k5 s5 = some r) (fun s5 x10 hk5 => ?_) (fun J5 => ?_)
        ·unfold law3_DiskTurned.k5 at hk5
         refine T.seq ?_
         refine T.region ?_
         obtain ⟨r5, hg5, hk5⟩ := inv_bind hk5
         refine T.call .list (wants0 rfl) rfl (run_callF (vs := []) rfl Try.func16 rfl (by decide) rfl) (fun w hS => law3_told.c hS  hg5) (fun x11 => ?_)
         refine T.assign .list rfl (wants0 rfl) rfl rfl ?_
         refine T.nil ?_
         refine T.then_normal ?_
         refine T.ret ?_
         obtain rfl := inv_some hk5
         refine T.pick [] 0 rfl rfl (Nat.le_add_left _ _) rfl ?_
         refine T.ret1 rfl rfl (fun w hS => ⟨(), rfl, hS⟩)
        ·refine T.seq ?_
         refine T.region ?_
         refine T.assign .list rfl (wants0 rfl) rfl rfl ?_
         refine T.nil ?_
         refine T.then_normal ?_
         refine T.block ?_
         obtain ⟨e1, hl1, hk4⟩ := inv_bind hk4
         refine T.le (EnvLe.cons rfl (EnvLe.cons rfl (EnvLe.cons rfl EnvLe.nil))) (T.pick [0, 1, 2, 3, 4, 5] 6 rfl rfl (Nat.le_add_left _ _) rfl (T.loop (s0 := 0) (env := fun s6 x12 => [(7, .pointer (some ⟨x2.1, 0, none⟩)), (10, .pointer (some ⟨b1, 0, none⟩)), (16, .int .i64 s6)]) (hs := fun (s6 : Int) (x12 : Unit) => Cl x2.1 69 [.int .i64 s1.1, .map (some x2.2.1), .slice x9.1.1 r4.2.2.length x9.1.2, .bool s1.2.2.2.1, .int .i64 s1.2.2.2.2.1, .int .i64 s1.2.2.2.2.2.1, .int .u64 s1.2.2.2.2.2.2.1, .int .i64 s1.2.2.2.2.2.2.2.1, .int .i64 s1.2.2.2.2.2.2.2.2] :: Mp (Elt.slice E8) x2.2.1 r4.2.1 :: Hb 71 x9.1.1 x9.1.2 x9.2 r4.2.2 :: Bb 5 x9.2 r4.2.2 :: Cl b1 51 (heads x4 s2) :: Bfs E8 5 x4 s2 :: hs) hl1 () (fun K1 s6 x12 o1 he1 hm1 hx1 => ?_)))
         unfold law3_DiskTurned.st1 at he1
         refine T.seq ?_
         refine T.seq ?_
         refine T.region ?_
         refine T.move .list rfl (wants0 rfl) rfl rfl ?_
         refine T.bin .list rfl (wants0 rfl) rfl rfl rfl rfl ?_
         refine T.nil ?_
         refine T.then_normal ?_
         refine T.cond rfl (fun hb3 => ?_) (fun hb3 => ?_)
         ·replace he1 := inv_posB hb3 he1
          refine T.skip ?_
          refine T.then_normal ?_
          refine T.seq ?_
          refine T.block ?_
          refine T.seq ?_
          refine T.region ?_
          refine T.move .list rfl (wants0 rfl) rfl rfl ?_
          refine T.move .list rfl (wants0 rfl) rfl rfl ?_
          refine T.pick [0, 1, 2, 3, 4, 5] 6 rfl rfl (Nat.le_add_left _ _) (hs' := Cl x2.1 69 [.int .i64 s1.1, .map (some x2.2.1), .slice x9.1.1 r4.2.2.length x9.1.2, .bool s1.2.2.2.1, .int .i64 s1.2.2.2.2.1, .int .i64 s1.2.2.2.2.2.1, .int .u64 s1.2.2.2.2.2.2.1, .int .i64 s1.2.2.2.2.2.2.2.1, .int .i64 s1.2.2.2.2.2.2.2.2] :: Mp (Elt.slice E8) x2.2.1 r4.2.1 :: Hb 71 x9.1.1 x9.1.2 x9.2 r4.2.2 :: Bb 5 x9.2 r4.2.2 :: Cl b1 51 (heads x4 s2) :: Bfs E8 5 x4 s2 :: hs) rfl ?_
          obtain ⟨r6, hg6, he1⟩ := inv_bind he1
          refine T.call .list (wants0 rfl) rfl (run_callF (vs := [_, _]) rfl Try.func14 rfl (by decide) rfl) (fun w hS => disk_Disk_Read.c hS (o0 := (s1.1, s1.2.2.2.1, s1.2.2.2.2.1, s1.2.2.2.2.2.1, s1.2.2.2.2.2.2.1, s1.2.2.2.2.2.2.2.1, s1.2.2.2.2.2.2.2.2)) (q0b := r4.2.1) (q0c := r4.2.2)  hg6) (fun x13 => ?_)
          refine T.move .list rfl (wants0 rfl) rfl rfl ?_
          refine T.extract .list rfl (wants0 rfl) rfl rfl rfl ?_
          refine T.extract .list rfl (wants0 rfl) rfl rfl rfl ?_
          refine T.assign .list rfl (wants0 rfl) rfl rfl ?_
          refine T.assign .list rfl (wants0 rfl) rfl rfl ?_
          refine T.nil ?_
          refine T.then_normal ?_
          refine T.seq ?_
          refine T.plan [(0, 0), (2, 0), (3, 0), (1, 1), (4, 1), (5, 1), (6, 0)] mixed (by kernel_rfl) (by kernel_rfl) rfl (fun d _ _ _ _ h => by cases d <;> exact h) ?_
          refine T.move (.plan rfl) rfl (wants0 rfl) rfl rfl ?_
          refine T.move (.plan rfl) rfl (wants0 rfl) rfl rfl ?_
          obtain ⟨hc1, he1⟩ := inv_chk he1
          refine T.idxArr (.plan rfl) rfl (wants0 rfl) rfl rfl rfl hc1.1 hc1.2 ?_
          refine T.strBf (.plan rfl) 0 rfl rfl (wants0 rfl) rfl rfl rfl ?_
          obtain ⟨hc2, he1⟩ := inv_chk he1
          refine T.ldOw (.plan rfl) 5 rfl rfl (wants0 rfl) rfl rfl hc2 ?_
          refine T.focus 6 ((0 + (s6 : Int).toNat * 1)) rfl hc2 rfl ?_
          refine T.strBf (.plan rfl) 0 rfl rfl (wants0 rfl) rfl rfl rfl ?_
          refine T.strNe (.plan rfl) rfl (wants0 rfl) rfl (l := r6.1) (l' := ((s2.getD ((0 + (s6 : Int).toNat * 1)) default))) rfl rfl ?_
          refine T.planEnd ?_
          refine T.then_normal ?_
          refine T.cond rfl (fun hb4 => ?_) (fun hb4 => ?_)
          ·replace he1 := inv_posB hb4 he1
           refine T.seq ?_
           refine T.region ?_
           refine T.assign .list rfl (wants0 rfl) rfl rfl ?_
           refine T.nil ?_
           refine T.then_normal ?_
           refine T.ret ?_
           refine T.in_ret ?_
           refine T.then_ret ?_
           refine T.then_ret ?_
           obtain rfl := inv_some he1
           obtain rfl := hx1 _ rfl
           refine T.in_ret ?_
           refine T.then_ret ?_
           obtain rfl := inv_some hk4
           refine T.pick [] 8 rfl rfl (Nat.le_add_left _ _) rfl ?_
           refine T.ret1 rfl rfl (fun w hS => ⟨(), rfl, hS⟩)
          ·replace he1 := inv_negB hb4 he1
           refine T.skip ?_
           refine T.in_normal ?_
           refine T.then_normal ?_
           refine T.region ?_
           refine T.move .list rfl (wants0 rfl) rfl rfl ?_
           refine T.bin .list rfl (wants0 rfl) rfl rfl rfl rfl ?_
           refine T.assign .list rfl (wants0 rfl) rfl rfl ?_
           refine T.nil ?_
           refine T.then_normal ?_
           obtain rfl := inv_some he1
           refine T.pick [0, 7, 1, 2, 3, 4, 5, 6] 8 rfl rfl (Nat.le_add_left _ _) (hs' := Bf E8 5 ((x4 ((0 + (s6 : Int).toNat * 1))).1) ((x4 ((0 + (s6 : Int).toNat * 1))).2) ((s2.getD ((0 + (s6 : Int).toNat * 1)) default)) :: Bfs E8 5 (upd x4 ((0 + (s6 : Int).toNat * 1)) (none, 0)) (s2.set ((0 + (s6 : Int).toNat * 1)) []) :: Bf E8 5 x13.1 x13.2 r6.1 :: Cl x2.1 69 [.int .i64 s1.1, .map (some x2.2.1), .slice x9.1.1 r4.2.2.length x9.1.2, .bool s1.2.2.2.1, .int .i64 s1.2.2.2.2.1, .int .i64 s1.2.2.2.2.2.1, .int .u64 s1.2.2.2.2.2.2.1, .int .i64 s1.2.2.2.2.2.2.2.1, .int .i64 s1.2.2.2.2.2.2.2.2] :: Mp (Elt.slice E8) x2.2.1 r4.2.1 :: Hb 71 x9.1.1 x9.1.2 x9.2 r4.2.2 :: Bb 5 x9.2 r4.2.2 :: Cl b1 51 (heads x4 s2) :: hs) rfl ?_
           refine T.unfocus ((0 + (s6 : Int).toNat * 1)) hc2 ?_
           exact T.le (EnvLe.cons rfl (EnvLe.cons rfl (EnvLe.cons rfl EnvLe.nil))) (T.pick [2, 3, 4, 5, 6, 0] 7 rfl rfl (Nat.le_add_left _ _) rfl (hm1 (IntKind.i64.wrap (s6 + 1)) rfl ()))
         ·replace he1 := inv_negB hb3 he1
          refine T.exit ?_
          refine T.then_exit ?_
          refine T.then_exit ?_
          obtain rfl := inv_some he1
          obtain rfl := hx1 _ rfl
          refine T.in_hit ?_
          refine T.then_normal ?_
          exact T.le EnvLe.nil (T.pick [] 6 rfl rfl (Nat.le_add_left _ _) rfl (J5 () () hk4))
       ·refine T.seq ?_
        refine T.region ?_
        refine T.assign .list rfl (wants0 rfl) rfl rfl ?_
        refine T.nil ?_
        refine T.then_normal ?_
        refine T.block ?_
        obtain ⟨e2, hl2, hk3⟩ := inv_bind hk3
        refine T.le (EnvLe.cons rfl (EnvLe.cons rfl (EnvLe.cons rfl (EnvLe.cons rfl (EnvLe.cons rfl (EnvLe.cons rfl EnvLe.nil)))))) (T.pick [0, 1, 2, 3, 4, 5, 6] 7 rfl rfl (Nat.le_add_left _ _) rfl (T.loop (s0 := 0) (env := fun s7 x14 => [(1, .int .i64 (bitsOf .and .i64 a1 3)), (2, .int .i64 (bitsOf .and .i64 a2 65535)), (7, .pointer (some ⟨x2.1, 0, none⟩)), (10, .pointer (some ⟨b1, 0, none⟩)), (12, .slice x6.1 r3.1.length x6.2), (14, .int .i64 s7)]) (hs := fun (s7 : Int) (x14 : Unit) => Cl x2.1 69 [.int .i64 s1.1, .map (some x2.2.1), .slice x5.1.1 r2.2.2.length x5.1.2, .bool s1.2.2.2.1, .int .i64 s1.2.2.2.2.1, .int .i64 s1.2.2.2.2.2.1, .int .u64 s1.2.2.2.2.2.2.1, .int .i64 s1.2.2.2.2.2.2.2.1, .int .i64 s1.2.2.2.2.2.2.2.2] :: Mp (Elt.slice E8) x2.2.1 r2.2.1 :: Hb 71 x5.1.1 x5.1.2 x5.2 r2.2.2 :: Bb 5 x5.2 r2.2.2 :: Cl b1 51 (heads x4 s2) :: Bfs E8 5 x4 s2 :: Bf E8 5 x6.1 x6.2 r3.1 :: hs) hl2 () (fun K2 s7 x14 o2 he2 hm2 hx2 => ?_)))
        unfold law3_DiskTurned.st2 at he2
        refine T.seq ?_
        refine T.seq ?_
        refine T.region ?_
        refine T.move .list rfl (wants0 rfl) rfl rfl ?_
        refine T.bin .list rfl (wants0 rfl) rfl rfl rfl rfl ?_
        refine T.nil ?_
        refine T.then_normal ?_
        refine T.cond rfl (fun hb5 => ?_) (fun hb5 => ?_)
        ·replace he2 := inv_posB hb5 he2
         refine T.skip ?_
         refine T.then_normal ?_
         refine T.seq ?_
         refine T.block ?_
         refine T.seq ?_
         refine T.plan [(0, 0), (1, 0), (2, 0), (4, 0), (5, 0), (7, 0), (3, 1), (6, 1), (8, 0), (9, 1), (10, 0), (11, 0)] mixed (by kernel_rfl) (by kernel_rfl) rfl (fun d _ _ _ _ h => by cases d <;> exact h) ?_
         refine T.move (.plan rfl) rfl (wants0 rfl) rfl rfl ?_
         refine T.move (.plan rfl) rfl (wants0 rfl) rfl rfl ?_
         obtain ⟨hc3, he2⟩ := inv_chk he2
         refine T.idxBf (.plan rfl) 6 rfl rfl (wants0 rfl) rfl rfl rfl hc3.1 hc3.2 (Nat.le_refl _) ?_
         refine T.move (.plan rfl) rfl (wants0 rfl) rfl rfl ?_
         obtain ⟨hc4, he2⟩ := inv_chk he2
         refine T.idxArr (.plan rfl) rfl (wants0 rfl) rfl rfl rfl hc4.1 hc4.2 ?_
         refine T.move (.plan rfl) rfl (wants0 rfl) rfl rfl ?_
         refine T.ldBf1 (.plan rfl) 6 rfl rfl (wants0 rfl) rfl rfl hc3.1 hc3.2 ?_
         obtain ⟨hc5, he2⟩ := inv_chk he2
         refine T.ldOw (.plan rfl) 4 rfl rfl (wants0 rfl) rfl rfl hc5 ?_
         refine T.focus 5 ((0 + (bitsOf .and .i64 a1 3 : Int).toNat * 1)) rfl hc5 rfl ?_
         obtain ⟨hc6, he2⟩ := inv_chk he2
         refine T.idxBf (.plan rfl) 0 rfl rfl (wants0 rfl) rfl rfl rfl hc6.1 hc6.2 (Nat.le_refl _) ?_
         refine T.ldBf1 (.plan rfl) 0 rfl rfl (wants0 rfl) rfl rfl hc6.1 hc6.2 ?_
         refine T.bin (.plan rfl) rfl (wants0 rfl) rfl rfl rfl rfl ?_
         refine T.assign (.plan rfl) rfl (wants0 rfl) rfl rfl ?_
         refine T.planEnd ?_
         refine T.then_normal ?_
         refine T.seqJ (fun (s8 : Bool) (x15 : Unit) => [(1, .int .i64 (bitsOf .and .i64 a1 3)), (2, .int .i64 (bitsOf .and .i64 a2 65535)), (7, .pointer (some ⟨x2.1, 0, none⟩)), (10, .pointer (some ⟨b1, 0, none⟩)), (12, .slice x6.1 r3.1.length x6.2), (14, .int .i64 s7), (133, .bool s8)]) (fun s8 x15 => Cl x2.1 69 [.int .i64 s1.1, .map (some x2.2.1), .slice x5.1.1 r2.2.2.length x5.1.2, .bool s1.2.2.2.1, .int .i64 s1.2.2.2.2.1, .int .i64 s1.2.2.2.2.2.1, .int .u64 s1.2.2.2.2.2.2.1, .int .i64 s1.2.2.2.2.2.2.2.1, .int .i64 s1.2.2.2.2.2.2.2.2] :: Mp (Elt.slice E8) x2.2.1 r2.2.1 :: Hb 71 x5.1.1 x5.1.2 x5.2 r2.2.2 :: Bb 5 x5.2 r2.2.2 :: Cl b1 51 (heads x4 s2) :: Bfs E8 5 x4 s2 :: Bf E8 5 x6.1 x6.2 r3.1 :: hs) (fun s8 => law3_DiskTurned.k6 s7 s8 = some o2) (fun s8 x15 hk6 => ?_) (fun J6 => ?_)
         ·unfold law3_DiskTurned.k6 at hk6
          refine T.cond rfl (fun hb6 => ?_) (fun hb6 => ?_)
          ·replace hk6 := inv_posB hb6 hk6
           refine T.seq ?_
           refine T.region ?_
           refine T.assign .list rfl (wants0 rfl) rfl rfl ?_
           refine T.nil ?_
           refine T.then_normal ?_
           refine T.ret ?_
           refine T.in_ret ?_
           refine T.then_ret ?_
           refine T.then_ret ?_
           obtain rfl := inv_some hk6
           obtain rfl := hx2 _ rfl
           refine T.in_ret ?_
           refine T.then_ret ?_
           obtain rfl := inv_some hk3
           refine T.pick [] 7 rfl rfl (Nat.le_add_left _ _) rfl ?_
           refine T.ret1 rfl rfl (fun w hS => ⟨(), rfl, hS⟩)
          ·replace hk6 := inv_negB hb6 hk6
           refine T.skip ?_
           refine T.in_normal ?_
           refine T.then_normal ?_
           refine T.region ?_
           refine T.move .list rfl (wants0 rfl) rfl rfl ?_
           refine T.bin .list rfl (wants0 rfl) rfl rfl rfl rfl ?_
           refine T.assign .list rfl (wants0 rfl) rfl rfl ?_
           refine T.nil ?_
           refine T.then_normal ?_
           obtain rfl := inv_some hk6
           exact T.le (EnvLe.cons rfl (EnvLe.cons rfl (EnvLe.cons rfl (EnvLe.cons rfl (EnvLe.cons rfl (EnvLe.cons rfl EnvLe.nil)))))) (T.pick [0, 1, 2, 3, 4, 5, 6] 7 rfl rfl (Nat.le_add_left _ _) rfl (hm2 (IntKind.i64.wrap (s7 + 1)) rfl ()))
         ·refine T.region ?_
          refine T.move .list rfl (wants0 rfl) rfl rfl ?_
          refine T.move .list rfl (wants0 rfl) rfl rfl ?_
          refine T.quo .list rfl (wants0 rfl) rfl rfl rfl (by decide) ?_
          refine T.bin .list rfl (wants0 rfl) rfl rfl rfl rfl ?_
          refine T.move .list rfl (wants0 rfl) rfl rfl ?_
          refine T.bool (b := (decide (s7 = (IntKind.i64.wrap (Int.tdiv (bitsOf .and .i64 a2 65535) 8))))) (fun hb7 => ?_) (fun hb7 => ?_)
          ·replace he2 := inv_posB hb7 he2
           refine T.move .list rfl (wants1 rfl rfl rfl hb7) rfl rfl ?_
           refine T.move .list rfl (wants1 rfl rfl rfl hb7) rfl rfl ?_
           refine T.rem .list rfl (wants1 rfl rfl rfl hb7) rfl rfl rfl (by decide) ?_
           refine T.conv .list rfl (wants1 rfl rfl rfl hb7) rfl rfl rfl ?_
           refine T.shl .list rfl (wants1 rfl rfl rfl hb7) rfl rfl rfl (wrap_nn rfl) ?_
           refine T.bin .list rfl (wants1 rfl rfl rfl hb7) rfl rfl rfl rfl ?_
           refine T.pickT .list rfl (wants0 rfl) rfl rfl hb7 rfl ?_
           refine T.move .list rfl (wants0 rfl) rfl rfl ?_
           refine T.bool (b := (decide (((bitsOf .xor .u8 ((((r3.1).getD (s7 : Int).toNat default).toNat : Int)) (((((s2.getD ((0 + (bitsOf .and .i64 a1 3 : Int).toNat * 1)) default)).getD (s7 : Int).toNat default).toNat : Int)))) = (shlI .u8 1 (IntKind.u64.wrap (Int.tmod (bitsOf .and .i64 a2 65535) 8)))))) (fun hb8 => ?_) (fun hb8 => ?_)
           ·replace he2 := inv_posB hb8 he2
            refine T.move .list rfl (wants1 rfl rfl rfl (not_t hb8)) rfl rfl ?_
            refine T.move .list rfl (wants1 rfl rfl rfl (not_t hb8)) rfl rfl ?_
            refine T.quo .list rfl (wants1 rfl rfl rfl (not_t hb8)) rfl rfl rfl (by decide) ?_
            refine T.bin .list rfl (wants1 rfl rfl rfl (not_t hb8)) rfl rfl rfl rfl ?_
            refine T.move .list rfl (wants1 rfl rfl rfl (not_t hb8)) rfl rfl ?_
            refine T.leave .list (wantsNot rfl rfl rfl (not_t hb7)) rfl ?_
            refine T.leave .list (wantsNot rfl rfl rfl (not_t hb7)) rfl ?_
            refine T.pickF .list rfl (wants1 rfl rfl rfl (not_t hb8)) rfl rfl (not_t hb7) rfl ?_
            refine T.pickF .list rfl (wants0 rfl) rfl rfl (not_t hb8) rfl ?_
            refine T.nil ?_
            refine T.then_normal ?_
            refine T.pick [0, 6, 1, 2, 3, 4, 5, 7] 8 rfl rfl (Nat.le_add_left _ _) (hs' := Bf E8 5 ((x4 ((0 + (bitsOf .and .i64 a1 3 : Int).toNat * 1))).1) ((x4 ((0 + (bitsOf .and .i64 a1 3 : Int).toNat * 1))).2) ((s2.getD ((0 + (bitsOf .and .i64 a1 3 : Int).toNat * 1)) default)) :: Bfs E8 5 (upd x4 ((0 + (bitsOf .and .i64 a1 3 : Int).toNat * 1)) (none, 0)) (s2.set ((0 + (bitsOf .and .i64 a1 3 : Int).toNat * 1)) []) :: Cl x2.1 69 [.int .i64 s1.1, .map (some x2.2.1), .slice x5.1.1 r2.2.2.length x5.1.2, .bool s1.2.2.2.1, .int .i64 s1.2.2.2.2.1, .int .i64 s1.2.2.2.2.2.1, .int .u64 s1.2.2.2.2.2.2.1, .int .i64 s1.2.2.2.2.2.2.2.1, .int .i64 s1.2.2.2.2.2.2.2.2] :: Mp (Elt.slice E8) x2.2.1 r2.2.1 :: Hb 71 x5.1.1 x5.1.2 x5.2 r2.2.2 :: Bb 5 x5.2 r2.2.2 :: Cl b1 51 (heads x4 s2) :: Bf E8 5 x6.1 x6.2 r3.1 :: hs) rfl ?_
            refine T.unfocus ((0 + (bitsOf .and .i64 a1 3 : Int).toNat * 1)) hc5 ?_
            exact T.le (EnvLe.cons rfl (EnvLe.cons rfl (EnvLe.cons rfl (EnvLe.cons rfl (EnvLe.cons rfl (EnvLe.cons rfl (EnvLe.cons rfl EnvLe.nil))))))) (T.pick [1, 2, 3, 4, 5, 0, 6] 7 rfl rfl (Nat.le_add_left _ _) rfl (J6 false () he2))
           ·replace he2 := inv_negB hb8 he2
            refine T.leave .list (wantsNot rfl rfl rfl (not_f hb8)) rfl ?_
            refine T.leave .list (wantsNot rfl rfl rfl (not_f hb8)) rfl ?_
            refine T.leave .list (wantsNot rfl rfl rfl (not_f hb8)) rfl ?_
            refine T.leave .list (wantsNot rfl rfl rfl (not_f hb8)) rfl ?_
            refine T.leave .list (wantsNot rfl rfl rfl (not_f hb8)) rfl ?_
            refine T.leave .list (wantsUndef rfl rfl rfl) rfl ?_
            refine T.leave .list (wantsUndef rfl rfl rfl) rfl ?_
            refine T.leave .list (wantsNot rfl rfl rfl (not_f hb8)) rfl ?_
            refine T.pickT .list rfl (wants0 rfl) rfl rfl (not_f hb8) rfl ?_
            refine T.nil ?_
            refine T.then_normal ?_
            refine T.pick [0, 6, 1, 2, 3, 4, 5, 7] 8 rfl rfl (Nat.le_add_left _ _) (hs' := Bf E8 5 ((x4 ((0 + (bitsOf .and .i64 a1 3 : Int).toNat * 1))).1) ((x4 ((0 + (bitsOf .and .i64 a1 3 : Int).toNat * 1))).2) ((s2.getD ((0 + (bitsOf .and .i64 a1 3 : Int).toNat * 1)) default)) :: Bfs E8 5 (upd x4 ((0 + (bitsOf .and .i64 a1 3 : Int).toNat * 1)) (none, 0)) (s2.set ((0 + (bitsOf .and .i64 a1 3 : Int).toNat * 1)) []) :: Cl x2.1 69 [.int .i64 s1.1, .map (some x2.2.1), .slice x5.1.1 r2.2.2.length x5.1.2, .bool s1.2.2.2.1, .int .i64 s1.2.2.2.2.1, .int .i64 s1.2.2.2.2.2.1, .int .u64 s1.2.2.2.2.2.2.1, .int .i64 s1.2.2.2.2.2.2.2.1, .int .i64 s1.2.2.2.2.2.2.2.2] :: Mp (Elt.slice E8) x2.2.1 r2.2.1 :: Hb 71 x5.1.1 x5.1.2 x5.2 r2.2.2 :: Bb 5 x5.2 r2.2.2 :: Cl b1 51 (heads x4 s2) :: Bf E8 5 x6.1 x6.2 r3.1 :: hs) rfl ?_
            refine T.unfocus ((0 + (bitsOf .and .i64 a1 3 : Int).toNat * 1)) hc5 ?_
            exact T.le (EnvLe.cons rfl (EnvLe.cons rfl (EnvLe.cons rfl (EnvLe.cons rfl (EnvLe.cons rfl (EnvLe.cons rfl (EnvLe.cons rfl EnvLe.nil))))))) (T.pick [1, 2, 3, 4, 5, 0, 6] 7 rfl rfl (Nat.le_add_left _ _) rfl (J6 true () he2))
          ·replace he2 := inv_negB hb7 he2
           refine T.leave .list (wantsNot rfl rfl rfl hb7) rfl ?_
           refine T.leave .list (wantsNot rfl rfl rfl hb7) rfl ?_
           refine T.leave .list (wantsNot rfl rfl rfl hb7) rfl ?_
           refine T.leave .list (wantsNot rfl rfl rfl hb7) rfl ?_
           refine T.leave .list (wantsNot rfl rfl rfl hb7) rfl ?_
           refine T.leave .list (wantsNot rfl rfl rfl hb7) rfl ?_
           refine T.pickF .list rfl (wants0 rfl) rfl rfl hb7 rfl ?_
           refine T.move .list rfl (wants0 rfl) rfl rfl ?_
           refine T.move .list rfl (wants1 rfl rfl rfl rfl) rfl rfl ?_
           refine T.move .list rfl (wants1 rfl rfl rfl rfl) rfl rfl ?_
           refine T.quo .list rfl (wants1 rfl rfl rfl rfl) rfl rfl rfl (by decide) ?_
           refine T.bin .list rfl (wants1 rfl rfl rfl rfl) rfl rfl rfl rfl ?_
           refine T.move .list rfl (wants1 rfl rfl rfl rfl) rfl rfl ?_
           refine T.move .list rfl (wants1 rfl rfl rfl (not_f hb7)) rfl rfl ?_
           refine T.bin .list rfl (wants1 rfl rfl rfl (not_f hb7)) rfl rfl rfl rfl ?_
           refine T.pickT .list rfl (wants1 rfl rfl rfl rfl) rfl rfl (not_f hb7) rfl ?_
           refine T.pickF .list rfl (wants0 rfl) rfl rfl rfl rfl ?_
           refine T.nil ?_
           refine T.then_normal ?_
           refine T.pick [0, 6, 1, 2, 3, 4, 5, 7] 8 rfl rfl (Nat.le_add_left _ _) (hs' := Bf E8 5 ((x4 ((0 + (bitsOf .and .i64 a1 3 : Int).toNat * 1))).1) ((x4 ((0 + (bitsOf .and .i64 a1 3 : Int).toNat * 1))).2) ((s2.getD ((0 + (bitsOf .and .i64 a1 3 : Int).toNat * 1)) default)) :: Bfs E8 5 (upd x4 ((0 + (bitsOf .and .i64 a1 3 : Int).toNat * 1)) (none, 0)) (s2.set ((0 + (bitsOf .and .i64 a1 3 : Int).toNat * 1)) []) :: Cl x2.1 69 [.int .i64 s1.1, .map (some x2.2.1), .slice x5.1.1 r2.2.2.length x5.1.2, .bool s1.2.2.2.1, .int .i64 s1.2.2.2.2.1, .int .i64 s1.2.2.2.2.2.1, .int .u64 s1.2.2.2.2.2.2.1, .int .i64 s1.2.2.2.2.2.2.2.1, .int .i64 s1.2.2.2.2.2.2.2.2] :: Mp (Elt.slice E8) x2.2.1 r2.2.1 :: Hb 71 x5.1.1 x5.1.2 x5.2 r2.2.2 :: Bb 5 x5.2 r2.2.2 :: Cl b1 51 (heads x4 s2) :: Bf E8 5 x6.1 x6.2 r3.1 :: hs) rfl ?_
           refine T.unfocus ((0 + (bitsOf .and .i64 a1 3 : Int).toNat * 1)) hc5 ?_
           exact T.le (EnvLe.cons rfl (EnvLe.cons rfl (EnvLe.cons rfl (EnvLe.cons rfl (EnvLe.cons rfl (EnvLe.cons rfl (EnvLe.cons rfl EnvLe.nil))))))) (T.pick [1, 2, 3, 4, 5, 0, 6] 7 rfl rfl (Nat.le_add_left _ _) rfl (J6 (!(decide (((bitsOf .xor .u8 ((((r3.1).getD (s7 : Int).toNat default).toNat : Int)) (((((s2.getD ((0 + (bitsOf .and .i64 a1 3 : Int).toNat * 1)) default)).getD (s7 : Int).toNat default).toNat : Int)))) = 0))) () he2))
        ·replace he2 := inv_negB hb5 he2
         refine T.exit ?_
         refine T.then_exit ?_
         refine T.then_exit ?_
         obtain rfl := inv_some he2
         obtain rfl := hx2 _ rfl
         refine T.in_hit ?_
         refine T.then_normal ?_
         exact T.le (EnvLe.cons rfl (EnvLe.cons rfl (EnvLe.cons rfl (EnvLe.cons rfl EnvLe.nil)))) (T.pick [0, 1, 2, 3, 4, 5] 7 rfl rfl (Nat.le_add_left _ _) rfl (J4 () () hk3))
     ·refine T.region ?_
      refine T.move .list rfl (wants0 rfl) rfl rfl ?_
      refine T.bin .list rfl (wants0 rfl) rfl rfl rfl rfl ?_
      refine T.move .list rfl (wants0 rfl) rfl rfl ?_
      refine T.bool (b := (decide (r3.2 = 0))) (fun hb9 => ?_) (fun hb9 => ?_)
      ·replace hk2 := inv_posB hb9 hk2
       refine T.move .list rfl (wants1 rfl rfl rfl (not_t hb9)) rfl rfl ?_
       refine T.lenSlice .list rfl (wants1 rfl rfl rfl (not_t hb9)) rfl rfl ?_
       refine T.bin .list rfl (wants1 rfl rfl rfl (not_t hb9)) rfl rfl rfl rfl ?_
       refine T.pickF .list rfl (wants0 rfl) rfl rfl (not_t hb9) rfl ?_
       refine T.move .list rfl (wants0 rfl) rfl rfl ?_
       refine T.bool (b := (decide ((((r3.1.length : Int))) = 8192))) (fun hb10 => ?_) (fun hb10 => ?_)
       ·replace hk2 := inv_posB hb10 hk2
        refine T.move .list rfl (wants1 rfl rfl rfl (not_t hb10)) rfl rfl ?_
        obtain ⟨hc7, hk2⟩ := inv_chk hk2
        refine T.idxArr .list rfl (wants1 rfl rfl rfl (not_t hb10)) rfl rfl rfl hc7.1 hc7.2 ?_
        obtain ⟨hc8, hk2⟩ := inv_chk hk2
        refine T.ldOw .list 5 rfl rfl (wants1 rfl rfl rfl (not_t hb10)) rfl rfl hc8 ?_
        refine T.focus 6 ((0 + (bitsOf .and .i64 a1 3 : Int).toNat * 1)) rfl hc8 rfl ?_
        refine T.lenSlice .list rfl (wants1 rfl rfl rfl (not_t hb10)) rfl rfl ?_
        refine T.bin .list rfl (wants1 rfl rfl rfl (not_t hb10)) rfl rfl rfl rfl ?_
        refine T.pickF .list rfl (wants0 rfl) rfl rfl (not_t hb10) rfl ?_
        refine T.nil ?_
        refine T.then_normal ?_
        refine T.pick [0, 7, 1, 2, 3, 4, 5, 6] 8 rfl rfl (Nat.le_add_left _ _) (hs' := Bf E8 5 ((x4 ((0 + (bitsOf .and .i64 a1 3 : Int).toNat * 1))).1) ((x4 ((0 + (bitsOf .and .i64 a1 3 : Int).toNat * 1))).2) ((s2.getD ((0 + (bitsOf .and .i64 a1 3 : Int).toNat * 1)) default)) :: Bfs E8 5 (upd x4 ((0 + (bitsOf .and .i64 a1 3 : Int).toNat * 1)) (none, 0)) (s2.set ((0 + (bitsOf .and .i64 a1 3 : Int).toNat * 1)) []) :: Bf E8 5 x6.1 x6.2 r3.1 :: Cl x2.1 69 [.int .i64 s1.1, .map (some x2.2.1), .slice x5.1.1 r2.2.2.length x5.1.2, .bool s1.2.2.2.1, .int .i64 s1.2.2.2.2.1, .int .i64 s1.2.2.2.2.2.1, .int .u64 s1.2.2.2.2.2.2.1, .int .i64 s1.2.2.2.2.2.2.2.1, .int .i64 s1.2.2.2.2.2.2.2.2] :: Mp (Elt.slice E8) x2.2.1 r2.2.1 :: Hb 71 x5.1.1 x5.1.2 x5.2 r2.2.2 :: Bb 5 x5.2 r2.2.2 :: Cl b1 51 (heads x4 s2) :: hs) rfl ?_
        refine T.unfocus ((0 + (bitsOf .and .i64 a1 3 : Int).toNat * 1)) hc8 ?_
        exact T.le (EnvLe.cons rfl (EnvLe.cons rfl (EnvLe.cons rfl (EnvLe.cons rfl (EnvLe.cons rfl (EnvLe.cons rfl EnvLe.nil)))))) (T.pick [2, 3, 4, 5, 6, 0, 1] 7 rfl rfl (Nat.le_add_left _ _) rfl (J3 (!(decide ((((((s2.getD ((0 + (bitsOf .and .i64 a1 3 : Int).toNat * 1)) default)).length : Int))) = 8192))) () hk2))
       ·replace hk2 := inv_negB hb10 hk2
        refine T.leave .list (wantsNot rfl rfl rfl (not_f hb10)) rfl ?_
        refine T.leave .list (wantsNot rfl rfl rfl (not_f hb10)) rfl ?_
        refine T.leave .list (wantsNot rfl rfl rfl (not_f hb10)) rfl ?_
        refine T.leave .list (wantsNot rfl rfl rfl (not_f hb10)) rfl ?_
        refine T.leave .list (wantsNot rfl rfl rfl (not_f hb10)) rfl ?_
        refine T.pickT .list rfl (wants0 rfl) rfl rfl (not_f hb10) rfl ?_
        refine T.nil ?_
        refine T.then_normal ?_
        exact T.le (EnvLe.cons rfl (EnvLe.cons rfl (EnvLe.cons rfl (EnvLe.cons rfl (EnvLe.cons rfl (EnvLe.cons rfl EnvLe.nil)))))) (T.pick [1, 2, 3, 4, 5, 6, 0] 7 rfl rfl (Nat.le_add_left _ _) rfl (J3 true () hk2))
      ·replace hk2 := inv_negB hb9 hk2
       refine T.leave .list (wantsNot rfl rfl rfl (not_f hb9)) rfl ?_
       refine T.leave .list (wantsNot rfl rfl rfl (not_f hb9)) rfl ?_
       refine T.leave .list (wantsNot rfl rfl rfl (not_f hb9)) rfl ?_
       refine T.pickT .list rfl (wants0 rfl) rfl rfl (not_f hb9) rfl ?_
       refine T.move .list rfl (wants0 rfl) rfl rfl ?_
       refine T.leave .list (wantsNot rfl rfl rfl rfl) rfl ?_
       refine T.leave .list (wantsNot rfl rfl rfl rfl) rfl ?_
       refine T.leave .list (wantsNot rfl rfl rfl rfl) rfl ?_
       refine T.leave .list (wantsNot rfl rfl rfl rfl) rfl ?_
       refine T.leave .list (wantsNot rfl rfl rfl rfl) rfl ?_
       refine T.pickT .list rfl (wants0 rfl) rfl rfl rfl rfl ?_
       refine T.nil ?_
       refine T.then_normal ?_
       exact T.le (EnvLe.cons rfl (EnvLe.cons rfl (EnvLe.cons rfl (EnvLe.cons rfl (EnvLe.cons rfl (EnvLe.cons rfl EnvLe.nil)))))) (T.pick [1, 2, 3, 4, 5, 6, 0] 7 rfl rfl (Nat.le_add_left _ _) rfl (J3 true () hk2))
   ·refine T.seq ?_
    refine T.region ?_
    refine T.assign .list rfl (wants0 rfl) rfl rfl ?_
    refine T.nil ?_
    refine T.then_normal ?_
    refine T.block ?_
    obtain ⟨e3, hl3, hk1⟩ := inv_bind hk1
    refine T.le (EnvLe.cons rfl (EnvLe.cons rfl (EnvLe.cons rfl (EnvLe.cons rfl (EnvLe.cons rfl EnvLe.nil))))) (T.pick [2, 3, 4, 5, 0, 1] 6 rfl rfl (Nat.le_add_left _ _) rfl (T.loop (s0 := (List.replicate 4 ([] : List UInt8), 0)) (env := fun s9 x16 => [(1, .int .i64 (bitsOf .and .i64 a1 3)), (2, .int .i64 (bitsOf .and .i64 a2 65535)), (7, .pointer (some ⟨x2.1, 0, none⟩)), (10, .pointer (some ⟨b1, 0, none⟩)), (11, .int .i64 s9.2)]) (hs := fun (s9 : List (List UInt8) × Int) (x16 : (Ads)) => Cl x2.1 69 [.int .i64 s1.1, .map (some x2.2.1), .slice x3.1.1 s1.2.2.1.length x3.1.2, .bool s1.2.2.2.1, .int .i64 s1.2.2.2.2.1, .int .i64 s1.2.2.2.2.2.1, .int .u64 s1.2.2.2.2.2.2.1, .int .i64 s1.2.2.2.2.2.2.2.1, .int .i64 s1.2.2.2.2.2.2.2.2] :: Mp (Elt.slice E8) x2.2.1 s1.2.1 :: Hb 71 x3.1.1 x3.1.2 x3.2 s1.2.2.1 :: Bb 5 x3.2 s1.2.2.1 :: Cl b1 51 (heads x16 s9.1) :: Bfs E8 5 x16 s9.1 :: hs) hl3 noAds (fun K3 s9 x16 o3 he3 hm3 hx3 => ?_)))
    unfold law3_DiskTurned.st3 at he3
    refine T.seq ?_
    refine T.seq ?_
    refine T.region ?_
    refine T.move .list rfl (wants0 rfl) rfl rfl ?_
    refine T.bin .list rfl (wants0 rfl) rfl rfl rfl rfl ?_
    refine T.nil ?_
    refine T.then_normal ?_
    refine T.cond rfl (fun hb11 => ?_) (fun hb11 => ?_)
    ·replace he3 := inv_posB hb11 he3
     refine T.skip ?_
     refine T.then_normal ?_
     refine T.seq ?_
     refine T.block ?_
     refine T.region ?_
     refine T.move .list rfl (wants0 rfl) rfl rfl ?_
     refine T.move .list rfl (wants0 rfl) rfl rfl ?_
     refine T.move .list rfl (wants0 rfl) rfl rfl ?_
     refine T.pick [0, 1, 2, 3, 4, 5] 6 rfl rfl (Nat.le_add_left _ _) (hs' := Cl x2.1 69 [.int .i64 s1.1, .map (some x2.2.1), .slice x3.1.1 s1.2.2.1.length x3.1.2, .bool s1.2.2.2.1, .int .i64 s1.2.2.2.2.1, .int .i64 s1.2.2.2.2.2.1, .int .u64 s1.2.2.2.2.2.2.1, .int .i64 s1.2.2.2.2.2.2.2.1, .int .i64 s1.2.2.2.2.2.2.2.2] :: Mp (Elt.slice E8) x2.2.1 s1.2.1 :: Hb 71 x3.1.1 x3.1.2 x3.2 s1.2.2.1 :: Bb 5 x3.2 s1.2.2.1 :: Cl b1 51 (heads x16 s9.1) :: Bfs E8 5 x16 s9.1 :: hs) rfl ?_
     obtain ⟨r7, hg7, he3⟩ := inv_bind he3
     refine T.call .list (wants0 rfl) rfl (run_callF (vs := [_, _]) rfl Try.func14 rfl (by decide) rfl) (fun w hS => disk_Disk_Read.c hS (o0 := (s1.1, s1.2.2.2.1, s1.2.2.2.2.1, s1.2.2.2.2.2.1, s1.2.2.2.2.2.2.1, s1.2.2.2.2.2.2.2.1, s1.2.2.2.2.2.2.2.2)) (q0b := s1.2.1) (q0c := s1.2.2.1)  hg7) (fun x17 => ?_)
     refine T.move .list rfl (wants0 rfl) rfl rfl ?_
     refine T.extract .list rfl (wants0 rfl) rfl rfl rfl ?_
     refine T.extract .list rfl (wants0 rfl) rfl rfl rfl ?_
     obtain ⟨hc9, he3⟩ := inv_chk he3
     refine T.idxArr .list rfl (wants0 rfl) rfl rfl rfl hc9.1 hc9.2 ?_
     obtain ⟨hc10, he3⟩ := inv_chk he3
     refine T.focus 6 ((0 + (s9.2 : Int).toNat * 1)) rfl hc10 rfl ?_
     refine T.stOw .list 6 (l := r7.1) rfl rfl (wants0 rfl) rfl rfl rfl rfl hc10 rfl ?_
     refine T.pick [1, 2, 3, 4, 5, 6, 7] 8 rfl rfl (Nat.le_add_left _ _) (hs' := Bf E8 5 x17.1 x17.2 r7.1 :: Cl x2.1 69 [.int .i64 s1.1, .map (some x2.2.1), .slice x3.1.1 s1.2.2.1.length x3.1.2, .bool s1.2.2.2.1, .int .i64 s1.2.2.2.2.1, .int .i64 s1.2.2.2.2.2.1, .int .u64 s1.2.2.2.2.2.2.1, .int .i64 s1.2.2.2.2.2.2.2.1, .int .i64 s1.2.2.2.2.2.2.2.2] :: Mp (Elt.slice E8) x2.2.1 s1.2.1 :: Hb 71 x3.1.1 x3.1.2 x3.2 s1.2.2.1 :: Bb 5 x3.2 s1.2.2.1 :: Cl b1 51 (heads ((upd x16 ((0 + (s9.2 : Int).toNat * 1)) (x17.1, x17.2))) ((s9.1.set ((0 + (s9.2 : Int).toNat * 1)) r7.1))) :: Bfs E8 5 (upd x16 ((0 + (s9.2 : Int).toNat * 1)) (none, 0)) (s9.1.set ((0 + (s9.2 : Int).toNat * 1)) []) :: hs) rfl ?_
     refine T.pick [0, 6, 1, 2, 3, 4, 5] 7 rfl rfl (Nat.le_add_left _ _) (hs' := Bf E8 5 x17.1 x17.2 r7.1 :: Bfs E8 5 (upd x16 ((0 + (s9.2 : Int).toNat * 1)) (none, 0)) (s9.1.set ((0 + (s9.2 : Int).toNat * 1)) []) :: Cl x2.1 69 [.int .i64 s1.1, .map (some x2.2.1), .slice x3.1.1 s1.2.2.1.length x3.1.2, .bool s1.2.2.2.1, .int .i64 s1.2.2.2.2.1, .int .i64 s1.2.2.2.2.2.1, .int .u64 s1.2.2.2.2.2.2.1, .int .i64 s1.2.2.2.2.2.2.2.1, .int .i64 s1.2.2.2.2.2.2.2.2] :: Mp (Elt.slice E8) x2.2.1 s1.2.1 :: Hb 71 x3.1.1 x3.1.2 x3.2 s1.2.2.1 :: Bb 5 x3.2 s1.2.2.1 :: Cl b1 51 (heads ((upd x16 ((0 + (s9.2 : Int).toNat * 1)) (x17.1, x17.2))) ((s9.1.set ((0 + (s9.2 : Int).toNat * 1)) r7.1))) :: hs) rfl ?_
     refine T.fillIn ((0 + (s9.2 : Int).toNat * 1)) hc10 ?_
     refine T.nil ?_
     refine T.in_normal ?_
     refine T.then_normal ?_
     refine T.region ?_
     refine T.move .list rfl (wants0 rfl) rfl rfl ?_
     refine T.bin .list rfl (wants0 rfl) rfl rfl rfl rfl ?_
     refine T.assign .list rfl (wants0 rfl) rfl rfl ?_
     refine T.nil ?_
     refine T.then_normal ?_
     obtain rfl := inv_some he3
     exact T.le (EnvLe.cons rfl (EnvLe.cons rfl (EnvLe.cons rfl (EnvLe.cons rfl (EnvLe.cons rfl EnvLe.nil))))) (T.pick [1, 2, 3, 4, 5, 0] 6 rfl rfl (Nat.le_add_left _ _) rfl (hm3 ((s9.1.set ((0 + (s9.2 : Int).toNat * 1)) r7.1), IntKind.i64.wrap (s9.2 + 1)) rfl (upd x16 ((0 + (s9.2 : Int).toNat * 1)) (x17.1, x17.2))))
    ·replace he3 := inv_negB hb11 he3
     refine T.exit ?_
     refine T.then_exit ?_
     refine T.then_exit ?_
     obtain rfl := inv_some he3
     obtain rfl := hx3 _ rfl
     refine T.in_hit ?_
     refine T.then_normal ?_
     exact T.le (EnvLe.cons rfl (EnvLe.cons rfl (EnvLe.cons rfl (EnvLe.cons rfl EnvLe.nil)))) (T.pick [0, 1, 2, 3, 4, 5] 6 rfl rfl (Nat.le_add_left _ _) rfl (J2 s9.1 x16 hk1))
  ·refine T.seq ?_
   refine T.region ?_
   refine T.assign .list rfl (wants0 rfl) rfl rfl ?_
   refine T.nil ?_
   refine T.then_normal ?_
   refine T.block ?_
   obtain ⟨e4, hl4, hr⟩ := inv_bind hr
   refine T.le (EnvLe.cons rfl (EnvLe.cons rfl (EnvLe.cons rfl (EnvLe.cons rfl (EnvLe.cons rfl EnvLe.nil))))) (T.pick [4, 0, 1, 2, 3] 5 rfl rfl (Nat.le_add_left _ _) rfl (T.loop (s0 := (r1p0.1.1, r1p0.2.1, r1p0.2.2, r1p0.1.2.1, r1p0.1.2.2.1, r1p0.1.2.2.2.1, r1p0.1.2.2.2.2.1, r1p0.1.2.2.2.2.2.1, r1p0.1.2.2.2.2.2.2, 0)) (env := fun s10 x18 => [(0, .slice A0 l0.length c0), (1, .int .i64 a1), (2, .int .i64 a2), (7, .pointer (some ⟨x2.1, 0, none⟩)), (9, .int .i64 s10.2.2.2.2.2.2.2.2.2)]) (hs := fun (s10 : Int × (List (Int × (List UInt8))) × (List (Int × List UInt8)) × Bool × Int × Int × Int × Int × Int × Int) (x18 : (Option Addr × Nat) × (Ads)) => Ro (Elt.pair E64 (Elt.pair E64 (Elt.pair E64 (Elt.pair (Elt.slice E8) (Elt.pair E64 (Elt.pair EU64 (Elt.pair E64 E64))))))) A0 c0 l0 :: Cl x2.1 69 [.int .i64 s10.1, .map (some x2.2.1), .slice x18.1.1 s10.2.2.1.length x18.1.2, .bool s10.2.2.2.1, .int .i64 s10.2.2.2.2.1, .int .i64 s10.2.2.2.2.2.1, .int .u64 s10.2.2.2.2.2.2.1, .int .i64 s10.2.2.2.2.2.2.2.1, .int .i64 s10.2.2.2.2.2.2.2.2.1] :: Mp (Elt.slice E8) x2.2.1 s10.2.1 :: Hb 71 x18.1.1 x18.1.2 x18.2 s10.2.2.1 :: Bb 5 x18.2 s10.2.2.1 :: hs) hl4 ((x2.2.2.1.1, x2.2.2.1.2), x2.2.2.2) (fun K4 s10 x18 o4 he4 hm4 hx4 => ?_)))
   unfold law3_DiskTurned.st4 at he4
   refine T.seq ?_
   refine T.seqJ (fun (s11 : Bool) (x19 : Unit) => [(0, .slice A0 l0.length c0), (1, .int .i64 a1), (2, .int .i64 a2), (7, .pointer (some ⟨x2.1, 0, none⟩)), (9, .int .i64 s10.2.2.2.2.2.2.2.2.2), (32, .bool s11)]) (fun s11 x19 => Ro (Elt.pair E64 (Elt.pair E64 (Elt.pair E64 (Elt.pair (Elt.slice E8) (Elt.pair E64 (Elt.pair EU64 (Elt.pair E64 E64))))))) A0 c0 l0 :: Cl x2.1 69 [.int .i64 s10.1, .map (some x2.2.1), .slice x18.1.1 s10.2.2.1.length x18.1.2, .bool s10.2.2.2.1, .int .i64 s10.2.2.2.2.1, .int .i64 s10.2.2.2.2.2.1, .int .u64 s10.2.2.2.2.2.2.1, .int .i64 s10.2.2.2.2.2.2.2.1, .int .i64 s10.2.2.2.2.2.2.2.2.1] :: Mp (Elt.slice E8) x2.2.1 s10.2.1 :: Hb 71 x18.1.1 x18.1.2 x18.2 s10.2.2.1 :: Bb 5 x18.2 s10.2.2.1 :: hs) (fun s11 => law3_DiskTurned.k7 s10 l0 s11 = some o4) (fun s11 x19 hk7 => ?_) (fun J7 => ?_)
   ·unfold law3_DiskTurned.k7 at hk7
    refine T.cond rfl (fun hb12 => ?_) (fun hb12 => ?_)
    ·replace hk7 := inv_posB hb12 hk7
     refine T.skip ?_
     refine T.then_normal ?_
     refine T.seqJ (fun (s12 : Int × (List (Int × (List UInt8))) × (List (Int × List UInt8)) × Bool × Int × Int × Int × Int × Int) (x20 : (Option Addr × Nat) × (Ads)) => [(0, .slice A0 l0.length c0), (1, .int .i64 a1), (2, .int .i64 a2), (7, .pointer (some ⟨x2.1, 0, none⟩)), (9, .int .i64 s10.2.2.2.2.2.2.2.2.2)]) (fun s12 x20 => Ro (Elt.pair E64 (Elt.pair E64 (Elt.pair E64 (Elt.pair (Elt.slice E8) (Elt.pair E64 (Elt.pair EU64 (Elt.pair E64 E64))))))) A0 c0 l0 :: Cl x2.1 69 [.int .i64 s12.1, .map (some x2.2.1), .slice x20.1.1 s12.2.2.1.length x20.1.2, .bool s12.2.2.2.1, .int .i64 s12.2.2.2.2.1, .int .i64 s12.2.2.2.2.2.1, .int .u64 s12.2.2.2.2.2.2.1, .int .i64 s12.2.2.2.2.2.2.2.1, .int .i64 s12.2.2.2.2.2.2.2.2] :: Mp (Elt.slice E8) x2.2.1 s12.2.1 :: Hb 71 x20.1.1 x20.1.2 x20.2 s12.2.2.1 :: Bb 5 x20.2 s12.2.2.1 :: hs) (fun s12 => law3_DiskTurned.k8 s10 s12 = some o4) (fun s12 x20 hk8 => ?_) (fun J8 => ?_)
     ·unfold law3_DiskTurned.k8 at hk8
      refine T.region ?_
      refine T.move .list rfl (wants0 rfl) rfl rfl ?_
      refine T.bin .list rfl (wants0 rfl) rfl rfl rfl rfl ?_
      refine T.assign .list rfl (wants0 rfl) rfl rfl ?_
      refine T.nil ?_
      refine T.then_normal ?_
      obtain rfl := inv_some hk8
      exact T.le (EnvLe.cons rfl (EnvLe.cons rfl (EnvLe.cons rfl (EnvLe.cons rfl (EnvLe.cons rfl EnvLe.nil))))) (T.pick [0, 1, 2, 3, 4] 5 rfl rfl (Nat.le_add_left _ _) rfl (hm4 (s12.1, s12.2.1, s12.2.2.1, s12.2.2.2.1, s12.2.2.2.2.1, s12.2.2.2.2.2.1, s12.2.2.2.2.2.2.1, s12.2.2.2.2.2.2.2.1, s12.2.2.2.2.2.2.2.2, IntKind.i64.wrap (s10.2.2.2.2.2.2.2.2.2 + 1)) rfl ((x20.1.1, x20.1.2), x20.2)))
     ·refine T.block ?_
      refine T.seq ?_
      refine T.region ?_
      refine T.move .list rfl (wants0 rfl) rfl rfl ?_
      refine T.move .list rfl (wants0 rfl) rfl rfl ?_
      obtain ⟨hc11, hk7⟩ := inv_chk hk7
      refine T.idxRo .list 0 rfl rfl (wants0 rfl) rfl rfl rfl hc11.1 hc11.2 (Nat.le_refl _) ?_
      refine T.fieldRo .list 0 rfl hc11.1 hc11.2 rfl (wants0 rfl) rfl rfl ?_
      refine T.fldRo 0 .list (Fd.fst Fd.self) rfl rfl hc11.1 hc11.2 rfl (wants0 rfl) rfl rfl rfl ?_
      refine T.bin .list rfl (wants0 rfl) rfl rfl rfl rfl ?_
      refine T.nil ?_
      refine T.then_normal ?_
      refine T.cond rfl (fun hb13 => ?_) (fun hb13 => ?_)
      ·replace hk7 := inv_posB hb13 hk7
       refine T.region ?_
       refine T.move .list rfl (wants0 rfl) rfl rfl ?_
       refine T.pick [1, 2, 3, 4, 0] 5 rfl rfl (Nat.le_add_left _ _) (hs' := Cl x2.1 69 [.int .i64 s10.1, .map (some x2.2.1), .slice x18.1.1 s10.2.2.1.length x18.1.2, .bool s10.2.2.2.1, .int .i64 s10.2.2.2.2.1, .int .i64 s10.2.2.2.2.2.1, .int .u64 s10.2.2.2.2.2.2.1, .int .i64 s10.2.2.2.2.2.2.2.1, .int .i64 s10.2.2.2.2.2.2.2.2.1] :: Mp (Elt.slice E8) x2.2.1 s10.2.1 :: Hb 71 x18.1.1 x18.1.2 x18.2 s10.2.2.1 :: Bb 5 x18.2 s10.2.2.1 :: Ro (Elt.pair E64 (Elt.pair E64 (Elt.pair E64 (Elt.pair (Elt.slice E8) (Elt.pair E64 (Elt.pair EU64 (Elt.pair E64 E64))))))) A0 c0 l0 :: hs) rfl ?_
       obtain ⟨r8, hg8, hk7⟩ := inv_bind hk7
       refine T.call .list (wants0 rfl) rfl (run_callF (vs := [_]) rfl Try.func10 rfl (by decide) rfl) (fun w hS => disk_Disk_Flush.c hS (o0 := (s10.1, s10.2.2.2.1, s10.2.2.2.2.1, s10.2.2.2.2.2.1, s10.2.2.2.2.2.2.1, s10.2.2.2.2.2.2.2.1, s10.2.2.2.2.2.2.2.2.1)) (q0b := s10.2.1) (q0c := s10.2.2.1)  hg8) (fun x21 => ?_)
       refine T.nil ?_
       refine T.in_normal ?_
       refine T.then_normal ?_
       exact T.le (EnvLe.cons rfl (EnvLe.cons rfl (EnvLe.cons rfl (EnvLe.cons rfl (EnvLe.cons rfl EnvLe.nil))))) (T.pick [4, 0, 1, 2, 3] 5 rfl rfl (Nat.le_add_left _ _) rfl (J8 (r8.2.1.1, r8.2.2.1, r8.2.2.2, r8.2.1.2.1, r8.2.1.2.2.1, r8.2.1.2.2.2.1, r8.2.1.2.2.2.2.1, r8.2.1.2.2.2.2.2.1, r8.2.1.2.2.2.2.2.2) ((x21.1.1, x21.1.2), x21.2) hk7))
      ·replace hk7 := inv_negB hb13 hk7
       refine T.dStart mixed ?_
       refine T.move (.dPure (i := 0) rfl (by kernel_rfl) (fun d _ _ _ _ h => by cases d <;> exact h)) rfl (wants0 rfl) rfl rfl ?_
       refine T.move (.dPure (i := 1) rfl (by kernel_rfl) (fun d _ _ _ _ h => by cases d <;> exact h)) rfl (wants0 rfl) rfl rfl ?_
       refine T.move (.dPure (i := 2) rfl (by kernel_rfl) (fun d _ _ _ _ h => by cases d <;> exact h)) rfl (wants0 rfl) rfl rfl ?_
       obtain ⟨hc12, hk7⟩ := inv_chk hk7
       refine T.idxRo (.dPure (i := 3) rfl (by kernel_rfl) (fun d _ _ _ _ h => by cases d <;> exact h)) 0 rfl rfl (wants0 rfl) rfl rfl rfl hc12.1 hc12.2 (Nat.le_refl _) ?_
       refine T.fieldRo (.dPure (i := 4) rfl (by kernel_rfl) (fun d _ _ _ _ h => by cases d <;> exact h)) 0 rfl hc12.1 hc12.2 rfl (wants0 rfl) rfl rfl ?_
       refine T.move (.dPure (i := 7) rfl (by kernel_rfl) (fun d _ _ _ _ h => by cases d <;> exact h)) rfl (wants0 rfl) rfl rfl ?_
       refine T.move (.dPure (i := 8) rfl (by kernel_rfl) (fun d _ _ _ _ h => by cases d <;> exact h)) rfl (wants0 rfl) rfl rfl ?_
       obtain ⟨hc13, hk7⟩ := inv_chk hk7
       refine T.idxRo (.dPure (i := 9) rfl (by kernel_rfl) (fun d _ _ _ _ h => by cases d <;> exact h)) 0 rfl rfl (wants0 rfl) rfl rfl rfl hc13.1 hc13.2 (Nat.le_refl _) ?_
       refine T.keep (fun z1 hk9 => ?_)
       refine T.dAdd 13 (fun w => PH.le z1 (PH.of w)) (Kp.le 0 rfl) ?_
       refine T.valS 0 (i := 5) (.int .i64 (((((l0).getD (s10.2.2.2.2.2.2.2.2.2 : Int).toNat default)).2.1))) rfl rfl (by kernel_rfl) (by kernel_rfl) (fun d _ _ _ _ h => by cases d <;> exact h) (wants0 rfl) rfl (run_fldRo (Fd.snd (Fd.fst Fd.self)) rfl (hk9 0 rfl).1 rfl rfl rfl hc12.1 hc12.2) ?_
       refine T.bin (.dPure (i := 6) rfl (by kernel_rfl) (fun d _ _ _ _ h => by cases d <;> exact h)) rfl (wants0 rfl) rfl rfl rfl rfl ?_
       refine T.openEl 1 (j := s10.2.2.2.2.2.2.2.2.2) (Sh.pair Sh.sc (Sh.pair Sh.sc (Sh.pair Sh.sc (Sh.pair Sh.slice (Sh.pair Sh.sc (Sh.pair Sh.sc (Sh.pair Sh.sc Sh.sc))))))) rfl hc13.1 hc13.2 (v := fun x22 => [.int .i64 (((((l0).getD (s10.2.2.2.2.2.2.2.2.2 : Int).toNat default)).1)), .int .i64 (((((l0).getD (s10.2.2.2.2.2.2.2.2.2 : Int).toNat default)).2.1)), .int .i64 (((((l0).getD (s10.2.2.2.2.2.2.2.2.2 : Int).toNat default)).2.2.1)), .slice x22.2.2.2.1.1 ((((((l0).getD (s10.2.2.2.2.2.2.2.2.2 : Int).toNat default)).2.2.2.1)).length) x22.2.2.2.1.2, .int .i64 ((((((l0).getD (s10.2.2.2.2.2.2.2.2.2 : Int).toNat default)).2.2.2.2).1)), .int .u64 ((((((l0).getD (s10.2.2.2.2.2.2.2.2.2 : Int).toNat default)).2.2.2.2).2.1)), .int .i64 ((((((l0).getD (s10.2.2.2.2.2.2.2.2.2 : Int).toNat default)).2.2.2.2).2.2.1)), .int .i64 ((((((l0).getD (s10.2.2.2.2.2.2.2.2.2 : Int).toNat default)).2.2.2.2).2.2.2))]) (hs' := fun x22 => Ro E8 x22.2.2.2.1.1 x22.2.2.2.1.2 (((((l0).getD (s10.2.2.2.2.2.2.2.2.2 : Int).toNat default)).2.2.2.1)) :: Kp z1 :: Ro (Elt.pair E64 (Elt.pair E64 (Elt.pair E64 (Elt.pair (Elt.slice E8) (Elt.pair E64 (Elt.pair EU64 (Elt.pair E64 E64))))))) A0 c0 l0 :: Cl x2.1 69 [.int .i64 s10.1, .map (some x2.2.1), .slice x18.1.1 s10.2.2.1.length x18.1.2, .bool s10.2.2.2.1, .int .i64 s10.2.2.2.2.1, .int .i64 s10.2.2.2.2.2.1, .int .u64 s10.2.2.2.2.2.2.1, .int .i64 s10.2.2.2.2.2.2.2.1, .int .i64 s10.2.2.2.2.2.2.2.2.1] :: Mp (Elt.slice E8) x2.2.1 s10.2.1 :: Hb 71 x18.1.1 x18.1.2 x18.2 s10.2.2.1 :: Bb 5 x18.2 s10.2.2.1 :: hs) (fun _ => rfl) (fun _ => rfl) (fun z2 x22 hk10 => ?_)
       refine T.dAdd 13 (fun w => PH.le z2 (PH.of w)) (Kp.le 0 rfl) ?_
       refine T.valS 0 (i := 10) (.agg #[.int .i64 (((((l0).getD (s10.2.2.2.2.2.2.2.2.2 : Int).toNat default)).1)), .int .i64 (((((l0).getD (s10.2.2.2.2.2.2.2.2.2 : Int).toNat default)).2.1)), .int .i64 (((((l0).getD (s10.2.2.2.2.2.2.2.2.2 : Int).toNat default)).2.2.1)), .slice x22.2.2.2.1.1 ((((((l0).getD (s10.2.2.2.2.2.2.2.2.2 : Int).toNat default)).2.2.2.1)).length) x22.2.2.2.1.2, .int .i64 ((((((l0).getD (s10.2.2.2.2.2.2.2.2.2 : Int).toNat default)).2.2.2.2).1)), .int .u64 ((((((l0).getD (s10.2.2.2.2.2.2.2.2.2 : Int).toNat default)).2.2.2.2).2.1)), .int .i64 ((((((l0).getD (s10.2.2.2.2.2.2.2.2.2 : Int).toNat default)).2.2.2.2).2.2.1)), .int .i64 ((((((l0).getD (s10.2.2.2.2.2.2.2.2.2 : Int).toNat default)).2.2.2.2).2.2.2))]) rfl rfl (by kernel_rfl) (by kernel_rfl) (fun d _ _ _ _ h => by cases d <;> exact h) (wants0 rfl) rfl (run_ldSl hk10 rfl rfl) ?_
       obtain ⟨r9, hg9, hk7⟩ := inv_bind hk7
       refine T.dOnly (i := 11) (by kernel_rfl) ?_
       refine T.call (.dOne rfl (by kernel_rfl)) (wants0 rfl) rfl (run_callF (vs := [_]) rfl Try.func22 rfl (by decide) rfl) (fun w hS => law3_bytes.c hS (i0a := 1) (a0 := ((l0).getD (s10.2.2.2.2.2.2.2.2.2 : Int).toNat default)) rfl hg9) (fun x23 => ?_)
       refine T.dNext (phi_cons (.inr (Kp.le 1 rfl)) (phi_cons (.inr (Kp.le 3 rfl)) phi_nil)) ?_
       obtain ⟨r10, hg10, hk7⟩ := inv_bind hk7
       refine T.pick [5, 6, 7, 8, 0, 1, 2, 3, 4] 9 rfl rfl (Nat.le_add_left _ _) (hs' := Cl x2.1 69 [.int .i64 s10.1, .map (some x2.2.1), .slice x18.1.1 s10.2.2.1.length x18.1.2, .bool s10.2.2.2.1, .int .i64 s10.2.2.2.2.1, .int .i64 s10.2.2.2.2.2.1, .int .u64 s10.2.2.2.2.2.2.1, .int .i64 s10.2.2.2.2.2.2.2.1, .int .i64 s10.2.2.2.2.2.2.2.2.1] :: Mp (Elt.slice E8) x2.2.1 s10.2.1 :: Hb 71 x18.1.1 x18.1.2 x18.2 s10.2.2.1 :: Bb 5 x18.2 s10.2.2.1 :: Bf E8 5 x23.1 x23.2 r9 :: Kp z2 :: Ro E8 x22.2.2.2.1.1 x22.2.2.2.1.2 (((((l0).getD (s10.2.2.2.2.2.2.2.2.2 : Int).toNat default)).2.2.2.1)) :: Kp z1 :: Ro (Elt.pair E64 (Elt.pair E64 (Elt.pair E64 (Elt.pair (Elt.slice E8) (Elt.pair E64 (Elt.pair EU64 (Elt.pair E64 E64))))))) A0 c0 l0 :: hs) rfl ?_
       refine T.dOnly (i := 12) (by kernel_rfl) ?_
       refine T.call (.dOne rfl (by kernel_rfl)) (wants0 rfl) rfl (run_callF (vs := [_, _, _]) rfl Try.func11 rfl (by decide) rfl) (fun w hS => disk_Disk_Write.c hS (o0 := (s10.1, s10.2.2.2.1, s10.2.2.2.2.1, s10.2.2.2.2.2.1, s10.2.2.2.2.2.2.1, s10.2.2.2.2.2.2.2.1, s10.2.2.2.2.2.2.2.2.1)) (q0b := s10.2.1) (q0c := s10.2.2.1) (l2 := r9)  hg10) (fun x24 => ?_)
       refine T.dNext (phi_cons (.inr (Kp.le 5 rfl)) (phi_cons (.inr (Kp.le 7 rfl)) phi_nil)) ?_
       refine T.dDone (by kernel_rfl) ?_
       refine T.in_normal ?_
       refine T.then_normal ?_
       exact T.le (EnvLe.cons rfl (EnvLe.cons rfl (EnvLe.cons rfl (EnvLe.cons rfl (EnvLe.cons rfl EnvLe.nil))))) (T.pick [8, 0, 1, 2, 3] 9 rfl rfl (Nat.le_add_left _ _) rfl (J8 (r10.2.1.1, r10.2.2.1, r10.2.2.2, r10.2.1.2.1, r10.2.1.2.2.1, r10.2.1.2.2.2.1, r10.2.1.2.2.2.2.1, r10.2.1.2.2.2.2.2.1, r10.2.1.2.2.2.2.2.2) ((x24.1.1, x24.1.2), x24.2) hk7))
    ·replace hk7 := inv_negB hb12 hk7
     refine T.exit ?_
     refine T.then_exit ?_
     refine T.then_exit ?_
     obtain rfl := inv_some hk7
     obtain rfl := hx4 _ rfl
     refine T.in_hit ?_
     refine T.then_normal ?_
     exact T.le (EnvLe.cons rfl (EnvLe.cons rfl (EnvLe.cons rfl EnvLe.nil))) (T.pick [1, 2, 3, 4] 5 rfl rfl (Nat.le_add_left _ _) rfl (J1 (s10.1, s10.2.1, s10.2.2.1, s10.2.2.2.1, s10.2.2.2.2.1, s10.2.2.2.2.2.1, s10.2.2.2.2.2.2.1, s10.2.2.2.2.2.2.2.1, s10.2.2.2.2.2.2.2.2.1) ((x18.1.1, x18.1.2), x18.2) hr))
   ·refine T.region ?_
    refine T.move .list rfl (wants0 rfl) rfl rfl ?_
    refine T.move .list rfl (wants0 rfl) rfl rfl ?_
    refine T.lenSlice .list rfl (wants0 rfl) rfl rfl ?_
    refine T.bin .list rfl (wants0 rfl) rfl rfl rfl rfl ?_
    refine T.move .list rfl (wants0 rfl) rfl rfl ?_
    refine T.bool (b := (decide (s10.2.2.2.2.2.2.2.2.2 < ((l0.length : Int))))) (fun hb14 => ?_) (fun hb14 => ?_)
    ·replace he4 := inv_posB hb14 he4
     refine T.move .list rfl (wants1 rfl rfl rfl hb14) rfl rfl ?_
     refine T.bin .list rfl (wants1 rfl rfl rfl hb14) rfl rfl rfl rfl ?_
     refine T.pickT .list rfl (wants0 rfl) rfl rfl hb14 rfl ?_
     refine T.nil ?_
     refine T.then_normal ?_
     exact T.le (EnvLe.cons rfl (EnvLe.cons rfl (EnvLe.cons rfl (EnvLe.cons rfl (EnvLe.cons rfl (EnvLe.cons rfl EnvLe.nil)))))) (T.pick [0, 1, 2, 3, 4] 5 rfl rfl (Nat.le_add_left _ _) rfl (J7 (decide (s10.2.2.2.2.2.2.2.2.2 < 20)) () he4))
    ·replace he4 := inv_negB hb14 he4
     refine T.leave .list (wantsNot rfl rfl rfl hb14) rfl ?_
     refine T.leave .list (wantsNot rfl rfl rfl hb14) rfl ?_
     refine T.pickF .list rfl (wants0 rfl) rfl rfl hb14 rfl ?_
     refine T.nil ?_
     refine T.then_normal ?_
     exact T.le (EnvLe.cons rfl (EnvLe.cons rfl (EnvLe.cons rfl (EnvLe.cons rfl (EnvLe.cons rfl (EnvLe.cons rfl EnvLe.nil)))))) (T.pick [0, 1, 2, 3, 4] 5 rfl rfl (Nat.le_add_left _ _) rfl (J7 false () he4))
end Go.Proofs.Ytfdogeebkbaadaa
