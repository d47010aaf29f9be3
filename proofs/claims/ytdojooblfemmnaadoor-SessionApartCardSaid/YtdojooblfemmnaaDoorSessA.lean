/- SessA: what the functions compute, and that the program computes it; printed by a program of ours. -/
import Derived.Test.YtdojooblfemmnaaDoorSess
import Derived.Test.YtdojooblfemmnaaDoorCks
set_option linter.unusedVariables false
set_option linter.unusedSimpArgs false
namespace Go.Proofs.YtdojooblfemmnaaDoor
open Go.RowKit
noncomputable def law18_SessionApart.k2 (r1p0 : Unit × (Int × Int × Int × Int × Int × Int × Int × Int × Int × Int × Int × Int × Int × Int × Int × Int × Int) × (Int × Int × Int × Int) × (Int × Int × Int × Int) × (List (Int × Int)) × (Int × Bool × Int × Int × Int × Int × Int) × (List (Int × (List UInt8))) × (List (Int × (List UInt8))) × (List (Int × Int)) × (List (Int × Int)) × (List ((Int × (List UInt8) × (List UInt8)) × Bool))) (a2 : Int) (r2 : Int × Int) (r3 : Int × (Int × Int × (List (List (Int × Int × (List UInt8))))) × Int) (s2 : (List ((Int × (List UInt8) × (List UInt8)) × Bool))) : Option Bool :=
  (session_Last.impl r1p0.2.1 r1p0.2.2.1 r1p0.2.2.2.1 r1p0.2.2.2.2.1 r1p0.2.2.2.2.2.1 r1p0.2.2.2.2.2.2.1 r1p0.2.2.2.2.2.2.2.1 r1p0.2.2.2.2.2.2.2.2.1 r1p0.2.2.2.2.2.2.2.2.2.1 s2 (bitsOf .and .i64 a2 7)).bind fun r4 => (session_Look.impl r1p0.2.1 r1p0.2.2.1 r1p0.2.2.2.1 r1p0.2.2.2.2.1 r1p0.2.2.2.2.2.1 r1p0.2.2.2.2.2.2.1 r1p0.2.2.2.2.2.2.2.1 r1p0.2.2.2.2.2.2.2.2.1 r1p0.2.2.2.2.2.2.2.2.2.1 s2 (bitsOf .and .i64 a2 7) (max r2.1 1)).bind fun r5 => (law18_told.impl ).bind fun r6 => (if r6 = true then (if ((decide (r4.2 = 0))) = true then (if ((decide (r4.1 = r2.1))) = true then (if ((decide (r3.1 = r5.1))) = true then (ref16_Same.impl r3.2.1 r5.2.1).bind fun r7 => (if r7 = true then some (decide ((decide (r3.1 = 1)) = (decide ((0 : Int) < r2.1)))) else some false) else some false) else some false) else some false) else some false)
noncomputable def law18_SessionApart.k4 (s3 : (List ((Int × (List UInt8) × (List UInt8)) × Bool)) × Int) (s5 : (List ((Int × (List UInt8) × (List UInt8)) × Bool))) : Option (((List ((Int × (List UInt8) × (List UInt8)) × Bool)) × Int) ⊕ ((List ((Int × (List UInt8) × (List UInt8)) × Bool)))) :=
  some (.inl (s5, IntKind.i64.wrap (s3.2 + 1)))
noncomputable def law18_SessionApart.k3 (s3 : (List ((Int × (List UInt8) × (List UInt8)) × Bool)) × Int) (l1 : List (Int × Int × Int × (Int × Int × (List (List (Int × Int × (List UInt8))))))) (a2 : Int) (r1p0 : Unit × (Int × Int × Int × Int × Int × Int × Int × Int × Int × Int × Int × Int × Int × Int × Int × Int × Int) × (Int × Int × Int × Int) × (Int × Int × Int × Int) × (List (Int × Int)) × (Int × Bool × Int × Int × Int × Int × Int) × (List (Int × (List UInt8))) × (List (Int × (List UInt8))) × (List (Int × Int)) × (List (Int × Int)) × (List ((Int × (List UInt8) × (List UInt8)) × Bool))) (s4 : Bool) : Option (((List ((Int × (List UInt8) × (List UInt8)) × Bool)) × Int) ⊕ ((List ((Int × (List UInt8) × (List UInt8)) × Bool)))) :=
  (if s4 = true then chk (0 ≤ s3.2 ∧ s3.2 < (l1.length : Int)) ((if ((!(decide (((((((l1).getD (s3.2 : Int).toNat default)).2.1))) = (bitsOf .and .i64 a2 7))))) = true then chk (0 ≤ s3.2 ∧ s3.2 < (l1.length : Int)) (chk (0 ≤ s3.2 ∧ s3.2 < (l1.length : Int)) (chk (0 ≤ s3.2 ∧ s3.2 < (l1.length : Int)) ((session_Keep.impl r1p0.2.1 r1p0.2.2.1 r1p0.2.2.2.1 r1p0.2.2.2.2.1 r1p0.2.2.2.2.2.1 r1p0.2.2.2.2.2.2.1 r1p0.2.2.2.2.2.2.2.1 r1p0.2.2.2.2.2.2.2.2.1 r1p0.2.2.2.2.2.2.2.2.2.1 s3.1 (((((l1).getD (s3.2 : Int).toNat default)).2.1)) (((((l1).getD (s3.2 : Int).toNat default)).2.2.1)) ((((l1).getD (s3.2 : Int).toNat default)).2.2.2)).bind fun r8 => law18_SessionApart.k4 s3 r8.2))) else law18_SessionApart.k4 s3 s3.1)) else some (.inr s3.1))
noncomputable def law18_SessionApart.st1 (l1 : List (Int × Int × Int × (Int × Int × (List (List (Int × Int × (List UInt8))))))) (a2 : Int) (r1p0 : Unit × (Int × Int × Int × Int × Int × Int × Int × Int × Int × Int × Int × Int × Int × Int × Int × Int × Int) × (Int × Int × Int × Int) × (Int × Int × Int × Int) × (List (Int × Int)) × (Int × Bool × Int × Int × Int × Int × Int) × (List (Int × (List UInt8))) × (List (Int × (List UInt8))) × (List (Int × Int)) × (List (Int × Int)) × (List ((Int × (List UInt8) × (List UInt8)) × Bool))) (s3 : (List ((Int × (List UInt8) × (List UInt8)) × Bool)) × Int) : Option (((List ((Int × (List UInt8) × (List UInt8)) × Bool)) × Int) ⊕ ((List ((Int × (List UInt8) × (List UInt8)) × Bool)))) :=
  (if ((decide (s3.2 < ((l1.length : Int))))) = true then law18_SessionApart.k3 s3 l1 a2 r1p0 (decide (s3.2 < 20)) else law18_SessionApart.k3 s3 l1 a2 r1p0 false)
noncomputable def law18_SessionApart.k1 (r1p0 : Unit × (Int × Int × Int × Int × Int × Int × Int × Int × Int × Int × Int × Int × Int × Int × Int × Int × Int) × (Int × Int × Int × Int) × (Int × Int × Int × Int) × (List (Int × Int)) × (Int × Bool × Int × Int × Int × Int × Int) × (List (Int × (List UInt8))) × (List (Int × (List UInt8))) × (List (Int × Int)) × (List (Int × Int)) × (List ((Int × (List UInt8) × (List UInt8)) × Bool))) (a2 : Int) (l1 : List (Int × Int × Int × (Int × Int × (List (List (Int × Int × (List UInt8))))))) (s1 : (List ((Int × (List UInt8) × (List UInt8)) × Bool))) : Option Bool :=
  (session_Last.impl r1p0.2.1 r1p0.2.2.1 r1p0.2.2.2.1 r1p0.2.2.2.2.1 r1p0.2.2.2.2.2.1 r1p0.2.2.2.2.2.2.1 r1p0.2.2.2.2.2.2.2.1 r1p0.2.2.2.2.2.2.2.2.1 r1p0.2.2.2.2.2.2.2.2.2.1 s1 (bitsOf .and .i64 a2 7)).bind fun r2 => (if ((!(decide (r2.2 = 0)))) = true then some false else (session_Look.impl r1p0.2.1 r1p0.2.2.1 r1p0.2.2.2.1 r1p0.2.2.2.2.1 r1p0.2.2.2.2.2.1 r1p0.2.2.2.2.2.2.1 r1p0.2.2.2.2.2.2.2.1 r1p0.2.2.2.2.2.2.2.2.1 r1p0.2.2.2.2.2.2.2.2.2.1 s1 (bitsOf .and .i64 a2 7) (max r2.1 1)).bind fun r3 => (loop (law18_SessionApart.st1 l1 a2 r1p0) (s1, 0)).bind (fun e1 => law18_SessionApart.k2 r1p0 a2 r2 r3 e1))
noncomputable def law18_SessionApart.k5 (s6 : (List ((Int × (List UInt8) × (List UInt8)) × Bool)) × Int) (l0 : List (Int × Int × Int × (Int × Int × (List (List (Int × Int × (List UInt8))))))) (r1p0 : Unit × (Int × Int × Int × Int × Int × Int × Int × Int × Int × Int × Int × Int × Int × Int × Int × Int × Int) × (Int × Int × Int × Int) × (Int × Int × Int × Int) × (List (Int × Int)) × (Int × Bool × Int × Int × Int × Int × Int) × (List (Int × (List UInt8))) × (List (Int × (List UInt8))) × (List (Int × Int)) × (List (Int × Int)) × (List ((Int × (List UInt8) × (List UInt8)) × Bool))) (a2 : Int) (s7 : Bool) : Option (((List ((Int × (List UInt8) × (List UInt8)) × Bool)) × Int) ⊕ ((List ((Int × (List UInt8) × (List UInt8)) × Bool)))) :=
  (if s7 = true then chk (0 ≤ s6.2 ∧ s6.2 < (l0.length : Int)) (chk (0 ≤ s6.2 ∧ s6.2 < (l0.length : Int)) ((session_Keep.impl r1p0.2.1 r1p0.2.2.1 r1p0.2.2.2.1 r1p0.2.2.2.2.1 r1p0.2.2.2.2.2.1 r1p0.2.2.2.2.2.2.1 r1p0.2.2.2.2.2.2.2.1 r1p0.2.2.2.2.2.2.2.2.1 r1p0.2.2.2.2.2.2.2.2.2.1 s6.1 (bitsOf .and .i64 a2 7) (((((l0).getD (s6.2 : Int).toNat default)).2.2.1)) ((((l0).getD (s6.2 : Int).toNat default)).2.2.2)).bind fun r9 => some (.inl (r9.2, IntKind.i64.wrap (s6.2 + 1))))) else some (.inr s6.1))
noncomputable def law18_SessionApart.st2 (l0 : List (Int × Int × Int × (Int × Int × (List (List (Int × Int × (List UInt8))))))) (r1p0 : Unit × (Int × Int × Int × Int × Int × Int × Int × Int × Int × Int × Int × Int × Int × Int × Int × Int × Int) × (Int × Int × Int × Int) × (Int × Int × Int × Int) × (List (Int × Int)) × (Int × Bool × Int × Int × Int × Int × Int) × (List (Int × (List UInt8))) × (List (Int × (List UInt8))) × (List (Int × Int)) × (List (Int × Int)) × (List ((Int × (List UInt8) × (List UInt8)) × Bool))) (a2 : Int) (s6 : (List ((Int × (List UInt8) × (List UInt8)) × Bool)) × Int) : Option (((List ((Int × (List UInt8) × (List UInt8)) × Bool)) × Int) ⊕ ((List ((Int × (List UInt8) × (List UInt8)) × Bool)))) :=
  (if ((decide (s6.2 < ((l0.length : Int))))) = true then law18_SessionApart.k5 s6 l0 r1p0 a2 (decide (s6.2 < 20)) else law18_SessionApart.k5 s6 l0 r1p0 a2 false)
noncomputable def law18_SessionApart.impl (l0 : List (Int × Int × Int × (Int × Int × (List (List (Int × Int × (List UInt8))))))) (l1 : List (Int × Int × Int × (Int × Int × (List (List (Int × Int × (List UInt8))))))) (a2 : Int) : Option Bool :=
  (law13_New.impl ).bind fun r1 => (match r1 with | (none, r1p1) => (some false) | (some r1p0, r1p1) => ((loop (law18_SessionApart.st2 l0 r1p0 a2) (r1p0.2.2.2.2.2.2.2.2.2.2, 0)).bind (fun e2 => law18_SessionApart.k1 r1p0 a2 l1 e2)))
set_option maxRecDepth 100000 in
set_option maxHeartbeats 4000000 in
theorem law18_SessionApart.c {B : World} {hs : List MP} {w : World} {i0 c0 : Nat} {A0 : Option Addr} {l0 : List (Int × Int × Int × (Int × Int × (List (List (Int × Int × (List UInt8))))))} {i1 c1 : Nat} {A1 : Option Addr} {l1 : List (Int × Int × Int × (Int × Int × (List (List (Int × Int × (List UInt8))))))} {a2 : Int} (hB : Base B) (hS : St B hs w) (h0 : (hs)[i0]? = some (Ro (Elt.pair E64 (Elt.pair E64 (Elt.pair E64 (Elt.pair E64 (Elt.pair E64 (Elt.slice (Elt.slice (Elt.pair E64 (Elt.pair E64 EStr))))))))) A0 c0 l0)) (h1 : (hs)[i1]? = some (Ro (Elt.pair E64 (Elt.pair E64 (Elt.pair E64 (Elt.pair E64 (Elt.pair E64 (Elt.slice (Elt.slice (Elt.pair E64 (Elt.pair E64 EStr))))))))) A1 c1 l1)) {r : Bool} (hr : law18_SessionApart.impl l0 l1 a2 = some r) :
    Calls Tryd.prog 4 #[.slice A0 l0.length c0, .slice A1 l1.length c1, .int .i64 a2] w fun e w' => ∃ x : Unit, e = .returned (.bool r) ∧ St B hs w' := by
 unfold law18_SessionApart.impl at hr
 refine calls_T Tryd.func4 rfl rfl rfl hS ?_
 refine T.front i0 h0 ?_
 refine T.front (i1 + 1) h1 ?_
 refine T.seq ?_
 refine T.region ?_
 refine T.assign .list rfl (wants0 rfl) rfl rfl ?_
 refine T.nil ?_
 refine T.then_normal ?_
 refine T.seq ?_
 refine T.region ?_
 obtain ⟨r1, hg1, hr⟩ := inv_bind hr
 rcases r1 with ⟨_ | r1p0, r1p1⟩
 ·dsimp only at hr
  refine T.call (v := fun (x1 : Nat × Nat × Nat × Nat × Nat × Nat × Nat × (Option Addr × Nat) × Nat × Nat × (Option Addr × Nat)) => .tuple #[.pointer none, .pointer none]) (hs' := fun x1 => Ro (Elt.pair E64 (Elt.pair E64 (Elt.pair E64 (Elt.pair E64 (Elt.pair E64 (Elt.slice (Elt.slice (Elt.pair E64 (Elt.pair E64 EStr))))))))) A1 c1 l1 :: Ro (Elt.pair E64 (Elt.pair E64 (Elt.pair E64 (Elt.pair E64 (Elt.pair E64 (Elt.slice (Elt.slice (Elt.pair E64 (Elt.pair E64 EStr))))))))) A0 c0 l0 :: hs) .list (wants0 rfl) rfl (run_callF (vs := []) rfl Tryd.func5 rfl (by decide) rfl) (fun w hS => law13_New.c hB hS  hg1) (fun x1 => ?_)
  refine T.move .list rfl (wants0 rfl) rfl rfl ?_
  refine T.extract .list rfl (wants0 rfl) rfl rfl rfl ?_
  refine T.extract .list rfl (wants0 rfl) rfl rfl rfl ?_
  refine T.assign .list rfl (wants0 rfl) rfl rfl ?_
  refine T.assign .list rfl (wants0 rfl) rfl rfl ?_
  refine T.nil ?_
  refine T.then_normal ?_
  refine T.seq ?_
  refine T.seq ?_
  refine T.region ?_
  refine T.move .list rfl (wants0 rfl) rfl rfl ?_
  refine T.ptrEq (pt := 84) .list rfl (wants0 rfl) rfl rfl rfl (by kernel_rfl) (.inr rfl) rfl ?_
  refine T.nil ?_
  refine T.then_normal ?_
  refine T.condT rfl rfl ?_
  refine T.seq ?_
  refine T.region ?_
  refine T.assign .list rfl (wants0 rfl) rfl rfl ?_
  refine T.nil ?_
  refine T.then_normal ?_
  refine T.ret ?_
  refine T.then_ret ?_
  obtain rfl := inv_some hr
  refine T.pick [] 2 rfl rfl nla rfl ?_
  refine T.ret1 rfl rfl (fun w hS => ⟨(), rfl, hS⟩)
 ·dsimp only at hr
  refine T.call (v := fun (x2 : Nat × Nat × Nat × Nat × Nat × Nat × Nat × (Option Addr × Nat) × Nat × Nat × (Option Addr × Nat)) => .tuple #[.pointer (some ⟨x2.1, 0, none⟩), .pointer (some ⟨x2.2.1, 0, none⟩)]) (hs' := fun x2 => ck6 x2.1 x2.2.1 x2.2.2.2.2.2.2.2.2.2.2.1 r1p0.2.2.2.2.2.2.2.2.2.2.length x2.2.2.2.2.2.2.2.2.2.2.2 :: ck4 x2.2.1 r1p0.2.1 x2.2.2.1 :: ck2 x2.2.2.1 r1p0.2.2.1 x2.2.2.2.1 x2.2.2.2.2.2.2.2.2.1 x2.2.2.2.2.2.2.2.2.2.1 :: ck1 x2.2.2.2.1 r1p0.2.2.2.1 x2.2.2.2.2.1 x2.2.2.2.2.2.1 :: Mp E64 x2.2.2.2.2.1 r1p0.2.2.2.2.1 :: ck0 x2.2.2.2.2.2.1 r1p0.2.2.2.2.2.1 x2.2.2.2.2.2.2.1 x2.2.2.2.2.2.2.2.1.1 r1p0.2.2.2.2.2.2.2.1.length x2.2.2.2.2.2.2.2.1.2 :: Mp (Elt.slice E8) x2.2.2.2.2.2.2.1 r1p0.2.2.2.2.2.2.1 :: Bf (Elt.pair E64 (Elt.slice E8)) 174 x2.2.2.2.2.2.2.2.1.1 x2.2.2.2.2.2.2.2.1.2 r1p0.2.2.2.2.2.2.2.1 :: Mp E64 x2.2.2.2.2.2.2.2.2.1 r1p0.2.2.2.2.2.2.2.2.1 :: Mp E64 x2.2.2.2.2.2.2.2.2.2.1 r1p0.2.2.2.2.2.2.2.2.2.1 :: Bf (Elt.pair (Elt.pair E64 (Elt.pair (Elt.slice E8) (Elt.slice E8))) EBool) 88 x2.2.2.2.2.2.2.2.2.2.2.1 x2.2.2.2.2.2.2.2.2.2.2.2 r1p0.2.2.2.2.2.2.2.2.2.2 :: Ro (Elt.pair E64 (Elt.pair E64 (Elt.pair E64 (Elt.pair E64 (Elt.pair E64 (Elt.slice (Elt.slice (Elt.pair E64 (Elt.pair E64 EStr))))))))) A1 c1 l1 :: Ro (Elt.pair E64 (Elt.pair E64 (Elt.pair E64 (Elt.pair E64 (Elt.pair E64 (Elt.slice (Elt.slice (Elt.pair E64 (Elt.pair E64 EStr))))))))) A0 c0 l0 :: hs) .list (wants0 rfl) rfl (run_callF (vs := []) rfl Tryd.func5 rfl (by decide) rfl) (fun w hS => law13_New.c hB hS  hg1) (fun x2 => ?_)
  refine T.move .list rfl (wants0 rfl) rfl rfl ?_
  refine T.extract .list rfl (wants0 rfl) rfl rfl rfl ?_
  refine T.extract .list rfl (wants0 rfl) rfl rfl rfl ?_
  refine T.assign .list rfl (wants0 rfl) rfl rfl ?_
  refine T.assign .list rfl (wants0 rfl) rfl rfl ?_
  refine T.nil ?_
  refine T.then_normal ?_
  refine T.seq ?_
  refine T.seq ?_
  refine T.region ?_
  refine T.move .list rfl (wants0 rfl) rfl rfl ?_
  refine T.ptrEq (pt := 84) .list rfl (wants0 rfl) rfl rfl rfl (by kernel_rfl) (.inr rfl) rfl ?_
  refine T.nil ?_
  refine T.then_normal ?_
  refine T.condF rfl rfl ?_
  refine T.skip ?_
  refine T.then_normal ?_
  refine T.seq ?_
  refine T.region ?_
  refine T.move .list rfl (wants0 rfl) rfl rfl ?_
  refine T.bin .list rfl (wants0 rfl) rfl rfl rfl rfl ?_
  refine T.assign .list rfl (wants0 rfl) rfl rfl ?_
  refine T.nil ?_
  refine T.then_normal ?_
  refine T.seqJ (fun (s1 : (List ((Int × (List UInt8) × (List UInt8)) × Bool))) (x3 : (Option Addr × Nat)) => [(1, .slice A1 l1.length c1), (2, .int .i64 (bitsOf .and .i64 a2 7)), (7, .pointer (some ⟨x2.1, 0, none⟩))]) (fun s1 x3 => Ro (Elt.pair E64 (Elt.pair E64 (Elt.pair E64 (Elt.pair E64 (Elt.pair E64 (Elt.slice (Elt.slice (Elt.pair E64 (Elt.pair E64 EStr))))))))) A1 c1 l1 :: Cl x2.1 84 [.pointer (some ⟨x2.2.1, 0, none⟩), .slice x3.1 s1.length x3.2] :: ck4 x2.2.1 r1p0.2.1 x2.2.2.1 :: ck2 x2.2.2.1 r1p0.2.2.1 x2.2.2.2.1 x2.2.2.2.2.2.2.2.2.1 x2.2.2.2.2.2.2.2.2.2.1 :: ck1 x2.2.2.2.1 r1p0.2.2.2.1 x2.2.2.2.2.1 x2.2.2.2.2.2.1 :: Mp E64 x2.2.2.2.2.1 r1p0.2.2.2.2.1 :: ck0 x2.2.2.2.2.2.1 r1p0.2.2.2.2.2.1 x2.2.2.2.2.2.2.1 x2.2.2.2.2.2.2.2.1.1 r1p0.2.2.2.2.2.2.2.1.length x2.2.2.2.2.2.2.2.1.2 :: Mp (Elt.slice E8) x2.2.2.2.2.2.2.1 r1p0.2.2.2.2.2.2.1 :: Bf (Elt.pair E64 (Elt.slice E8)) 174 x2.2.2.2.2.2.2.2.1.1 x2.2.2.2.2.2.2.2.1.2 r1p0.2.2.2.2.2.2.2.1 :: Mp E64 x2.2.2.2.2.2.2.2.2.1 r1p0.2.2.2.2.2.2.2.2.1 :: Mp E64 x2.2.2.2.2.2.2.2.2.2.1 r1p0.2.2.2.2.2.2.2.2.2.1 :: Bf (Elt.pair (Elt.pair E64 (Elt.pair (Elt.slice E8) (Elt.slice E8))) EBool) 88 x3.1 x3.2 s1 :: hs) (fun s1 => law18_SessionApart.k1 r1p0 a2 l1 s1 = some r) (fun s1 x3 hk1 => ?_) (fun J1 => ?_)
  ·unfold law18_SessionApart.k1 at hk1
   refine T.seq ?_
   refine T.region ?_
   refine T.move .list rfl (wants0 rfl) rfl rfl ?_
   refine T.move .list rfl (wants0 rfl) rfl rfl ?_
   refine T.pick [1, 2, 3, 4, 5, 6, 7, 8, 9, 10, 11, 0] 12 rfl rfl nla (hs' := Cl x2.1 84 [.pointer (some ⟨x2.2.1, 0, none⟩), .slice x3.1 s1.length x3.2] :: ck4 x2.2.1 r1p0.2.1 x2.2.2.1 :: ck2 x2.2.2.1 r1p0.2.2.1 x2.2.2.2.1 x2.2.2.2.2.2.2.2.2.1 x2.2.2.2.2.2.2.2.2.2.1 :: ck1 x2.2.2.2.1 r1p0.2.2.2.1 x2.2.2.2.2.1 x2.2.2.2.2.2.1 :: Mp E64 x2.2.2.2.2.1 r1p0.2.2.2.2.1 :: ck0 x2.2.2.2.2.2.1 r1p0.2.2.2.2.2.1 x2.2.2.2.2.2.2.1 x2.2.2.2.2.2.2.2.1.1 r1p0.2.2.2.2.2.2.2.1.length x2.2.2.2.2.2.2.2.1.2 :: Mp (Elt.slice E8) x2.2.2.2.2.2.2.1 r1p0.2.2.2.2.2.2.1 :: Bf (Elt.pair E64 (Elt.slice E8)) 174 x2.2.2.2.2.2.2.2.1.1 x2.2.2.2.2.2.2.2.1.2 r1p0.2.2.2.2.2.2.2.1 :: Mp E64 x2.2.2.2.2.2.2.2.2.1 r1p0.2.2.2.2.2.2.2.2.1 :: Mp E64 x2.2.2.2.2.2.2.2.2.2.1 r1p0.2.2.2.2.2.2.2.2.2.1 :: Bf (Elt.pair (Elt.pair E64 (Elt.pair (Elt.slice E8) (Elt.slice E8))) EBool) 88 x3.1 x3.2 s1 :: Ro (Elt.pair E64 (Elt.pair E64 (Elt.pair E64 (Elt.pair E64 (Elt.pair E64 (Elt.slice (Elt.slice (Elt.pair E64 (Elt.pair E64 EStr))))))))) A1 c1 l1 :: hs) rfl ?_
   obtain ⟨r2, hg2, hk1⟩ := inv_bind hk1
   refine T.call .list (wants0 rfl) rfl (run_callF (vs := [_, _]) rfl Tryd.func10 rfl (by decide) rfl) (fun w hS => session_Last.c hB hS (o0a := r1p0.2.1) (o0aa := r1p0.2.2.1) (o0aaa := r1p0.2.2.2.1) (q0aaab := r1p0.2.2.2.2.1) (o0aaac := r1p0.2.2.2.2.2.1) (q0aaacb := r1p0.2.2.2.2.2.2.1) (q0aaacc := r1p0.2.2.2.2.2.2.2.1) (q0aah := r1p0.2.2.2.2.2.2.2.2.1) (q0aak := r1p0.2.2.2.2.2.2.2.2.2.1) (q0b := s1)  hg2) (fun x4 => ?_)
   refine T.move .list rfl (wants0 rfl) rfl rfl ?_
   refine T.extract .list rfl (wants0 rfl) rfl rfl rfl ?_
   refine T.extract .list rfl (wants0 rfl) rfl rfl rfl ?_
   refine T.assign .list rfl (wants0 rfl) rfl rfl ?_
   refine T.assign .list rfl (wants0 rfl) rfl rfl ?_
   refine T.nil ?_
   refine T.then_normal ?_
   refine T.seq ?_
   refine T.seq ?_
   refine T.region ?_
   refine T.move .list rfl (wants0 rfl) rfl rfl ?_
   refine T.bin .list rfl (wants0 rfl) rfl rfl rfl rfl ?_
   refine T.nil ?_
   refine T.then_normal ?_
   refine T.cond rfl (fun hb1 => ?_) (fun hb1 => ?_)
   ·replace hk1 := inv_posB hb1 hk1
    refine T.seq ?_
    refine T.region ?_
    refine T.assign .list rfl (wants0 rfl) rfl rfl ?_
    refine T.nil ?_
    refine T.then_normal ?_
    refine T.ret ?_
    refine T.then_ret ?_
    obtain rfl := inv_some hk1
    refine T.pick [] 12 rfl rfl nla rfl ?_
    refine T.ret1 rfl rfl (fun w hS => ⟨(), rfl, hS⟩)
   ·replace hk1 := inv_negB hb1 hk1
    refine T.skip ?_
    refine T.then_normal ?_
    refine T.seq ?_
    refine T.region ?_
    refine T.move .list rfl (wants0 rfl) rfl rfl ?_
    refine T.move .list rfl (wants0 rfl) rfl rfl ?_
    refine T.move .list rfl (wants0 rfl) rfl rfl ?_
    refine T.max2 .list rfl (wants0 rfl) rfl rfl rfl ?_
    refine T.pick [0, 1, 2, 3, 4, 5, 6, 7, 8, 9, 10, 11] 12 rfl rfl nla (hs' := Cl x2.1 84 [.pointer (some ⟨x2.2.1, 0, none⟩), .slice x3.1 s1.length x3.2] :: ck4 x2.2.1 r1p0.2.1 x2.2.2.1 :: ck2 x2.2.2.1 r1p0.2.2.1 x2.2.2.2.1 x2.2.2.2.2.2.2.2.2.1 x2.2.2.2.2.2.2.2.2.2.1 :: ck1 x2.2.2.2.1 r1p0.2.2.2.1 x2.2.2.2.2.1 x2.2.2.2.2.2.1 :: Mp E64 x2.2.2.2.2.1 r1p0.2.2.2.2.1 :: ck0 x2.2.2.2.2.2.1 r1p0.2.2.2.2.2.1 x2.2.2.2.2.2.2.1 x2.2.2.2.2.2.2.2.1.1 r1p0.2.2.2.2.2.2.2.1.length x2.2.2.2.2.2.2.2.1.2 :: Mp (Elt.slice E8) x2.2.2.2.2.2.2.1 r1p0.2.2.2.2.2.2.1 :: Bf (Elt.pair E64 (Elt.slice E8)) 174 x2.2.2.2.2.2.2.2.1.1 x2.2.2.2.2.2.2.2.1.2 r1p0.2.2.2.2.2.2.2.1 :: Mp E64 x2.2.2.2.2.2.2.2.2.1 r1p0.2.2.2.2.2.2.2.2.1 :: Mp E64 x2.2.2.2.2.2.2.2.2.2.1 r1p0.2.2.2.2.2.2.2.2.2.1 :: Bf (Elt.pair (Elt.pair E64 (Elt.pair (Elt.slice E8) (Elt.slice E8))) EBool) 88 x3.1 x3.2 s1 :: Ro (Elt.pair E64 (Elt.pair E64 (Elt.pair E64 (Elt.pair E64 (Elt.pair E64 (Elt.slice (Elt.slice (Elt.pair E64 (Elt.pair E64 EStr))))))))) A1 c1 l1 :: hs) rfl ?_
    obtain ⟨r3, hg3, hk1⟩ := inv_bind hk1
    refine T.call .list (wants0 rfl) rfl (run_callF (vs := [_, _, _]) rfl Tryd.func8 rfl (by decide) rfl) (fun w hS => session_Look.c hB hS (o0a := r1p0.2.1) (o0aa := r1p0.2.2.1) (o0aaa := r1p0.2.2.2.1) (q0aaab := r1p0.2.2.2.2.1) (o0aaac := r1p0.2.2.2.2.2.1) (q0aaacb := r1p0.2.2.2.2.2.2.1) (q0aaacc := r1p0.2.2.2.2.2.2.2.1) (q0aah := r1p0.2.2.2.2.2.2.2.2.1) (q0aak := r1p0.2.2.2.2.2.2.2.2.2.1) (q0b := s1)  hg3) (fun x5 => ?_)
    refine T.move .list rfl (wants0 rfl) rfl rfl ?_
    refine T.extract .list rfl (wants0 rfl) rfl rfl rfl ?_
    refine T.extract .list rfl (wants0 rfl) rfl rfl rfl ?_
    refine T.extract .list rfl (wants0 rfl) rfl rfl rfl ?_
    refine T.allocS .list rfl (wants0 rfl) rfl (cs := [.int .i64 0, .int .i64 0, .slice none 0 0]) rfl (fun b1 => ?_)
    refine T.assign .list rfl (wants0 rfl) rfl rfl ?_
    refine T.store .list 0 rfl rfl (wants0 rfl) rfl rfl rfl rfl (Nat.le_of_ble_eq_true rfl) rfl (cs' := [.int .i64 r3.2.1.1, .int .i64 r3.2.1.2.1, .slice x5.1 r3.2.1.2.2.length x5.2]) rfl rfl ?_
    refine T.assign .list rfl (wants0 rfl) rfl rfl ?_
    refine T.nil ?_
    refine T.then_normal ?_
    refine T.seqJ (fun (s2 : (List ((Int × (List UInt8) × (List UInt8)) × Bool))) (x6 : (Option Addr × Nat)) => [(2, .int .i64 (bitsOf .and .i64 a2 7)), (7, .pointer (some ⟨x2.1, 0, none⟩)), (10, .int .i64 r2.1), (12, .int .i64 r3.1), (13, .pointer (some ⟨b1, 0, none⟩))]) (fun s2 x6 => Cl x2.1 84 [.pointer (some ⟨x2.2.1, 0, none⟩), .slice x6.1 s2.length x6.2] :: ck4 x2.2.1 r1p0.2.1 x2.2.2.1 :: ck2 x2.2.2.1 r1p0.2.2.1 x2.2.2.2.1 x2.2.2.2.2.2.2.2.2.1 x2.2.2.2.2.2.2.2.2.2.1 :: ck1 x2.2.2.2.1 r1p0.2.2.2.1 x2.2.2.2.2.1 x2.2.2.2.2.2.1 :: Mp E64 x2.2.2.2.2.1 r1p0.2.2.2.2.1 :: ck0 x2.2.2.2.2.2.1 r1p0.2.2.2.2.2.1 x2.2.2.2.2.2.2.1 x2.2.2.2.2.2.2.2.1.1 r1p0.2.2.2.2.2.2.2.1.length x2.2.2.2.2.2.2.2.1.2 :: Mp (Elt.slice E8) x2.2.2.2.2.2.2.1 r1p0.2.2.2.2.2.2.1 :: Bf (Elt.pair E64 (Elt.slice E8)) 174 x2.2.2.2.2.2.2.2.1.1 x2.2.2.2.2.2.2.2.1.2 r1p0.2.2.2.2.2.2.2.1 :: Mp E64 x2.2.2.2.2.2.2.2.2.1 r1p0.2.2.2.2.2.2.2.2.1 :: Mp E64 x2.2.2.2.2.2.2.2.2.2.1 r1p0.2.2.2.2.2.2.2.2.2.1 :: Bf (Elt.pair (Elt.pair E64 (Elt.pair (Elt.slice E8) (Elt.slice E8))) EBool) 88 x6.1 x6.2 s2 :: Cl b1 31 [.int .i64 r3.2.1.1, .int .i64 r3.2.1.2.1, .slice x5.1 r3.2.1.2.2.length x5.2] :: Ro (Elt.slice (Elt.pair E64 (Elt.pair E64 EStr))) x5.1 x5.2 r3.2.1.2.2 :: hs) (fun s2 => law18_SessionApart.k2 r1p0 a2 r2 r3 s2 = some r) (fun s2 x6 hk2 => ?_) (fun J2 => ?_)
    ·unfold law18_SessionApart.k2 at hk2
     refine T.seq ?_
     refine T.region ?_
     refine T.move .list rfl (wants0 rfl) rfl rfl ?_
     refine T.move .list rfl (wants0 rfl) rfl rfl ?_
     refine T.pick [0, 1, 2, 3, 4, 5, 6, 7, 8, 9, 10, 11, 12] 13 rfl rfl nla (hs' := Cl x2.1 84 [.pointer (some ⟨x2.2.1, 0, none⟩), .slice x6.1 s2.length x6.2] :: ck4 x2.2.1 r1p0.2.1 x2.2.2.1 :: ck2 x2.2.2.1 r1p0.2.2.1 x2.2.2.2.1 x2.2.2.2.2.2.2.2.2.1 x2.2.2.2.2.2.2.2.2.2.1 :: ck1 x2.2.2.2.1 r1p0.2.2.2.1 x2.2.2.2.2.1 x2.2.2.2.2.2.1 :: Mp E64 x2.2.2.2.2.1 r1p0.2.2.2.2.1 :: ck0 x2.2.2.2.2.2.1 r1p0.2.2.2.2.2.1 x2.2.2.2.2.2.2.1 x2.2.2.2.2.2.2.2.1.1 r1p0.2.2.2.2.2.2.2.1.length x2.2.2.2.2.2.2.2.1.2 :: Mp (Elt.slice E8) x2.2.2.2.2.2.2.1 r1p0.2.2.2.2.2.2.1 :: Bf (Elt.pair E64 (Elt.slice E8)) 174 x2.2.2.2.2.2.2.2.1.1 x2.2.2.2.2.2.2.2.1.2 r1p0.2.2.2.2.2.2.2.1 :: Mp E64 x2.2.2.2.2.2.2.2.2.1 r1p0.2.2.2.2.2.2.2.2.1 :: Mp E64 x2.2.2.2.2.2.2.2.2.2.1 r1p0.2.2.2.2.2.2.2.2.2.1 :: Bf (Elt.pair (Elt.pair E64 (Elt.pair (Elt.slice E8) (Elt.slice E8))) EBool) 88 x6.1 x6.2 s2 :: Cl b1 31 [.int .i64 r3.2.1.1, .int .i64 r3.2.1.2.1, .slice x5.1 r3.2.1.2.2.length x5.2] :: Ro (Elt.slice (Elt.pair E64 (Elt.pair E64 EStr))) x5.1 x5.2 r3.2.1.2.2 :: hs) rfl ?_
     obtain ⟨r4, hg4, hk2⟩ := inv_bind hk2
     refine T.call .list (wants0 rfl) rfl (run_callF (vs := [_, _]) rfl Tryd.func10 rfl (by decide) rfl) (fun w hS => session_Last.c hB hS (o0a := r1p0.2.1) (o0aa := r1p0.2.2.1) (o0aaa := r1p0.2.2.2.1) (q0aaab := r1p0.2.2.2.2.1) (o0aaac := r1p0.2.2.2.2.2.1) (q0aaacb := r1p0.2.2.2.2.2.2.1) (q0aaacc := r1p0.2.2.2.2.2.2.2.1) (q0aah := r1p0.2.2.2.2.2.2.2.2.1) (q0aak := r1p0.2.2.2.2.2.2.2.2.2.1) (q0b := s2)  hg4) (fun x7 => ?_)
     refine T.move .list rfl (wants0 rfl) rfl rfl ?_
     refine T.extract .list rfl (wants0 rfl) rfl rfl rfl ?_
     refine T.extract .list rfl (wants0 rfl) rfl rfl rfl ?_
     refine T.assign .list rfl (wants0 rfl) rfl rfl ?_
     refine T.assign .list rfl (wants0 rfl) rfl rfl ?_
     refine T.nil ?_
     refine T.then_normal ?_
     refine T.seq ?_
     refine T.region ?_
     refine T.move .list rfl (wants0 rfl) rfl rfl ?_
     refine T.move .list rfl (wants0 rfl) rfl rfl ?_
     refine T.move .list rfl (wants0 rfl) rfl rfl ?_
     refine T.max2 .list rfl (wants0 rfl) rfl rfl rfl ?_
     refine T.pick [0, 1, 2, 3, 4, 5, 6, 7, 8, 9, 10, 11, 12] 13 rfl rfl nla (hs' := Cl x2.1 84 [.pointer (some ⟨x2.2.1, 0, none⟩), .slice x6.1 s2.length x6.2] :: ck4 x2.2.1 r1p0.2.1 x2.2.2.1 :: ck2 x2.2.2.1 r1p0.2.2.1 x2.2.2.2.1 x2.2.2.2.2.2.2.2.2.1 x2.2.2.2.2.2.2.2.2.2.1 :: ck1 x2.2.2.2.1 r1p0.2.2.2.1 x2.2.2.2.2.1 x2.2.2.2.2.2.1 :: Mp E64 x2.2.2.2.2.1 r1p0.2.2.2.2.1 :: ck0 x2.2.2.2.2.2.1 r1p0.2.2.2.2.2.1 x2.2.2.2.2.2.2.1 x2.2.2.2.2.2.2.2.1.1 r1p0.2.2.2.2.2.2.2.1.length x2.2.2.2.2.2.2.2.1.2 :: Mp (Elt.slice E8) x2.2.2.2.2.2.2.1 r1p0.2.2.2.2.2.2.1 :: Bf (Elt.pair E64 (Elt.slice E8)) 174 x2.2.2.2.2.2.2.2.1.1 x2.2.2.2.2.2.2.2.1.2 r1p0.2.2.2.2.2.2.2.1 :: Mp E64 x2.2.2.2.2.2.2.2.2.1 r1p0.2.2.2.2.2.2.2.2.1 :: Mp E64 x2.2.2.2.2.2.2.2.2.2.1 r1p0.2.2.2.2.2.2.2.2.2.1 :: Bf (Elt.pair (Elt.pair E64 (Elt.pair (Elt.slice E8) (Elt.slice E8))) EBool) 88 x6.1 x6.2 s2 :: Cl b1 31 [.int .i64 r3.2.1.1, .int .i64 r3.2.1.2.1, .slice x5.1 r3.2.1.2.2.length x5.2] :: Ro (Elt.slice (Elt.pair E64 (Elt.pair E64 EStr))) x5.1 x5.2 r3.2.1.2.2 :: hs) rfl ?_
     obtain ⟨r5, hg5, hk2⟩ := inv_bind hk2
     refine T.call .list (wants0 rfl) rfl (run_callF (vs := [_, _, _]) rfl Tryd.func8 rfl (by decide) rfl) (fun w hS => session_Look.c hB hS (o0a := r1p0.2.1) (o0aa := r1p0.2.2.1) (o0aaa := r1p0.2.2.2.1) (q0aaab := r1p0.2.2.2.2.1) (o0aaac := r1p0.2.2.2.2.2.1) (q0aaacb := r1p0.2.2.2.2.2.2.1) (q0aaacc := r1p0.2.2.2.2.2.2.2.1) (q0aah := r1p0.2.2.2.2.2.2.2.2.1) (q0aak := r1p0.2.2.2.2.2.2.2.2.2.1) (q0b := s2)  hg5) (fun x8 => ?_)
     refine T.move .list rfl (wants0 rfl) rfl rfl ?_
     refine T.extract .list rfl (wants0 rfl) rfl rfl rfl ?_
     refine T.extract .list rfl (wants0 rfl) rfl rfl rfl ?_
     refine T.extract .list rfl (wants0 rfl) rfl rfl rfl ?_
     refine T.allocS .list rfl (wants0 rfl) rfl (cs := [.int .i64 0, .int .i64 0, .slice none 0 0]) rfl (fun b2 => ?_)
     refine T.assign .list rfl (wants0 rfl) rfl rfl ?_
     refine T.store .list 0 rfl rfl (wants0 rfl) rfl rfl rfl rfl (Nat.le_of_ble_eq_true rfl) rfl (cs' := [.int .i64 r5.2.1.1, .int .i64 r5.2.1.2.1, .slice x8.1 r5.2.1.2.2.length x8.2]) rfl rfl ?_
     refine T.assign .list rfl (wants0 rfl) rfl rfl ?_
     refine T.nil ?_
     refine T.then_normal ?_
     refine T.seq ?_
     refine T.region ?_
     obtain ⟨r6, hg6, hk2⟩ := inv_bind hk2
     refine T.call .list (wants0 rfl) rfl (run_callF (vs := []) rfl Tryd.func11 rfl (by decide) rfl) (fun w hS => law18_told.c hB hS  hg6) (fun x9 => ?_)
     refine T.move .list rfl (wants0 rfl) rfl rfl ?_
     refine T.bool (b := r6) (fun hb2 => ?_) (fun hb2 => ?_)
     ·replace hk2 := inv_posB hb2 hk2
      refine T.move .list rfl (wants1 rfl rfl rfl hb2) rfl rfl ?_
      refine T.bin .list rfl (wants1 rfl rfl rfl hb2) rfl rfl rfl rfl ?_
      refine T.pickT .list rfl (wants0 rfl) rfl rfl hb2 rfl ?_
      refine T.move .list rfl (wants0 rfl) rfl rfl ?_
      refine T.bool (b := (decide (r4.2 = 0))) (fun hb3 => ?_) (fun hb3 => ?_)
      ·replace hk2 := inv_posB hb3 hk2
       refine T.move .list rfl (wants1 rfl rfl rfl hb3) rfl rfl ?_
       refine T.move .list rfl (wants1 rfl rfl rfl hb3) rfl rfl ?_
       refine T.bin .list rfl (wants1 rfl rfl rfl hb3) rfl rfl rfl rfl ?_
       refine T.pickT .list rfl (wants0 rfl) rfl rfl hb3 rfl ?_
       refine T.move .list rfl (wants0 rfl) rfl rfl ?_
       refine T.bool (b := (decide (r4.1 = r2.1))) (fun hb4 => ?_) (fun hb4 => ?_)
       ·replace hk2 := inv_posB hb4 hk2
        refine T.move .list rfl (wants1 rfl rfl rfl hb4) rfl rfl ?_
        refine T.move .list rfl (wants1 rfl rfl rfl hb4) rfl rfl ?_
        refine T.bin .list rfl (wants1 rfl rfl rfl hb4) rfl rfl rfl rfl ?_
        refine T.pickT .list rfl (wants0 rfl) rfl rfl hb4 rfl ?_
        refine T.move .list rfl (wants0 rfl) rfl rfl ?_
        refine T.bool (b := (decide (r3.1 = r5.1))) (fun hb5 => ?_) (fun hb5 => ?_)
        ·replace hk2 := inv_posB hb5 hk2
         refine T.loadN .list 13 rfl rfl (wants1 rfl rfl rfl hb5) rfl rfl (vs := [.int .i64 r3.2.1.1, .int .i64 r3.2.1.2.1, .slice x5.1 r3.2.1.2.2.length x5.2]) rfl rfl ?_
         refine T.loadN .list 0 rfl rfl (wants1 rfl rfl rfl hb5) rfl rfl (vs := [.int .i64 r5.2.1.1, .int .i64 r5.2.1.2.1, .slice x8.1 r5.2.1.2.2.length x8.2]) rfl rfl ?_
         obtain ⟨r7, hg7, hk2⟩ := inv_bind hk2
         refine T.call .list (wants1 rfl rfl rfl hb5) rfl (run_callF (vs := [_, _]) rfl Tryd.func9 rfl (by decide) rfl) (fun w hS => ref16_Same.c hB hS (i0a := 14) (i1a := 1) (a0 := r3.2.1) (a1 := r5.2.1) rfl rfl hg7) (fun x10 => ?_)
         refine T.pickT .list rfl (wants0 rfl) rfl rfl hb5 rfl ?_
         refine T.move .list rfl (wants0 rfl) rfl rfl ?_
         refine T.bool (b := r7) (fun hb6 => ?_) (fun hb6 => ?_)
         ·replace hk2 := inv_posB hb6 hk2
          refine T.move .list rfl (wants1 rfl rfl rfl hb6) rfl rfl ?_
          refine T.bin .list rfl (wants1 rfl rfl rfl hb6) rfl rfl rfl rfl ?_
          refine T.move .list rfl (wants1 rfl rfl rfl hb6) rfl rfl ?_
          refine T.bin .list rfl (wants1 rfl rfl rfl hb6) rfl rfl rfl rfl ?_
          refine T.boolEq .list rfl (wants1 rfl rfl rfl hb6) rfl rfl rfl (by kernel_rfl) ?_
          refine T.pickT .list rfl (wants0 rfl) rfl rfl hb6 rfl ?_
          refine T.assign .list rfl (wants0 rfl) rfl rfl ?_
          refine T.nil ?_
          refine T.then_normal ?_
          refine T.ret ?_
          obtain rfl := inv_some hk2
          refine T.pick [] 15 rfl rfl nla rfl ?_
          refine T.ret1 rfl rfl (fun w hS => ⟨(), rfl, hS⟩)
         ·replace hk2 := inv_negB hb6 hk2
          refine T.leave .list (wantsNot rfl rfl rfl hb6) rfl ?_
          refine T.leave .list (wantsNot rfl rfl rfl hb6) rfl ?_
          refine T.leave .list (wantsNot rfl rfl rfl hb6) rfl ?_
          refine T.leave .list (wantsNot rfl rfl rfl hb6) rfl ?_
          refine T.leave .list (wantsNot rfl rfl rfl hb6) rfl ?_
          refine T.pickF .list rfl (wants0 rfl) rfl rfl hb6 rfl ?_
          refine T.assign .list rfl (wants0 rfl) rfl rfl ?_
          refine T.nil ?_
          refine T.then_normal ?_
          refine T.ret ?_
          obtain rfl := inv_some hk2
          refine T.pick [] 15 rfl rfl nla rfl ?_
          refine T.ret1 rfl rfl (fun w hS => ⟨(), rfl, hS⟩)
        ·replace hk2 := inv_negB hb5 hk2
         refine T.leave .list (wantsNot rfl rfl rfl hb5) rfl ?_
         refine T.leave .list (wantsNot rfl rfl rfl hb5) rfl ?_
         refine T.leave .list (wantsNot rfl rfl rfl hb5) rfl ?_
         refine T.pickF .list rfl (wants0 rfl) rfl rfl hb5 rfl ?_
         refine T.move .list rfl (wants0 rfl) rfl rfl ?_
         refine T.leave .list (wantsNot rfl rfl rfl rfl) rfl ?_
         refine T.leave .list (wantsNot rfl rfl rfl rfl) rfl ?_
         refine T.leave .list (wantsNot rfl rfl rfl rfl) rfl ?_
         refine T.leave .list (wantsNot rfl rfl rfl rfl) rfl ?_
         refine T.leave .list (wantsNot rfl rfl rfl rfl) rfl ?_
         refine T.pickF .list rfl (wants0 rfl) rfl rfl rfl rfl ?_
         refine T.assign .list rfl (wants0 rfl) rfl rfl ?_
         refine T.nil ?_
         refine T.then_normal ?_
         refine T.ret ?_
         obtain rfl := inv_some hk2
         refine T.pick [] 15 rfl rfl nla rfl ?_
         refine T.ret1 rfl rfl (fun w hS => ⟨(), rfl, hS⟩)
       ·replace hk2 := inv_negB hb4 hk2
        refine T.leave .list (wantsNot rfl rfl rfl hb4) rfl ?_
        refine T.leave .list (wantsNot rfl rfl rfl hb4) rfl ?_
        refine T.leave .list (wantsNot rfl rfl rfl hb4) rfl ?_
        refine T.pickF .list rfl (wants0 rfl) rfl rfl hb4 rfl ?_
        refine T.move .list rfl (wants0 rfl) rfl rfl ?_
        refine T.leave .list (wantsNot rfl rfl rfl rfl) rfl ?_
        refine T.leave .list (wantsNot rfl rfl rfl rfl) rfl ?_
        refine T.leave .list (wantsNot rfl rfl rfl rfl) rfl ?_
        refine T.pickF .list rfl (wants0 rfl) rfl rfl rfl rfl ?_
        refine T.move .list rfl (wants0 rfl) rfl rfl ?_
        refine T.leave .list (wantsNot rfl rfl rfl rfl) rfl ?_
        refine T.leave .list (wantsNot rfl rfl rfl rfl) rfl ?_
        refine T.leave .list (wantsNot rfl rfl rfl rfl) rfl ?_
        refine T.leave .list (wantsNot rfl rfl rfl rfl) rfl ?_
        refine T.leave .list (wantsNot rfl rfl rfl rfl) rfl ?_
        refine T.pickF .list rfl (wants0 rfl) rfl rfl rfl rfl ?_
        refine T.assign .list rfl (wants0 rfl) rfl rfl ?_
        refine T.nil ?_
        refine T.then_normal ?_
        refine T.ret ?_
        obtain rfl := inv_some hk2
        refine T.pick [] 15 rfl rfl nla rfl ?_
        refine T.ret1 rfl rfl (fun w hS => ⟨(), rfl, hS⟩)
      ·replace hk2 := inv_negB hb3 hk2
       refine T.leave .list (wantsNot rfl rfl rfl hb3) rfl ?_
       refine T.leave .list (wantsNot rfl rfl rfl hb3) rfl ?_
       refine T.leave .list (wantsNot rfl rfl rfl hb3) rfl ?_
       refine T.pickF .list rfl (wants0 rfl) rfl rfl hb3 rfl ?_
       refine T.move .list rfl (wants0 rfl) rfl rfl ?_
       refine T.leave .list (wantsNot rfl rfl rfl rfl) rfl ?_
       refine T.leave .list (wantsNot rfl rfl rfl rfl) rfl ?_
       refine T.leave .list (wantsNot rfl rfl rfl rfl) rfl ?_
       refine T.pickF .list rfl (wants0 rfl) rfl rfl rfl rfl ?_
       refine T.move .list rfl (wants0 rfl) rfl rfl ?_
       refine T.leave .list (wantsNot rfl rfl rfl rfl) rfl ?_
       refine T.leave .list (wantsNot rfl rfl rfl rfl) rfl ?_
       refine T.leave .list (wantsNot rfl rfl rfl rfl) rfl ?_
       refine T.pickF .list rfl (wants0 rfl) rfl rfl rfl rfl ?_
       refine T.move .list rfl (wants0 rfl) rfl rfl ?_
       refine T.leave .list (wantsNot rfl rfl rfl rfl) rfl ?_
       refine T.leave .list (wantsNot rfl rfl rfl rfl) rfl ?_
       refine T.leave .list (wantsNot rfl rfl rfl rfl) rfl ?_
       refine T.leave .list (wantsNot rfl rfl rfl rfl) rfl ?_
       refine T.leave .list (wantsNot rfl rfl rfl rfl) rfl ?_
       refine T.pickF .list rfl (wants0 rfl) rfl rfl rfl rfl ?_
       refine T.assign .list rfl (wants0 rfl) rfl rfl ?_
       refine T.nil ?_
       refine T.then_normal ?_
       refine T.ret ?_
       obtain rfl := inv_some hk2
       refine T.pick [] 15 rfl rfl nla rfl ?_
       refine T.ret1 rfl rfl (fun w hS => ⟨(), rfl, hS⟩)
     ·replace hk2 := inv_negB hb2 hk2
      refine T.leave .list (wantsNot rfl rfl rfl hb2) rfl ?_
      refine T.leave .list (wantsNot rfl rfl rfl hb2) rfl ?_
      refine T.pickF .list rfl (wants0 rfl) rfl rfl hb2 rfl ?_
      refine T.move .list rfl (wants0 rfl) rfl rfl ?_
      refine T.leave .list (wantsNot rfl rfl rfl rfl) rfl ?_
      refine T.leave .list (wantsNot rfl rfl rfl rfl) rfl ?_
      refine T.leave .list (wantsNot rfl rfl rfl rfl) rfl ?_
      refine T.pickF .list rfl (wants0 rfl) rfl rfl rfl rfl ?_
      refine T.move .list rfl (wants0 rfl) rfl rfl ?_
      refine T.leave .list (wantsNot rfl rfl rfl rfl) rfl ?_
      refine T.leave .list (wantsNot rfl rfl rfl rfl) rfl ?_
      refine T.leave .list (wantsNot rfl rfl rfl rfl) rfl ?_
      refine T.pickF .list rfl (wants0 rfl) rfl rfl rfl rfl ?_
      refine T.move .list rfl (wants0 rfl) rfl rfl ?_
      refine T.leave .list (wantsNot rfl rfl rfl rfl) rfl ?_
      refine T.leave .list (wantsNot rfl rfl rfl rfl) rfl ?_
      refine T.leave .list (wantsNot rfl rfl rfl rfl) rfl ?_
      refine T.pickF .list rfl (wants0 rfl) rfl rfl rfl rfl ?_
      refine T.move .list rfl (wants0 rfl) rfl rfl ?_
      refine T.leave .list (wantsNot rfl rfl rfl rfl) rfl ?_
      refine T.leave .list (wantsNot rfl rfl rfl rfl) rfl ?_
      refine T.leave .list (wantsNot rfl rfl rfl rfl) rfl ?_
      refine T.leave .list (wantsNot rfl rfl rfl rfl) rfl ?_
      refine T.leave .list (wantsNot rfl rfl rfl rfl) rfl ?_
      refine T.pickF .list rfl (wants0 rfl) rfl rfl rfl rfl ?_
      refine T.assign .list rfl (wants0 rfl) rfl rfl ?_
      refine T.nil ?_
      refine T.then_normal ?_
      refine T.ret ?_
      obtain rfl := inv_some hk2
      refine T.pick [] 15 rfl rfl nla rfl ?_
      refine T.ret1 rfl rfl (fun w hS => ⟨(), rfl, hS⟩)
    ·refine T.seq ?_
     refine T.region ?_
     refine T.assign .list rfl (wants0 rfl) rfl rfl ?_
     refine T.nil ?_
     refine T.then_normal ?_
     refine T.block ?_
     obtain ⟨e1, hl1, hk1⟩ := inv_bind hk1
     refine T.le (EnvLe.cons rfl (EnvLe.cons rfl (EnvLe.cons rfl (EnvLe.cons rfl (EnvLe.cons rfl (EnvLe.cons rfl (EnvLe.cons rfl EnvLe.nil))))))) (T.pick [13, 2, 3, 4, 5, 6, 7, 8, 9, 10, 11, 12, 0, 1] 14 rfl rfl nla rfl (T.loop (s0 := (s1, 0)) (env := fun s3 x11 => [(1, .slice A1 l1.length c1), (2, .int .i64 (bitsOf .and .i64 a2 7)), (7, .pointer (some ⟨x2.1, 0, none⟩)), (10, .int .i64 r2.1), (12, .int .i64 r3.1), (13, .pointer (some ⟨b1, 0, none⟩)), (15, .int .i64 s3.2)]) (hs := fun (s3 : (List ((Int × (List UInt8) × (List UInt8)) × Bool)) × Int) (x11 : (Option Addr × Nat)) => Ro (Elt.pair E64 (Elt.pair E64 (Elt.pair E64 (Elt.pair E64 (Elt.pair E64 (Elt.slice (Elt.slice (Elt.pair E64 (Elt.pair E64 EStr))))))))) A1 c1 l1 :: Cl x2.1 84 [.pointer (some ⟨x2.2.1, 0, none⟩), .slice x11.1 s3.1.length x11.2] :: ck4 x2.2.1 r1p0.2.1 x2.2.2.1 :: ck2 x2.2.2.1 r1p0.2.2.1 x2.2.2.2.1 x2.2.2.2.2.2.2.2.2.1 x2.2.2.2.2.2.2.2.2.2.1 :: ck1 x2.2.2.2.1 r1p0.2.2.2.1 x2.2.2.2.2.1 x2.2.2.2.2.2.1 :: Mp E64 x2.2.2.2.2.1 r1p0.2.2.2.2.1 :: ck0 x2.2.2.2.2.2.1 r1p0.2.2.2.2.2.1 x2.2.2.2.2.2.2.1 x2.2.2.2.2.2.2.2.1.1 r1p0.2.2.2.2.2.2.2.1.length x2.2.2.2.2.2.2.2.1.2 :: Mp (Elt.slice E8) x2.2.2.2.2.2.2.1 r1p0.2.2.2.2.2.2.1 :: Bf (Elt.pair E64 (Elt.slice E8)) 174 x2.2.2.2.2.2.2.2.1.1 x2.2.2.2.2.2.2.2.1.2 r1p0.2.2.2.2.2.2.2.1 :: Mp E64 x2.2.2.2.2.2.2.2.2.1 r1p0.2.2.2.2.2.2.2.2.1 :: Mp E64 x2.2.2.2.2.2.2.2.2.2.1 r1p0.2.2.2.2.2.2.2.2.2.1 :: Bf (Elt.pair (Elt.pair E64 (Elt.pair (Elt.slice E8) (Elt.slice E8))) EBool) 88 x11.1 x11.2 s3.1 :: Cl b1 31 [.int .i64 r3.2.1.1, .int .i64 r3.2.1.2.1, .slice x5.1 r3.2.1.2.2.length x5.2] :: Ro (Elt.slice (Elt.pair E64 (Elt.pair E64 EStr))) x5.1 x5.2 r3.2.1.2.2 :: hs) hl1 x3 (fun K1 s3 x11 o1 he1 hm1 hx1 => ?_)))
     unfold law18_SessionApart.st1 at he1
     refine T.seq ?_
     refine T.seqJ (fun (s4 : Bool) (x12 : Unit) => [(1, .slice A1 l1.length c1), (2, .int .i64 (bitsOf .and .i64 a2 7)), (7, .pointer (some ⟨x2.1, 0, none⟩)), (10, .int .i64 r2.1), (12, .int .i64 r3.1), (13, .pointer (some ⟨b1, 0, none⟩)), (15, .int .i64 s3.2), (76, .bool s4)]) (fun s4 x12 => Ro (Elt.pair E64 (Elt.pair E64 (Elt.pair E64 (Elt.pair E64 (Elt.pair E64 (Elt.slice (Elt.slice (Elt.pair E64 (Elt.pair E64 EStr))))))))) A1 c1 l1 :: Cl x2.1 84 [.pointer (some ⟨x2.2.1, 0, none⟩), .slice x11.1 s3.1.length x11.2] :: ck4 x2.2.1 r1p0.2.1 x2.2.2.1 :: ck2 x2.2.2.1 r1p0.2.2.1 x2.2.2.2.1 x2.2.2.2.2.2.2.2.2.1 x2.2.2.2.2.2.2.2.2.2.1 :: ck1 x2.2.2.2.1 r1p0.2.2.2.1 x2.2.2.2.2.1 x2.2.2.2.2.2.1 :: Mp E64 x2.2.2.2.2.1 r1p0.2.2.2.2.1 :: ck0 x2.2.2.2.2.2.1 r1p0.2.2.2.2.2.1 x2.2.2.2.2.2.2.1 x2.2.2.2.2.2.2.2.1.1 r1p0.2.2.2.2.2.2.2.1.length x2.2.2.2.2.2.2.2.1.2 :: Mp (Elt.slice E8) x2.2.2.2.2.2.2.1 r1p0.2.2.2.2.2.2.1 :: Bf (Elt.pair E64 (Elt.slice E8)) 174 x2.2.2.2.2.2.2.2.1.1 x2.2.2.2.2.2.2.2.1.2 r1p0.2.2.2.2.2.2.2.1 :: Mp E64 x2.2.2.2.2.2.2.2.2.1 r1p0.2.2.2.2.2.2.2.2.1 :: Mp E64 x2.2.2.2.2.2.2.2.2.2.1 r1p0.2.2.2.2.2.2.2.2.2.1 :: Bf (Elt.pair (Elt.pair E64 (Elt.pair (Elt.slice E8) (Elt.slice E8))) EBool) 88 x11.1 x11.2 s3.1 :: Cl b1 31 [.int .i64 r3.2.1.1, .int .i64 r3.2.1.2.1, .slice x5.1 r3.2.1.2.2.length x5.2] :: Ro (Elt.slice (Elt.pair E64 (Elt.pair E64 EStr))) x5.1 x5.2 r3.2.1.2.2 :: hs) (fun s4 => law18_SessionApart.k3 s3 l1 a2 r1p0 s4 = some o1) (fun s4 x12 hk3 => ?_) (fun J3 => ?_)
     ·unfold law18_SessionApart.k3 at hk3
      refine T.cond rfl (fun hb7 => ?_) (fun hb7 => ?_)
      ·replace hk3 := inv_posB hb7 hk3
       refine T.skip ?_
       refine T.then_normal ?_
       refine T.seqJ (fun (s5 : (List ((Int × (List UInt8) × (List UInt8)) × Bool))) (x13 : (Option Addr × Nat)) => [(1, .slice A1 l1.length c1), (2, .int .i64 (bitsOf .and .i64 a2 7)), (7, .pointer (some ⟨x2.1, 0, none⟩)), (10, .int .i64 r2.1), (12, .int .i64 r3.1), (13, .pointer (some ⟨b1, 0, none⟩)), (15, .int .i64 s3.2)]) (fun s5 x13 => Ro (Elt.pair E64 (Elt.pair E64 (Elt.pair E64 (Elt.pair E64 (Elt.pair E64 (Elt.slice (Elt.slice (Elt.pair E64 (Elt.pair E64 EStr))))))))) A1 c1 l1 :: Cl x2.1 84 [.pointer (some ⟨x2.2.1, 0, none⟩), .slice x13.1 s5.length x13.2] :: ck4 x2.2.1 r1p0.2.1 x2.2.2.1 :: ck2 x2.2.2.1 r1p0.2.2.1 x2.2.2.2.1 x2.2.2.2.2.2.2.2.2.1 x2.2.2.2.2.2.2.2.2.2.1 :: ck1 x2.2.2.2.1 r1p0.2.2.2.1 x2.2.2.2.2.1 x2.2.2.2.2.2.1 :: Mp E64 x2.2.2.2.2.1 r1p0.2.2.2.2.1 :: ck0 x2.2.2.2.2.2.1 r1p0.2.2.2.2.2.1 x2.2.2.2.2.2.2.1 x2.2.2.2.2.2.2.2.1.1 r1p0.2.2.2.2.2.2.2.1.length x2.2.2.2.2.2.2.2.1.2 :: Mp (Elt.slice E8) x2.2.2.2.2.2.2.1 r1p0.2.2.2.2.2.2.1 :: Bf (Elt.pair E64 (Elt.slice E8)) 174 x2.2.2.2.2.2.2.2.1.1 x2.2.2.2.2.2.2.2.1.2 r1p0.2.2.2.2.2.2.2.1 :: Mp E64 x2.2.2.2.2.2.2.2.2.1 r1p0.2.2.2.2.2.2.2.2.1 :: Mp E64 x2.2.2.2.2.2.2.2.2.2.1 r1p0.2.2.2.2.2.2.2.2.2.1 :: Bf (Elt.pair (Elt.pair E64 (Elt.pair (Elt.slice E8) (Elt.slice E8))) EBool) 88 x13.1 x13.2 s5 :: Cl b1 31 [.int .i64 r3.2.1.1, .int .i64 r3.2.1.2.1, .slice x5.1 r3.2.1.2.2.length x5.2] :: Ro (Elt.slice (Elt.pair E64 (Elt.pair E64 EStr))) x5.1 x5.2 r3.2.1.2.2 :: hs) (fun s5 => law18_SessionApart.k4 s3 s5 = some o1) (fun s5 x13 hk4 => ?_) (fun J4 => ?_)
       ·unfold law18_SessionApart.k4 at hk4
        refine T.region ?_
        refine T.move .list rfl (wants0 rfl) rfl rfl ?_
        refine T.bin .list rfl (wants0 rfl) rfl rfl rfl rfl ?_
        refine T.assign .list rfl (wants0 rfl) rfl rfl ?_
        refine T.nil ?_
        refine T.then_normal ?_
        obtain rfl := inv_some hk4
        exact T.le (EnvLe.cons rfl (EnvLe.cons rfl (EnvLe.cons rfl (EnvLe.cons rfl (EnvLe.cons rfl (EnvLe.cons rfl (EnvLe.cons rfl EnvLe.nil))))))) (T.pick [0, 1, 2, 3, 4, 5, 6, 7, 8, 9, 10, 11, 12, 13] 14 rfl rfl nla rfl (hm1 (s5, IntKind.i64.wrap (s3.2 + 1)) rfl x13))
       ·refine T.block ?_
        refine T.seq ?_
        refine T.region ?_
        refine T.move .list rfl (wants0 rfl) rfl rfl ?_
        refine T.move .list rfl (wants0 rfl) rfl rfl ?_
        obtain ⟨hc1, hk3⟩ := inv_chk hk3
        refine T.idxRo .list 0 rfl rfl (wants0 rfl) rfl rfl rfl hc1.1 hc1.2 (Nat.le_refl _) ?_
        refine T.fieldRo .list 0 rfl hc1.1 hc1.2 rfl (wants0 rfl) rfl rfl ?_
        refine T.fldRo 0 .list (Fd.snd (Fd.fst Fd.self)) rfl rfl hc1.1 hc1.2 rfl (wants0 rfl) rfl rfl rfl ?_
        refine T.move .list rfl (wants0 rfl) rfl rfl ?_
        refine T.bin .list rfl (wants0 rfl) rfl rfl rfl rfl ?_
        refine T.nil ?_
        refine T.then_normal ?_
        refine T.cond rfl (fun hb8 => ?_) (fun hb8 => ?_)
        ·replace hk3 := inv_posB hb8 hk3
         refine T.plan [(0, 0), (1, 0), (2, 0), (3, 0), (4, 0), (6, 0), (7, 0), (8, 0), (9, 0), (11, 0), (12, 0), (13, 0), (14, 0), (5, 1), (10, 1), (15, 1), (16, 2)] mixed (by kernel_rfl) (by kernel_rfl) rfl (fun d _ _ _ _ h => by cases d <;> exact h) ?_
         refine T.move (.plan rfl) rfl (wants0 rfl) rfl rfl ?_
         refine T.move (.plan rfl) rfl (wants0 rfl) rfl rfl ?_
         refine T.move (.plan rfl) rfl (wants0 rfl) rfl rfl ?_
         obtain ⟨hc2, hk3⟩ := inv_chk hk3
         refine T.idxRo (.plan rfl) 0 rfl rfl (wants0 rfl) rfl rfl rfl hc2.1 hc2.2 (Nat.le_refl _) ?_
         refine T.fieldRo (.plan rfl) 0 rfl hc2.1 hc2.2 rfl (wants0 rfl) rfl rfl ?_
         refine T.move (.plan rfl) rfl (wants0 rfl) rfl rfl ?_
         refine T.move (.plan rfl) rfl (wants0 rfl) rfl rfl ?_
         obtain ⟨hc3, hk3⟩ := inv_chk hk3
         refine T.idxRo (.plan rfl) 0 rfl rfl (wants0 rfl) rfl rfl rfl hc3.1 hc3.2 (Nat.le_refl _) ?_
         refine T.fieldRo (.plan rfl) 0 rfl hc3.1 hc3.2 rfl (wants0 rfl) rfl rfl ?_
         refine T.move (.plan rfl) rfl (wants0 rfl) rfl rfl ?_
         refine T.move (.plan rfl) rfl (wants0 rfl) rfl rfl ?_
         obtain ⟨hc4, hk3⟩ := inv_chk hk3
         refine T.idxRo (.plan rfl) 0 rfl rfl (wants0 rfl) rfl rfl rfl hc4.1 hc4.2 (Nat.le_refl _) ?_
         refine T.fieldRo (.plan rfl) 0 rfl hc4.1 hc4.2 rfl (wants0 rfl) rfl rfl ?_
         refine T.fldRo 0 (.plan rfl) (Fd.snd (Fd.fst Fd.self)) rfl rfl hc2.1 hc2.2 rfl (wants0 rfl) rfl rfl rfl ?_
         refine T.fldRo 0 (.plan rfl) (Fd.snd (Fd.snd (Fd.fst Fd.self))) rfl rfl hc3.1 hc3.2 rfl (wants0 rfl) rfl rfl rfl ?_
         refine T.ldFRo 0 (.plan rfl) (Fd.snd (Fd.snd (Fd.snd Fd.self))) (Sh.pair Sh.sc (Sh.pair Sh.sc Sh.slice)) rfl (.inl rfl) rfl rfl hc4.1 hc4.2 rfl (wants0 rfl) rfl rfl rfl (v := fun x14 => .agg #[.int .i64 ((((((l1).getD (s3.2 : Int).toNat default)).2.2.2).1)), .int .i64 ((((((l1).getD (s3.2 : Int).toNat default)).2.2.2).2.1)), .slice x14.2.2.1 (((((((l1).getD (s3.2 : Int).toNat default)).2.2.2).2.2)).length) x14.2.2.2]) (hs' := fun x14 => Ro (Elt.slice (Elt.pair E64 (Elt.pair E64 EStr))) x14.2.2.1 x14.2.2.2 ((((((l1).getD (s3.2 : Int).toNat default)).2.2.2).2.2)) :: Ro (Elt.pair E64 (Elt.pair E64 (Elt.pair E64 (Elt.pair E64 (Elt.pair E64 (Elt.slice (Elt.slice (Elt.pair E64 (Elt.pair E64 EStr))))))))) A1 c1 l1 :: Cl x2.1 84 [.pointer (some ⟨x2.2.1, 0, none⟩), .slice x11.1 s3.1.length x11.2] :: ck4 x2.2.1 r1p0.2.1 x2.2.2.1 :: ck2 x2.2.2.1 r1p0.2.2.1 x2.2.2.2.1 x2.2.2.2.2.2.2.2.2.1 x2.2.2.2.2.2.2.2.2.2.1 :: ck1 x2.2.2.2.1 r1p0.2.2.2.1 x2.2.2.2.2.1 x2.2.2.2.2.2.1 :: Mp E64 x2.2.2.2.2.1 r1p0.2.2.2.2.1 :: ck0 x2.2.2.2.2.2.1 r1p0.2.2.2.2.2.1 x2.2.2.2.2.2.2.1 x2.2.2.2.2.2.2.2.1.1 r1p0.2.2.2.2.2.2.2.1.length x2.2.2.2.2.2.2.2.1.2 :: Mp (Elt.slice E8) x2.2.2.2.2.2.2.1 r1p0.2.2.2.2.2.2.1 :: Bf (Elt.pair E64 (Elt.slice E8)) 174 x2.2.2.2.2.2.2.2.1.1 x2.2.2.2.2.2.2.2.1.2 r1p0.2.2.2.2.2.2.2.1 :: Mp E64 x2.2.2.2.2.2.2.2.2.1 r1p0.2.2.2.2.2.2.2.2.1 :: Mp E64 x2.2.2.2.2.2.2.2.2.2.1 r1p0.2.2.2.2.2.2.2.2.2.1 :: Bf (Elt.pair (Elt.pair E64 (Elt.pair (Elt.slice E8) (Elt.slice E8))) EBool) 88 x11.1 x11.2 s3.1 :: Cl b1 31 [.int .i64 r3.2.1.1, .int .i64 r3.2.1.2.1, .slice x5.1 r3.2.1.2.2.length x5.2] :: Ro (Elt.slice (Elt.pair E64 (Elt.pair E64 EStr))) x5.1 x5.2 r3.2.1.2.2 :: hs) (fun _ => rfl) (fun _ => rfl) (fun x14 => ?_)
         refine T.pick [2, 3, 4, 5, 6, 7, 8, 9, 10, 11, 12, 0, 1, 13, 14] 15 rfl rfl nla (hs' := Cl x2.1 84 [.pointer (some ⟨x2.2.1, 0, none⟩), .slice x11.1 s3.1.length x11.2] :: ck4 x2.2.1 r1p0.2.1 x2.2.2.1 :: ck2 x2.2.2.1 r1p0.2.2.1 x2.2.2.2.1 x2.2.2.2.2.2.2.2.2.1 x2.2.2.2.2.2.2.2.2.2.1 :: ck1 x2.2.2.2.1 r1p0.2.2.2.1 x2.2.2.2.2.1 x2.2.2.2.2.2.1 :: Mp E64 x2.2.2.2.2.1 r1p0.2.2.2.2.1 :: ck0 x2.2.2.2.2.2.1 r1p0.2.2.2.2.2.1 x2.2.2.2.2.2.2.1 x2.2.2.2.2.2.2.2.1.1 r1p0.2.2.2.2.2.2.2.1.length x2.2.2.2.2.2.2.2.1.2 :: Mp (Elt.slice E8) x2.2.2.2.2.2.2.1 r1p0.2.2.2.2.2.2.1 :: Bf (Elt.pair E64 (Elt.slice E8)) 174 x2.2.2.2.2.2.2.2.1.1 x2.2.2.2.2.2.2.2.1.2 r1p0.2.2.2.2.2.2.2.1 :: Mp E64 x2.2.2.2.2.2.2.2.2.1 r1p0.2.2.2.2.2.2.2.2.1 :: Mp E64 x2.2.2.2.2.2.2.2.2.2.1 r1p0.2.2.2.2.2.2.2.2.2.1 :: Bf (Elt.pair (Elt.pair E64 (Elt.pair (Elt.slice E8) (Elt.slice E8))) EBool) 88 x11.1 x11.2 s3.1 :: Ro (Elt.slice (Elt.pair E64 (Elt.pair E64 EStr))) x14.2.2.1 x14.2.2.2 ((((((l1).getD (s3.2 : Int).toNat default)).2.2.2).2.2)) :: Ro (Elt.pair E64 (Elt.pair E64 (Elt.pair E64 (Elt.pair E64 (Elt.pair E64 (Elt.slice (Elt.slice (Elt.pair E64 (Elt.pair E64 EStr))))))))) A1 c1 l1 :: Cl b1 31 [.int .i64 r3.2.1.1, .int .i64 r3.2.1.2.1, .slice x5.1 r3.2.1.2.2.length x5.2] :: Ro (Elt.slice (Elt.pair E64 (Elt.pair E64 EStr))) x5.1 x5.2 r3.2.1.2.2 :: hs) rfl ?_
         obtain ⟨r8, hg8, hk3⟩ := inv_bind hk3
         refine T.call (.plan rfl) (wants0 rfl) rfl (run_callF (vs := [_, _, _, _]) rfl Tryd.func6 rfl (by decide) rfl) (fun w hS => session_Keep.c hB hS (i3a := 11) (o0a := r1p0.2.1) (o0aa := r1p0.2.2.1) (o0aaa := r1p0.2.2.2.1) (q0aaab := r1p0.2.2.2.2.1) (o0aaac := r1p0.2.2.2.2.2.1) (q0aaacb := r1p0.2.2.2.2.2.2.1) (q0aaacc := r1p0.2.2.2.2.2.2.2.1) (q0aah := r1p0.2.2.2.2.2.2.2.2.1) (q0aak := r1p0.2.2.2.2.2.2.2.2.2.1) (q0b := s3.1) (a3 := (((l1).getD (s3.2 : Int).toNat default)).2.2.2) rfl hg8) (fun x15 => ?_)
         refine T.planEnd ?_
         refine T.in_normal ?_
         refine T.then_normal ?_
         exact T.le (EnvLe.cons rfl (EnvLe.cons rfl (EnvLe.cons rfl (EnvLe.cons rfl (EnvLe.cons rfl (EnvLe.cons rfl (EnvLe.cons rfl EnvLe.nil))))))) (T.pick [12, 0, 1, 2, 3, 4, 5, 6, 7, 8, 9, 10, 13, 14] 15 rfl rfl nla rfl (J4 r8.2 x15 hk3))
        ·replace hk3 := inv_negB hb8 hk3
         refine T.skip ?_
         refine T.in_normal ?_
         refine T.then_normal ?_
         exact T.le (EnvLe.cons rfl (EnvLe.cons rfl (EnvLe.cons rfl (EnvLe.cons rfl (EnvLe.cons rfl (EnvLe.cons rfl (EnvLe.cons rfl EnvLe.nil))))))) (T.pick [0, 1, 2, 3, 4, 5, 6, 7, 8, 9, 10, 11, 12, 13] 14 rfl rfl nla rfl (J4 s3.1 x11 hk3))
      ·replace hk3 := inv_negB hb7 hk3
       refine T.exit ?_
       refine T.then_exit ?_
       refine T.then_exit ?_
       obtain rfl := inv_some hk3
       obtain rfl := hx1 _ rfl
       refine T.in_hit ?_
       refine T.then_normal ?_
       exact T.le (EnvLe.cons rfl (EnvLe.cons rfl (EnvLe.cons rfl (EnvLe.cons rfl (EnvLe.cons rfl EnvLe.nil))))) (T.pick [1, 2, 3, 4, 5, 6, 7, 8, 9, 10, 11, 12, 13] 14 rfl rfl nla rfl (J2 s3.1 x11 hk1))
     ·refine T.region ?_
      refine T.move .list rfl (wants0 rfl) rfl rfl ?_
      refine T.move .list rfl (wants0 rfl) rfl rfl ?_
      refine T.lenSlice .list rfl (wants0 rfl) rfl rfl ?_
      refine T.bin .list rfl (wants0 rfl) rfl rfl rfl rfl ?_
      refine T.move .list rfl (wants0 rfl) rfl rfl ?_
      refine T.bool (b := (decide (s3.2 < ((l1.length : Int))))) (fun hb9 => ?_) (fun hb9 => ?_)
      ·replace he1 := inv_posB hb9 he1
       refine T.move .list rfl (wants1 rfl rfl rfl hb9) rfl rfl ?_
       refine T.bin .list rfl (wants1 rfl rfl rfl hb9) rfl rfl rfl rfl ?_
       refine T.pickT .list rfl (wants0 rfl) rfl rfl hb9 rfl ?_
       refine T.nil ?_
       refine T.then_normal ?_
       exact T.le (EnvLe.cons rfl (EnvLe.cons rfl (EnvLe.cons rfl (EnvLe.cons rfl (EnvLe.cons rfl (EnvLe.cons rfl (EnvLe.cons rfl (EnvLe.cons rfl EnvLe.nil)))))))) (T.pick [0, 1, 2, 3, 4, 5, 6, 7, 8, 9, 10, 11, 12, 13] 14 rfl rfl nla rfl (J3 (decide (s3.2 < 20)) () he1))
      ·replace he1 := inv_negB hb9 he1
       refine T.leave .list (wantsNot rfl rfl rfl hb9) rfl ?_
       refine T.leave .list (wantsNot rfl rfl rfl hb9) rfl ?_
       refine T.pickF .list rfl (wants0 rfl) rfl rfl hb9 rfl ?_
       refine T.nil ?_
       refine T.then_normal ?_
       exact T.le (EnvLe.cons rfl (EnvLe.cons rfl (EnvLe.cons rfl (EnvLe.cons rfl (EnvLe.cons rfl (EnvLe.cons rfl (EnvLe.cons rfl (EnvLe.cons rfl EnvLe.nil)))))))) (T.pick [0, 1, 2, 3, 4, 5, 6, 7, 8, 9, 10, 11, 12, 13] 14 rfl rfl nla rfl (J3 false () he1))
  ·refine T.seq ?_
   refine T.region ?_
   refine T.assign .list rfl (wants0 rfl) rfl rfl ?_
   refine T.nil ?_
   refine T.then_normal ?_
   refine T.block ?_
   obtain ⟨e2, hl2, hr⟩ := inv_bind hr
   refine T.le (EnvLe.cons rfl (EnvLe.cons rfl (EnvLe.cons rfl (EnvLe.cons rfl (EnvLe.cons rfl EnvLe.nil))))) (T.pick [12, 11, 0, 1, 2, 3, 4, 5, 6, 7, 8, 9, 10] 13 rfl rfl nla rfl (T.loop (s0 := (r1p0.2.2.2.2.2.2.2.2.2.2, 0)) (env := fun s6 x16 => [(0, .slice A0 l0.length c0), (1, .slice A1 l1.length c1), (2, .int .i64 (bitsOf .and .i64 a2 7)), (7, .pointer (some ⟨x2.1, 0, none⟩)), (9, .int .i64 s6.2)]) (hs := fun (s6 : (List ((Int × (List UInt8) × (List UInt8)) × Bool)) × Int) (x16 : (Option Addr × Nat)) => Ro (Elt.pair E64 (Elt.pair E64 (Elt.pair E64 (Elt.pair E64 (Elt.pair E64 (Elt.slice (Elt.slice (Elt.pair E64 (Elt.pair E64 EStr))))))))) A0 c0 l0 :: Ro (Elt.pair E64 (Elt.pair E64 (Elt.pair E64 (Elt.pair E64 (Elt.pair E64 (Elt.slice (Elt.slice (Elt.pair E64 (Elt.pair E64 EStr))))))))) A1 c1 l1 :: Cl x2.1 84 [.pointer (some ⟨x2.2.1, 0, none⟩), .slice x16.1 s6.1.length x16.2] :: ck4 x2.2.1 r1p0.2.1 x2.2.2.1 :: ck2 x2.2.2.1 r1p0.2.2.1 x2.2.2.2.1 x2.2.2.2.2.2.2.2.2.1 x2.2.2.2.2.2.2.2.2.2.1 :: ck1 x2.2.2.2.1 r1p0.2.2.2.1 x2.2.2.2.2.1 x2.2.2.2.2.2.1 :: Mp E64 x2.2.2.2.2.1 r1p0.2.2.2.2.1 :: ck0 x2.2.2.2.2.2.1 r1p0.2.2.2.2.2.1 x2.2.2.2.2.2.2.1 x2.2.2.2.2.2.2.2.1.1 r1p0.2.2.2.2.2.2.2.1.length x2.2.2.2.2.2.2.2.1.2 :: Mp (Elt.slice E8) x2.2.2.2.2.2.2.1 r1p0.2.2.2.2.2.2.1 :: Bf (Elt.pair E64 (Elt.slice E8)) 174 x2.2.2.2.2.2.2.2.1.1 x2.2.2.2.2.2.2.2.1.2 r1p0.2.2.2.2.2.2.2.1 :: Mp E64 x2.2.2.2.2.2.2.2.2.1 r1p0.2.2.2.2.2.2.2.2.1 :: Mp E64 x2.2.2.2.2.2.2.2.2.2.1 r1p0.2.2.2.2.2.2.2.2.2.1 :: Bf (Elt.pair (Elt.pair E64 (Elt.pair (Elt.slice E8) (Elt.slice E8))) EBool) 88 x16.1 x16.2 s6.1 :: hs) hl2 x2.2.2.2.2.2.2.2.2.2.2 (fun K2 s6 x16 o2 he2 hm2 hx2 => ?_)))
   unfold law18_SessionApart.st2 at he2
   refine T.seq ?_
   refine T.seqJ (fun (s7 : Bool) (x17 : Unit) => [(0, .slice A0 l0.length c0), (1, .slice A1 l1.length c1), (2, .int .i64 (bitsOf .and .i64 a2 7)), (7, .pointer (some ⟨x2.1, 0, none⟩)), (9, .int .i64 s6.2), (36, .bool s7)]) (fun s7 x17 => Ro (Elt.pair E64 (Elt.pair E64 (Elt.pair E64 (Elt.pair E64 (Elt.pair E64 (Elt.slice (Elt.slice (Elt.pair E64 (Elt.pair E64 EStr))))))))) A0 c0 l0 :: Ro (Elt.pair E64 (Elt.pair E64 (Elt.pair E64 (Elt.pair E64 (Elt.pair E64 (Elt.slice (Elt.slice (Elt.pair E64 (Elt.pair E64 EStr))))))))) A1 c1 l1 :: Cl x2.1 84 [.pointer (some ⟨x2.2.1, 0, none⟩), .slice x16.1 s6.1.length x16.2] :: ck4 x2.2.1 r1p0.2.1 x2.2.2.1 :: ck2 x2.2.2.1 r1p0.2.2.1 x2.2.2.2.1 x2.2.2.2.2.2.2.2.2.1 x2.2.2.2.2.2.2.2.2.2.1 :: ck1 x2.2.2.2.1 r1p0.2.2.2.1 x2.2.2.2.2.1 x2.2.2.2.2.2.1 :: Mp E64 x2.2.2.2.2.1 r1p0.2.2.2.2.1 :: ck0 x2.2.2.2.2.2.1 r1p0.2.2.2.2.2.1 x2.2.2.2.2.2.2.1 x2.2.2.2.2.2.2.2.1.1 r1p0.2.2.2.2.2.2.2.1.length x2.2.2.2.2.2.2.2.1.2 :: Mp (Elt.slice E8) x2.2.2.2.2.2.2.1 r1p0.2.2.2.2.2.2.1 :: Bf (Elt.pair E64 (Elt.slice E8)) 174 x2.2.2.2.2.2.2.2.1.1 x2.2.2.2.2.2.2.2.1.2 r1p0.2.2.2.2.2.2.2.1 :: Mp E64 x2.2.2.2.2.2.2.2.2.1 r1p0.2.2.2.2.2.2.2.2.1 :: Mp E64 x2.2.2.2.2.2.2.2.2.2.1 r1p0.2.2.2.2.2.2.2.2.2.1 :: Bf (Elt.pair (Elt.pair E64 (Elt.pair (Elt.slice E8) (Elt.slice E8))) EBool) 88 x16.1 x16.2 s6.1 :: hs) (fun s7 => law18_SessionApart.k5 s6 l0 r1p0 a2 s7 = some o2) (fun s7 x17 hk5 => ?_) (fun J5 => ?_)
   ·unfold law18_SessionApart.k5 at hk5
    refine T.cond rfl (fun hb10 => ?_) (fun hb10 => ?_)
    ·replace hk5 := inv_posB hb10 hk5
     refine T.skip ?_
     refine T.then_normal ?_
     refine T.seq ?_
     refine T.block ?_
     refine T.plan [(0, 0), (1, 0), (2, 0), (3, 0), (4, 0), (5, 0), (7, 0), (8, 0), (9, 0), (10, 0), (6, 1), (11, 1), (12, 2)] mixed (by kernel_rfl) (by kernel_rfl) rfl (fun d _ _ _ _ h => by cases d <;> exact h) ?_
     refine T.move (.plan rfl) rfl (wants0 rfl) rfl rfl ?_
     refine T.move (.plan rfl) rfl (wants0 rfl) rfl rfl ?_
     refine T.move (.plan rfl) rfl (wants0 rfl) rfl rfl ?_
     refine T.move (.plan rfl) rfl (wants0 rfl) rfl rfl ?_
     obtain ⟨hc5, hk5⟩ := inv_chk hk5
     refine T.idxRo (.plan rfl) 0 rfl rfl (wants0 rfl) rfl rfl rfl hc5.1 hc5.2 (Nat.le_refl _) ?_
     refine T.fieldRo (.plan rfl) 0 rfl hc5.1 hc5.2 rfl (wants0 rfl) rfl rfl ?_
     refine T.move (.plan rfl) rfl (wants0 rfl) rfl rfl ?_
     refine T.move (.plan rfl) rfl (wants0 rfl) rfl rfl ?_
     obtain ⟨hc6, hk5⟩ := inv_chk hk5
     refine T.idxRo (.plan rfl) 0 rfl rfl (wants0 rfl) rfl rfl rfl hc6.1 hc6.2 (Nat.le_refl _) ?_
     refine T.fieldRo (.plan rfl) 0 rfl hc6.1 hc6.2 rfl (wants0 rfl) rfl rfl ?_
     refine T.fldRo 0 (.plan rfl) (Fd.snd (Fd.snd (Fd.fst Fd.self))) rfl rfl hc5.1 hc5.2 rfl (wants0 rfl) rfl rfl rfl ?_
     refine T.ldFRo 0 (.plan rfl) (Fd.snd (Fd.snd (Fd.snd Fd.self))) (Sh.pair Sh.sc (Sh.pair Sh.sc Sh.slice)) rfl (.inl rfl) rfl rfl hc6.1 hc6.2 rfl (wants0 rfl) rfl rfl rfl (v := fun x18 => .agg #[.int .i64 ((((((l0).getD (s6.2 : Int).toNat default)).2.2.2).1)), .int .i64 ((((((l0).getD (s6.2 : Int).toNat default)).2.2.2).2.1)), .slice x18.2.2.1 (((((((l0).getD (s6.2 : Int).toNat default)).2.2.2).2.2)).length) x18.2.2.2]) (hs' := fun x18 => Ro (Elt.slice (Elt.pair E64 (Elt.pair E64 EStr))) x18.2.2.1 x18.2.2.2 ((((((l0).getD (s6.2 : Int).toNat default)).2.2.2).2.2)) :: Ro (Elt.pair E64 (Elt.pair E64 (Elt.pair E64 (Elt.pair E64 (Elt.pair E64 (Elt.slice (Elt.slice (Elt.pair E64 (Elt.pair E64 EStr))))))))) A0 c0 l0 :: Ro (Elt.pair E64 (Elt.pair E64 (Elt.pair E64 (Elt.pair E64 (Elt.pair E64 (Elt.slice (Elt.slice (Elt.pair E64 (Elt.pair E64 EStr))))))))) A1 c1 l1 :: Cl x2.1 84 [.pointer (some ⟨x2.2.1, 0, none⟩), .slice x16.1 s6.1.length x16.2] :: ck4 x2.2.1 r1p0.2.1 x2.2.2.1 :: ck2 x2.2.2.1 r1p0.2.2.1 x2.2.2.2.1 x2.2.2.2.2.2.2.2.2.1 x2.2.2.2.2.2.2.2.2.2.1 :: ck1 x2.2.2.2.1 r1p0.2.2.2.1 x2.2.2.2.2.1 x2.2.2.2.2.2.1 :: Mp E64 x2.2.2.2.2.1 r1p0.2.2.2.2.1 :: ck0 x2.2.2.2.2.2.1 r1p0.2.2.2.2.2.1 x2.2.2.2.2.2.2.1 x2.2.2.2.2.2.2.2.1.1 r1p0.2.2.2.2.2.2.2.1.length x2.2.2.2.2.2.2.2.1.2 :: Mp (Elt.slice E8) x2.2.2.2.2.2.2.1 r1p0.2.2.2.2.2.2.1 :: Bf (Elt.pair E64 (Elt.slice E8)) 174 x2.2.2.2.2.2.2.2.1.1 x2.2.2.2.2.2.2.2.1.2 r1p0.2.2.2.2.2.2.2.1 :: Mp E64 x2.2.2.2.2.2.2.2.2.1 r1p0.2.2.2.2.2.2.2.2.1 :: Mp E64 x2.2.2.2.2.2.2.2.2.2.1 r1p0.2.2.2.2.2.2.2.2.2.1 :: Bf (Elt.pair (Elt.pair E64 (Elt.pair (Elt.slice E8) (Elt.slice E8))) EBool) 88 x16.1 x16.2 s6.1 :: hs) (fun _ => rfl) (fun _ => rfl) (fun x18 => ?_)
     refine T.pick [3, 4, 5, 6, 7, 8, 9, 10, 11, 12, 13, 0, 1, 2] 14 rfl rfl nla (hs' := Cl x2.1 84 [.pointer (some ⟨x2.2.1, 0, none⟩), .slice x16.1 s6.1.length x16.2] :: ck4 x2.2.1 r1p0.2.1 x2.2.2.1 :: ck2 x2.2.2.1 r1p0.2.2.1 x2.2.2.2.1 x2.2.2.2.2.2.2.2.2.1 x2.2.2.2.2.2.2.2.2.2.1 :: ck1 x2.2.2.2.1 r1p0.2.2.2.1 x2.2.2.2.2.1 x2.2.2.2.2.2.1 :: Mp E64 x2.2.2.2.2.1 r1p0.2.2.2.2.1 :: ck0 x2.2.2.2.2.2.1 r1p0.2.2.2.2.2.1 x2.2.2.2.2.2.2.1 x2.2.2.2.2.2.2.2.1.1 r1p0.2.2.2.2.2.2.2.1.length x2.2.2.2.2.2.2.2.1.2 :: Mp (Elt.slice E8) x2.2.2.2.2.2.2.1 r1p0.2.2.2.2.2.2.1 :: Bf (Elt.pair E64 (Elt.slice E8)) 174 x2.2.2.2.2.2.2.2.1.1 x2.2.2.2.2.2.2.2.1.2 r1p0.2.2.2.2.2.2.2.1 :: Mp E64 x2.2.2.2.2.2.2.2.2.1 r1p0.2.2.2.2.2.2.2.2.1 :: Mp E64 x2.2.2.2.2.2.2.2.2.2.1 r1p0.2.2.2.2.2.2.2.2.2.1 :: Bf (Elt.pair (Elt.pair E64 (Elt.pair (Elt.slice E8) (Elt.slice E8))) EBool) 88 x16.1 x16.2 s6.1 :: Ro (Elt.slice (Elt.pair E64 (Elt.pair E64 EStr))) x18.2.2.1 x18.2.2.2 ((((((l0).getD (s6.2 : Int).toNat default)).2.2.2).2.2)) :: Ro (Elt.pair E64 (Elt.pair E64 (Elt.pair E64 (Elt.pair E64 (Elt.pair E64 (Elt.slice (Elt.slice (Elt.pair E64 (Elt.pair E64 EStr))))))))) A0 c0 l0 :: Ro (Elt.pair E64 (Elt.pair E64 (Elt.pair E64 (Elt.pair E64 (Elt.pair E64 (Elt.slice (Elt.slice (Elt.pair E64 (Elt.pair E64 EStr))))))))) A1 c1 l1 :: hs) rfl ?_
     obtain ⟨r9, hg9, hk5⟩ := inv_bind hk5
     refine T.call (.plan rfl) (wants0 rfl) rfl (run_callF (vs := [_, _, _, _]) rfl Tryd.func6 rfl (by decide) rfl) (fun w hS => session_Keep.c hB hS (i3a := 11) (o0a := r1p0.2.1) (o0aa := r1p0.2.2.1) (o0aaa := r1p0.2.2.2.1) (q0aaab := r1p0.2.2.2.2.1) (o0aaac := r1p0.2.2.2.2.2.1) (q0aaacb := r1p0.2.2.2.2.2.2.1) (q0aaacc := r1p0.2.2.2.2.2.2.2.1) (q0aah := r1p0.2.2.2.2.2.2.2.2.1) (q0aak := r1p0.2.2.2.2.2.2.2.2.2.1) (q0b := s6.1) (a3 := (((l0).getD (s6.2 : Int).toNat default)).2.2.2) rfl hg9) (fun x19 => ?_)
     refine T.planEnd ?_
     refine T.in_normal ?_
     refine T.then_normal ?_
     refine T.region ?_
     refine T.move .list rfl (wants0 rfl) rfl rfl ?_
     refine T.bin .list rfl (wants0 rfl) rfl rfl rfl rfl ?_
     refine T.assign .list rfl (wants0 rfl) rfl rfl ?_
     refine T.nil ?_
     refine T.then_normal ?_
     obtain rfl := inv_some hk5
     exact T.le (EnvLe.cons rfl (EnvLe.cons rfl (EnvLe.cons rfl (EnvLe.cons rfl (EnvLe.cons rfl EnvLe.nil))))) (T.pick [12, 13, 0, 1, 2, 3, 4, 5, 6, 7, 8, 9, 10] 14 rfl rfl nla rfl (hm2 (r9.2, IntKind.i64.wrap (s6.2 + 1)) rfl x19))
    ·replace hk5 := inv_negB hb10 hk5
     refine T.exit ?_
     refine T.then_exit ?_
     refine T.then_exit ?_
     obtain rfl := inv_some hk5
     obtain rfl := hx2 _ rfl
     refine T.in_hit ?_
     refine T.then_normal ?_
     exact T.le (EnvLe.cons rfl (EnvLe.cons rfl (EnvLe.cons rfl EnvLe.nil))) (T.pick [1, 2, 3, 4, 5, 6, 7, 8, 9, 10, 11, 12] 13 rfl rfl nla rfl (J1 s6.1 x16 hr))
   ·refine T.region ?_
    refine T.move .list rfl (wants0 rfl) rfl rfl ?_
    refine T.move .list rfl (wants0 rfl) rfl rfl ?_
    refine T.lenSlice .list rfl (wants0 rfl) rfl rfl ?_
    refine T.bin .list rfl (wants0 rfl) rfl rfl rfl rfl ?_
    refine T.move .list rfl (wants0 rfl) rfl rfl ?_
    refine T.bool (b := (decide (s6.2 < ((l0.length : Int))))) (fun hb11 => ?_) (fun hb11 => ?_)
    ·replace he2 := inv_posB hb11 he2
     refine T.move .list rfl (wants1 rfl rfl rfl hb11) rfl rfl ?_
     refine T.bin .list rfl (wants1 rfl rfl rfl hb11) rfl rfl rfl rfl ?_
     refine T.pickT .list rfl (wants0 rfl) rfl rfl hb11 rfl ?_
     refine T.nil ?_
     refine T.then_normal ?_
     exact T.le (EnvLe.cons rfl (EnvLe.cons rfl (EnvLe.cons rfl (EnvLe.cons rfl (EnvLe.cons rfl (EnvLe.cons rfl EnvLe.nil)))))) (T.pick [0, 1, 2, 3, 4, 5, 6, 7, 8, 9, 10, 11, 12] 13 rfl rfl nla rfl (J5 (decide (s6.2 < 20)) () he2))
    ·replace he2 := inv_negB hb11 he2
     refine T.leave .list (wantsNot rfl rfl rfl hb11) rfl ?_
     refine T.leave .list (wantsNot rfl rfl rfl hb11) rfl ?_
     refine T.pickF .list rfl (wants0 rfl) rfl rfl hb11 rfl ?_
     refine T.nil ?_
     refine T.then_normal ?_
     exact T.le (EnvLe.cons rfl (EnvLe.cons rfl (EnvLe.cons rfl (EnvLe.cons rfl (EnvLe.cons rfl (EnvLe.cons rfl EnvLe.nil)))))) (T.pick [0, 1, 2, 3, 4, 5, 6, 7, 8, 9, 10, 11, 12] 13 rfl rfl nla rfl (J5 false () he2))
end Go.Proofs.YtdojooblfemmnaaDoor
